/- A word of a kind, as the program asks it, is what the document says. What functions of the program do, printed by wip/tools/sx/sx.py. Which trees may be: the program's questions. Operations' signs, functions over slices. Which types and patterns may be: the program's tests, the document's. Which expressions may be: the program's tests, the document's. -/
import Derived.Test.YtmlghadphdpbjaaGreatDoorRG
import Derived.Test.YtmlghadphdpbjaaGreatDoorRE
set_option linter.all false
set_option autoImplicit false
set_option maxRecDepth 100000
namespace Go.Proofs.YtmlghadphdpbjaaGreatDoor.Pa
open Go Go.Proofs.YtmlghadphdpbjaaGreatDoor.Am
theorem runN_all(p:Int→Bool):∀r:Str,runN p r=r.length↔(r.all λc=>p c.toNat)=true
 |[]=>by simp[runN]
 |c::r=>by
  have ih:=runN_all p r
  have:=runN_le p r
  unfold runN at*
  rw[List.takeWhile_cons,List.all_cons]
  cases p c.toNat
  ·simp
  ·simp only[if_true,List.length_cons,Bool.true_and,←ih]
   omega
theorem wordF_kind(k:Int)(hk:k≠1)(s:Str):(wordF k s).1.1=0∨(wordF k s).1.1=k:=by
 unfold wordF
 split
 ·exact .inl rfl
 ·refine .inr ?_
  show(if (k==1&&keyB s)=true then(5:Int) else k)=k
  rw[show(k==1)=false by simpa using hk]
  rfl
theorem numF_kind(s:Str):(numF s).1.1=0∨(numF s).1.1=4:=by
 unfold numF
 split
 ·exact .inr rfl
 ·exact .inl rfl
theorem tokF_kind(c:UInt8)(r:Str):(smB c.toNat=true∧tokF (c::r)=((wordF 1 ((c::r).take (1+runN ptB r))).1,1+runN ptB r,(wordF 1 ((c::r).take (1+runN ptB r))).2))∨
 (smB c.toNat=false∧cpB c.toNat=true∧tokF (c::r)=((wordF 2 ((c::r).take (1+runN ptB r))).1,1+runN ptB r,(wordF 2 ((c::r).take (1+runN ptB r))).2))∨
 (smB c.toNat=false∧cpB c.toNat=false∧((tokF (c::r)).1.1=0∨(tokF (c::r)).1.1=3∨(tokF (c::r)).1.1=4∨(tokF (c::r)).1.1=6)):=by
 cases h1:smB c.toNat with
 |true=>exact .inl ⟨rfl,by simp only[tokF];rw[if_pos h1]⟩
 |false=>
  cases h2:cpB c.toNat with
  |true=>exact .inr (.inl ⟨rfl,rfl,by simp only[tokF];rw[if_neg (by simp[h1]),if_pos h2]⟩)
  |false=>
   refine .inr (.inr ⟨rfl,rfl,?_⟩)
   simp only[tokF]
   generalize (c.toNat==39&&_)=b3
   rw[if_neg (by simp[h1]),if_neg (by simp[h2])]
   split
   ·rcases wordF_kind 3 (by decide) (r.take (runN ptB r)) with h|h
    ·exact .inl h
    ·exact .inr (.inl h)
   ·split
    ·rcases numF_kind ((c::r).take (1+runN dgB r)) with h|h
     ·exact .inl h
     ·exact .inr (.inr (.inl h))
    ·split
     ·exact .inr (.inr (.inr rfl))
     ·exact .inl rfl
theorem decF{p:Prop}[Decidable p](h:¬p):decide p=false:=decide_eq_false h
theorem speltB_low(s:Str):speltB 1 s=wLow s:=by
 cases s with
 |nil=>rfl
 |cons c r=>
  unfold speltB
  rw[show speltS 1 (c::r)=c::r from rfl]
  simp only[reduceCtorEq,false_or,List.length_cons]
  unfold wLow wordB
  simp only[cond_true]
  split
  ·rename_i h
   rw[decF (p:=r.length<32) (by omega)]
   rfl
  ·rename_i h
   have hm:=runN_all ptB r
   rcases tokF_kind c r with ⟨h1,h2⟩|⟨h1,h2,h3⟩|⟨h1,h2,h3⟩
   ·rw[h2,h1]
    cases ha:r.all (λc=>ptB c.toNat) with
    |false=>
     have hne:¬runN ptB r=r.length:=λe=>by rw[hm.1 e] at ha;cases ha
     simp only[Bool.and_false,Bool.false_and]
     refine decF λhh=>hne ?_
     have:=hh.2.1
     omega
    |true=>
     have he:=hm.2 ha
     rw[he]
     have ht:(c::r).take (1+r.length)=c::r:=by rw[List.take_of_length_le];simp[Nat.add_comm]
     rw[ht]
     unfold wordF
     by_cases hl:r.length<32
     ·rw[decide_eq_true hl,if_neg (by simp only[List.length_cons];omega)]
      cases hk:keyB (c::r)
      ·simp;omega
      ·simp
     ·rw[decF hl,if_pos (by simp only[List.length_cons];omega)]
      simp
   ·rw[h1]
    simp only[Bool.false_and,Bool.and_false]
    refine decF λhh=>?_
    have e:=congrArg (·.1) hh.2.2
    rw[h3] at e
    rcases wordF_kind 2 (by decide) ((c::r).take (1+runN ptB r)) with h|h
    ·have e:(wordF 2 ((c::r).take (1+runN ptB r))).1.1=1:=e
     omega
    ·have e:(wordF 2 ((c::r).take (1+runN ptB r))).1.1=1:=e
     omega
   ·rw[h1]
    simp only[Bool.false_and,Bool.and_false]
    refine decF λhh=>?_
    have e:(tokF (c::r)).1.1=1:=congrArg (·.1) hh.2.2
    omega
theorem speltB_up(s:Str):speltB 2 s=wUp s:=by
 cases s with
 |nil=>rfl
 |cons c r=>
  unfold speltB
  rw[show speltS 2 (c::r)=c::r from rfl]
  simp only[reduceCtorEq,false_or,List.length_cons]
  unfold wUp wordB
  simp only[cond_false]
  split
  ·rename_i h
   rw[decF (p:=r.length<32) (by omega)]
   rfl
  ·rename_i h
   have hm:=runN_all ptB r
   rcases tokF_kind c r with ⟨h1,h2⟩|⟨h1,h2,h3⟩|⟨h1,h2,h3⟩
   ·have hc:cpB c.toNat=false:=by
     simp only[smB,Bool.and_eq_true,decide_eq_true_eq] at h1
     simp only[cpB]
     rw[decF (p:=(c.toNat:Int)≤90) (by omega),Bool.and_false]
    rw[h2,hc]
    simp only[Bool.false_and,Bool.and_false]
    refine decF λhh=>?_
    have e:=congrArg (·.1) hh.2.2
    unfold wordF at e
    simp only at e
    split at e
    ·simp at e
    ·split at e<;>simp at e
   ·rw[h3,h2]
    cases ha:r.all (λc=>ptB c.toNat) with
    |false=>
     have hne:¬runN ptB r=r.length:=λe=>by rw[hm.1 e] at ha;cases ha
     simp only[Bool.and_false,Bool.false_and]
     refine decF λhh=>hne ?_
     have:=hh.2.1
     omega
    |true=>
     have he:=hm.2 ha
     rw[he]
     have ht:(c::r).take (1+r.length)=c::r:=by rw[List.take_of_length_le];simp[Nat.add_comm]
     rw[ht]
     unfold wordF
     by_cases hl:r.length<32
     ·rw[decide_eq_true hl,if_neg (by simp only[List.length_cons];omega)]
      simp
      omega
     ·rw[decF hl,if_pos (by simp only[List.length_cons];omega)]
      simp
   ·rw[h2]
    simp only[Bool.false_and,Bool.and_false]
    refine decF λhh=>?_
    have e:(tokF (c::r)).1.1=2:=congrArg (·.1) hh.2.2
    omega
theorem signF_quote(s:Str):signF (39::s) signL=none:=by
 have key:∀l:List Str,(∀x∈l,∃d t,x=d::t∧d≠39)→signF (39::s) l=none:=by
  intro l
  induction l with
  |nil=>intro _;rfl
  |cons x l ih=>
   intro h
   obtain⟨d,t,rfl,hd⟩:=h x List.mem_cons_self
   unfold signF
   rw[if_neg ?_]
   ·exact ih λy hy=>h y (List.mem_cons_of_mem _ hy)
   ·rw[List.isPrefixOf_iff_prefix]
    intro hp
    rw[List.cons_prefix_cons] at hp
    exact hd hp.1
 refine key signL λx hx=>?_
 simp only[signL,List.mem_cons,List.not_mem_nil,or_false] at hx
 rcases hx with rfl|rfl|rfl|rfl|rfl|rfl|rfl|rfl|rfl|rfl|rfl|rfl|rfl|rfl<;>exact⟨_,_,rfl,by decide⟩
theorem speltB_var(s:Str):speltB 3 s=wVar s:=by
 unfold speltB
 rw[show speltS 3 s=39::s from rfl]
 simp only[reduceCtorEq,false_or,List.length_cons]
 unfold wVar
 have e1:smB ((39:UInt8).toNat:Int)=false:=by decide
 have e2:cpB ((39:UInt8).toNat:Int)=false:=by decide
 have e3:((39:UInt8).toNat==39)=true:=by decide
 have e4:((39:UInt8).toNat==126||dgB ((39:UInt8).toNat:Int))=false:=by decide
 cases s with
 |nil=>decide
 |cons c r=>
  simp only[List.length_cons,wordB,cond_true]
  split
  ·rename_i h
   rw[decF (p:=r.length<32) (by omega)]
   rfl
  ·rename_i h
   have hb:ptB c.toNat=true→runN ptB (c::r)=1+runN ptB r:=λhp=>by
    have:=runN_drop ptB (s:=c::r) (i:=0) (by simp)
    simp only[List.drop_zero,List.getElem_cons_zero,List.drop_succ_cons] at this
    rw[hp] at this
    exact this
   simp only[tokF]
   rw[e1,e2,e3,e4,signF_quote]
   simp only[Bool.false_eq_true,if_false,Bool.true_and]
   cases hs:smB c.toNat with
   |false=>simp
   |true=>
    have hp:ptB c.toNat=true:=by simp[ptB,hs]
    rw[hb hp]
    have hm:=runN_all ptB r
    rw[if_pos (by simp;omega)]
    cases ha:r.all (λc=>ptB c.toNat) with
    |false=>
     have hne:¬runN ptB r=r.length:=λe=>by rw[hm.1 e] at ha;cases ha
     simp only[Bool.and_false]
     refine decF λhh=>hne ?_
     have:=hh.2.1
     omega
    |true=>
     have he:=hm.2 ha
     rw[he]
     have ht:(c::r).take (1+r.length)=c::r:=by rw[List.take_of_length_le];simp[Nat.add_comm]
     rw[ht]
     unfold wordF
     by_cases hl:r.length<32
     ·rw[decide_eq_true hl,if_neg (by simp only[List.length_cons];omega)]
      simp
      omega
     ·rw[decF hl,if_pos (by simp only[List.length_cons];omega)]
      simp
section
variable{s:Str}{g:Glob}{Qf:OGP}
theorem wordLow_ok(hs:s.length≤2^40)(hQ:Qf (.val (.d (.bool (wLow s)))) g):EvF TT 93 [.int .i64 1,.str s] g Qf:=parseword_ok (by decide) hs (λh=>absurd h (by decide)) (qcast hQ (speltB_low s).symm)
theorem wordUp_ok(hs:s.length≤2^40)(hQ:Qf (.val (.d (.bool (wUp s)))) g):EvF TT 93 [.int .i64 2,.str s] g Qf:=parseword_ok (by decide) hs (λh=>absurd h (by decide)) (qcast hQ (speltB_up s).symm)
theorem wordVar_ok(hs:s.length<2^40)(hQ:Qf (.val (.d (.bool (wVar s)))) g):EvF TT 93 [.int .i64 3,.str s] g Qf:=parseword_ok (by decide) (by omega) (λ_=>hs) (qcast hQ (speltB_var s).symm)
end
end Go.Proofs.YtmlghadphdpbjaaGreatDoor.Pa
namespace Go.Proofs.YtmlghadphdpbjaaGreatDoor.Pa
open Go Go.Proofs.YtmlghadphdpbjaaGreatDoor.Am
def L138_2(x0:Dat)(f1:FuncId)(c1:List Dat)(n7:Int)(n8:Int)(g:Glob)(Qf:OGP):Prop:=CutP TT Tryz.f138 [1,0,1,0] Qf (mkC TT 138 Tryz.f138 2 [(0,.v 23 (x0)),(1,.v 124 (.clo f1 c1)),(7,.v 3 (.int .i64 n7)),(8,.v 3 (.int .i64 n8))] [] g)
def lo138:List CutI:=[⟨2,[(0,.keep),(1,.keep),(7,.keep),(8,.keep)],[]⟩]
theorem w138{x0:Dat}{f1:FuncId}{c1:List Dat}{g:Glob}{Qf:OGP}(h0:HasTy TT 23 x0)
 (h:L138_2 x0 f1 c1 (↑(elsOf x0).length:Int) 0 g Qf):
 EvF TT 138 [x0,.clo f1 c1] g Qf:=
 sx_fun (rk:=rk) (fn:=Tryz.f138) (loops:=lo138) (joins:=[]) (n:=100000) (args:=[(23,x0),(124,.clo f1 c1)]) rfl rfl rfl rfl ⟨h0,tyClo rfl,trivial⟩ (by kernel_rfl) h
theorem w138_2{x0:Dat}{f1:FuncId}{c1:List Dat}{n7:Int}{n8:Int}{g:Glob}{Qf:OGP}
 (h:Br (decide (n8<n7)) (InB n8 (elsOf x0).length∧EvF TT f1 (getE (elsOf x0) n8::c1) g (KQ Qf λv g'=>∃b,v=.d (.bool b)∧Br b (Qf (.val (.d (.int .i64 n8))) g') (L138_2 x0 f1 c1 n7 (IntKind.i64.wrap (n8+1)) g' Qf))) (Qf (.val (.d (.int .i64 (-1)))) g)):
 L138_2 x0 f1 c1 n7 n8 g Qf:=sx_cut (rk:=rk) (loops:=lo138) (joins:=[]) (n:=100000) (by kernel_rfl) h
def lo87:List CutI:=[]
theorem w87{x0:Dat}{f1:FuncId}{c1:List Dat}{g:Glob}{Qf:OGP}(h0:HasTy TT 23 x0)
 (h:EvF TT 138 [x0,.clo f1 c1] g (KQ Qf λv g'=>∃n,v=.d (.int .i64 n)∧Qf (.val (.d (.bool (decide (0≤n))))) g')):
 EvF TT 87 [x0,.clo f1 c1] g Qf:=
 sx_fun (rk:=rk) (fn:=Tryz.f87) (loops:=lo87) (joins:=[]) (n:=100000) (args:=[(23,x0),(124,.clo f1 c1)]) rfl rfl rfl rfl ⟨h0,tyClo rfl,trivial⟩ (by kernel_rfl) h
def L140_2(x0:Dat)(f1:FuncId)(c1:List Dat)(n7:Int)(n8:Int)(g:Glob)(Qf:OGP):Prop:=CutP TT Tryz.f140 [1,0,1,0] Qf (mkC TT 140 Tryz.f140 2 [(0,.v 22 (x0)),(1,.v 29 (.clo f1 c1)),(7,.v 3 (.int .i64 n7)),(8,.v 3 (.int .i64 n8))] [] g)
def lo140:List CutI:=[⟨2,[(0,.keep),(1,.keep),(7,.keep),(8,.keep)],[]⟩]
theorem w140{x0:Dat}{f1:FuncId}{c1:List Dat}{g:Glob}{Qf:OGP}(h0:HasTy TT 22 x0)
 (h:L140_2 x0 f1 c1 (↑(elsOf x0).length:Int) 0 g Qf):
 EvF TT 140 [x0,.clo f1 c1] g Qf:=
 sx_fun (rk:=rk) (fn:=Tryz.f140) (loops:=lo140) (joins:=[]) (n:=100000) (args:=[(22,x0),(29,.clo f1 c1)]) rfl rfl rfl rfl ⟨h0,tyClo rfl,trivial⟩ (by kernel_rfl) h
theorem w140_2{x0:Dat}{f1:FuncId}{c1:List Dat}{n7:Int}{n8:Int}{g:Glob}{Qf:OGP}
 (h:Br (decide (n8<n7)) (InB n8 (elsOf x0).length∧EvF TT f1 (getE (elsOf x0) n8::c1) g (KQ Qf λv g'=>∃b,v=.d (.bool b)∧Br b (Qf (.val (.d (.int .i64 n8))) g') (L140_2 x0 f1 c1 n7 (IntKind.i64.wrap (n8+1)) g' Qf))) (Qf (.val (.d (.int .i64 (-1)))) g)):
 L140_2 x0 f1 c1 n7 n8 g Qf:=sx_cut (rk:=rk) (loops:=lo140) (joins:=[]) (n:=100000) (by kernel_rfl) h
def lo90:List CutI:=[]
theorem w90{x0:Dat}{f1:FuncId}{c1:List Dat}{g:Glob}{Qf:OGP}(h0:HasTy TT 22 x0)
 (h:EvF TT 140 [x0,.clo f1 c1] g (KQ Qf λv g'=>∃n,v=.d (.int .i64 n)∧Qf (.val (.d (.bool (decide (0≤n))))) g')):
 EvF TT 90 [x0,.clo f1 c1] g Qf:=
 sx_fun (rk:=rk) (fn:=Tryz.f90) (loops:=lo90) (joins:=[]) (n:=100000) (args:=[(22,x0),(29,.clo f1 c1)]) rfl rfl rfl rfl ⟨h0,tyClo rfl,trivial⟩ (by kernel_rfl) h
def L142_2(x0:Dat)(f1:FuncId)(c1:List Dat)(n7:Int)(n8:Int)(g:Glob)(Qf:OGP):Prop:=CutP TT Tryz.f142 [1,0,1,0] Qf (mkC TT 142 Tryz.f142 2 [(0,.v 26 (x0)),(1,.v 30 (.clo f1 c1)),(7,.v 3 (.int .i64 n7)),(8,.v 3 (.int .i64 n8))] [] g)
def lo142:List CutI:=[⟨2,[(0,.keep),(1,.keep),(7,.keep),(8,.keep)],[]⟩]
theorem w142{x0:Dat}{f1:FuncId}{c1:List Dat}{g:Glob}{Qf:OGP}(h0:HasTy TT 26 x0)
 (h:L142_2 x0 f1 c1 (↑(elsOf x0).length:Int) 0 g Qf):
 EvF TT 142 [x0,.clo f1 c1] g Qf:=
 sx_fun (rk:=rk) (fn:=Tryz.f142) (loops:=lo142) (joins:=[]) (n:=100000) (args:=[(26,x0),(30,.clo f1 c1)]) rfl rfl rfl rfl ⟨h0,tyClo rfl,trivial⟩ (by kernel_rfl) h
theorem w142_2{x0:Dat}{f1:FuncId}{c1:List Dat}{n7:Int}{n8:Int}{g:Glob}{Qf:OGP}
 (h:Br (decide (n8<n7)) (InB n8 (elsOf x0).length∧EvF TT f1 (getE (elsOf x0) n8::c1) g (KQ Qf λv g'=>∃b,v=.d (.bool b)∧Br b (Qf (.val (.d (.int .i64 n8))) g') (L142_2 x0 f1 c1 n7 (IntKind.i64.wrap (n8+1)) g' Qf))) (Qf (.val (.d (.int .i64 (-1)))) g)):
 L142_2 x0 f1 c1 n7 n8 g Qf:=sx_cut (rk:=rk) (loops:=lo142) (joins:=[]) (n:=100000) (by kernel_rfl) h
def lo94:List CutI:=[]
theorem w94{x0:Dat}{f1:FuncId}{c1:List Dat}{g:Glob}{Qf:OGP}(h0:HasTy TT 26 x0)
 (h:EvF TT 142 [x0,.clo f1 c1] g (KQ Qf λv g'=>∃n,v=.d (.int .i64 n)∧Qf (.val (.d (.bool (decide (0≤n))))) g')):
 EvF TT 94 [x0,.clo f1 c1] g Qf:=
 sx_fun (rk:=rk) (fn:=Tryz.f94) (loops:=lo94) (joins:=[]) (n:=100000) (args:=[(26,x0),(30,.clo f1 c1)]) rfl rfl rfl rfl ⟨h0,tyClo rfl,trivial⟩ (by kernel_rfl) h
def L92_2(x0:Dat)(f1:FuncId)(c1:List Dat)(n7:Int)(n8:Int)(g:Glob)(Qf:OGP):Prop:=CutP TT Tryz.f92 [1,0,1,0] Qf (mkC TT 92 Tryz.f92 2 [(0,.v 42 (x0)),(1,.v 96 (.clo f1 c1)),(7,.v 3 (.int .i64 n7)),(8,.v 3 (.int .i64 n8))] [] g)
def lo92:List CutI:=[⟨2,[(0,.keep),(1,.keep),(7,.keep),(8,.keep)],[]⟩]
theorem w92{x0:Dat}{f1:FuncId}{c1:List Dat}{g:Glob}{Qf:OGP}(h0:HasTy TT 42 x0)
 (h:L92_2 x0 f1 c1 (↑(elsOf x0).length:Int) 0 g Qf):
 EvF TT 92 [x0,.clo f1 c1] g Qf:=
 sx_fun (rk:=rk) (fn:=Tryz.f92) (loops:=lo92) (joins:=[]) (n:=100000) (args:=[(42,x0),(96,.clo f1 c1)]) rfl rfl rfl rfl ⟨h0,tyClo rfl,trivial⟩ (by kernel_rfl) h
theorem w92_2{x0:Dat}{f1:FuncId}{c1:List Dat}{n7:Int}{n8:Int}{g:Glob}{Qf:OGP}
 (h:Br (decide (n8<n7)) (InB n8 (elsOf x0).length∧EvF TT f1 (getE (elsOf x0) n8::c1) g (KQ Qf λv g'=>∃b,v=.d (.bool b)∧Br b (Qf (.val (.d (.int .i64 n8))) g') (L92_2 x0 f1 c1 n7 (IntKind.i64.wrap (n8+1)) g' Qf))) (Qf (.val (.d (.int .i64 (-1)))) g)):
 L92_2 x0 f1 c1 n7 n8 g Qf:=sx_cut (rk:=rk) (loops:=lo92) (joins:=[]) (n:=100000) (by kernel_rfl) h
def lo49:List CutI:=[]
theorem w49{x0:Dat}{f1:FuncId}{c1:List Dat}{g:Glob}{Qf:OGP}(h0:HasTy TT 42 x0)
 (h:EvF TT 92 [x0,.clo f1 c1] g (KQ Qf λv g'=>∃n,v=.d (.int .i64 n)∧Qf (.val (.d (.bool (decide (0≤n))))) g')):
 EvF TT 49 [x0,.clo f1 c1] g Qf:=
 sx_fun (rk:=rk) (fn:=Tryz.f49) (loops:=lo49) (joins:=[]) (n:=100000) (args:=[(42,x0),(96,.clo f1 c1)]) rfl rfl rfl rfl ⟨h0,tyClo rfl,trivial⟩ (by kernel_rfl) h
def lo133:List CutI:=[]
theorem w133{x0:Dat}{g:Glob}{Qf:OGP}(h0:HasTy TT 94 x0)
 (h:Br (decide ((↑(elsOf (fld x0 3)).length:Int)≤8)) (EvF TT 87 [fld x0 3,.clo 162 []] g (KQ Qf λv g'=>∃b,v=.d (.bool b)∧Qf (.val (.d (.bool !b))) g')) (Qf (.val (.d (.bool false))) g)):
 EvF TT 133 [x0] g Qf:=
 sx_fun (rk:=rk) (fn:=Tryz.f133) (loops:=lo133) (joins:=[]) (n:=100000) (args:=[(94,x0)]) rfl rfl rfl rfl ⟨h0,trivial⟩ (by kernel_rfl) h
def lo162:List CutI:=[]
theorem w162{x0:Dat}{g:Glob}{Qf:OGP}(h0:HasTy TT 94 x0)
 (h:EvF TT 133 [x0] g (KQ Qf λv g'=>∃b,v=.d (.bool b)∧Qf (.val (.d (.bool !b))) g')):
 EvF TT 162 [x0] g Qf:=
 sx_fun (rk:=rk) (fn:=Tryz.f162) (loops:=lo162) (joins:=[]) (n:=100000) (args:=[(94,x0)]) rfl rfl rfl rfl ⟨h0,trivial⟩ (by kernel_rfl) h
def lo132:List CutI:=[]
theorem w132{x0:Dat}{g:Glob}{Qf:OGP}(h0:HasTy TT 94 x0)
 (h:EvF TT 133 [x0] g (KQ Qf λv g'=>∃b,v=.d (.bool b)∧Qf (.val (.d (.bool !b))) g')):
 EvF TT 132 [x0] g Qf:=
 sx_fun (rk:=rk) (fn:=Tryz.f132) (loops:=lo132) (joins:=[]) (n:=100000) (args:=[(94,x0)]) rfl rfl rfl rfl ⟨h0,trivial⟩ (by kernel_rfl) h
def lo82:List CutI:=[]
theorem w82{x0:Dat}{g:Glob}{Qf:OGP}(h0:HasTy TT 25 x0)
 (h:Br (intOf (fld x0 0)==8) (Br (decide (8<(↑(elsOf (fld x0 4)).length:Int))) (Qf (.val (.d (.bool false))) g) (EvF TT 87 [fld x0 5,.clo 132 []] g (KQ Qf λv g'=>∃b,v=.d (.bool b)∧Br (!b) (EvF TT 90 [fld x0 4,.clo 134 []] g' (KQ Qf λv g'=>∃b,v=.d (.bool b)∧Qf (.val (.d (.bool !b))) g')) (Qf (.val (.d (.bool false))) g')))) (EvF TT 87 [fld x0 5,.clo 132 []] g (KQ Qf λv g'=>∃b,v=.d (.bool b)∧Br (!b) (EvF TT 90 [fld x0 4,.clo 134 []] g' (KQ Qf λv g'=>∃b,v=.d (.bool b)∧Qf (.val (.d (.bool !b))) g')) (Qf (.val (.d (.bool false))) g')))):
 EvF TT 82 [x0] g Qf:=
 sx_fun (rk:=rk) (fn:=Tryz.f82) (loops:=lo82) (joins:=[]) (n:=100000) (args:=[(25,x0)]) rfl rfl rfl rfl ⟨h0,trivial⟩ (by kernel_rfl) h
def lo134:List CutI:=[]
theorem w134{x0:Dat}{g:Glob}{Qf:OGP}(h0:HasTy TT 25 x0)
 (h:EvF TT 82 [x0] g (KQ Qf λv g'=>∃b,v=.d (.bool b)∧Qf (.val (.d (.bool !b))) g')):
 EvF TT 134 [x0] g Qf:=
 sx_fun (rk:=rk) (fn:=Tryz.f134) (loops:=lo134) (joins:=[]) (n:=100000) (args:=[(25,x0)]) rfl rfl rfl rfl ⟨h0,trivial⟩ (by kernel_rfl) h
def L38_4(x30:Dat)(n31:Int)(n32:Int)(y1:Dat)(g:Glob)(Qf:OGP):Prop:=CutP TT Tryz.f38 [1,1,0,1,0] Qf (mkC TT 38 Tryz.f38 1 [(1,.loc 1 0 0),(30,.v 42 (x30)),(31,.v 3 (.int .i64 n31)),(32,.v 3 (.int .i64 n32))] [(1,.whole 44 y1)] g)
def L38_9(x30:Dat)(n31:Int)(n32:Int)(x47:Dat)(n48:Int)(n49:Int)(y1:Dat)(g:Glob)(Qf:OGP):Prop:=CutP TT Tryz.f38 [1,1,0,1,0,0,1,1,0,0,1,1,1,0] Qf (mkC TT 38 Tryz.f38 1 [(1,.loc 1 0 0),(30,.v 42 (x30)),(31,.v 3 (.int .i64 n31)),(32,.v 3 (.int .i64 n32)),(47,.v 48 (x47)),(48,.v 3 (.int .i64 n48)),(49,.v 3 (.int .i64 n49))] [(1,.whole 44 y1)] g)
def L38_17(n7:Int)(x63:Dat)(n64:Int)(n65:Int)(g:Glob)(Qf:OGP):Prop:=CutP TT Tryz.f38 [1,1,1,1,0,1,0] Qf (mkC TT 38 Tryz.f38 1 [(7,.v 3 (.int .i64 n7)),(63,.v 42 (x63)),(64,.v 3 (.int .i64 n64)),(65,.v 3 (.int .i64 n65))] [] g)
def L38_20(n7:Int)(x63:Dat)(n64:Int)(n65:Int)(x70:Dat)(n71:Int)(n72:Int)(g:Glob)(Qf:OGP):Prop:=CutP TT Tryz.f38 [1,1,1,1,0,1,0,0,1,1,0,0,1,1,0] Qf (mkC TT 38 Tryz.f38 1 [(7,.v 3 (.int .i64 n7)),(63,.v 42 (x63)),(64,.v 3 (.int .i64 n64)),(65,.v 3 (.int .i64 n65)),(70,.v 48 (x70)),(71,.v 3 (.int .i64 n71)),(72,.v 3 (.int .i64 n72))] [] g)
def L38_23(n7:Int)(x63:Dat)(n64:Int)(n65:Int)(x70:Dat)(n71:Int)(n72:Int)(x77:Dat)(n78:Int)(n79:Int)(g:Glob)(Qf:OGP):Prop:=CutP TT Tryz.f38 [1,1,1,1,0,1,0,0,1,1,0,0,1,1,0,0,1,1,0,0,1,1,0] Qf (mkC TT 38 Tryz.f38 1 [(7,.v 3 (.int .i64 n7)),(63,.v 42 (x63)),(64,.v 3 (.int .i64 n64)),(65,.v 3 (.int .i64 n65)),(70,.v 48 (x70)),(71,.v 3 (.int .i64 n71)),(72,.v 3 (.int .i64 n72)),(77,.v 26 (x77)),(78,.v 3 (.int .i64 n78)),(79,.v 3 (.int .i64 n79))] [] g)
def lo38:List CutI:=[⟨4,[(1,.keep),(30,.keep),(31,.keep),(32,.keep)],[(1,.whole 44)]⟩,⟨9,[(1,.keep),(30,.keep),(31,.keep),(32,.keep),(47,.keep),(48,.keep),(49,.keep)],[(1,.whole 44)]⟩,⟨17,[(7,.keep),(63,.keep),(64,.keep),(65,.keep)],[]⟩,⟨20,[(7,.keep),(63,.keep),(64,.keep),(65,.keep),(70,.keep),(71,.keep),(72,.keep)],[]⟩,⟨23,[(7,.keep),(63,.keep),(64,.keep),(65,.keep),(70,.keep),(71,.keep),(72,.keep),(77,.keep),(78,.keep),(79,.keep)],[]⟩]
theorem w38{x0:Dat}{g:Glob}{Qf:OGP}(h0:HasTy TT 44 x0)
 (h:Br (decide (32<(↑(elsOf (fld x0 0)).length:Int))) (Qf (.val (.d (.int .i64 3))) g) (EvF TT 81 [x0] g (KQ Qf λv g'=>∃n,v=.d (.int .i64 n)∧Br (decide (2048<n)) (Qf (.val (.d (.int .i64 3))) g') (EvF TT 82 [sub x0 1 7] g' (KQ Qf λv g'=>∃b,v=.d (.bool b)∧Br (!b) (Qf (.val (.d (.int .i64 3))) g') (L38_4 (fld x0 0) (↑(elsOf (fld x0 0)).length:Int) 0 x0 g' Qf)))))):
 EvF TT 38 [x0] g Qf:=
 sx_fun (rk:=rk) (fn:=Tryz.f38) (loops:=lo38) (joins:=[]) (n:=100000) (args:=[(44,x0)]) rfl rfl rfl rfl ⟨h0,trivial⟩ (by kernel_rfl) h
theorem w38_4{x30:Dat}{n31:Int}{n32:Int}{y1:Dat}{g:Glob}{Qf:OGP}
 (h:Br (decide (n32<n31)) (InB n32 (elsOf x30).length∧Br (decide (4<(↑(elsOf (fld (getE (elsOf x30) n32) 1)).length:Int))) (Qf (.val (.d (.int .i64 3))) g) (Br (decide (32<(↑(elsOf (fld (getE (elsOf x30) n32) 2)).length:Int))) (Qf (.val (.d (.int .i64 3))) g) (L38_9 x30 n31 n32 (fld (getE (elsOf x30) n32) 2) (↑(elsOf (fld (getE (elsOf x30) n32) 2)).length:Int) 0 y1 g Qf))) (EvF TT 83 [sub y1 1 7] g (KQ Qf λv g'=>∃n,v=.d (.int .i64 n)∧L38_17 n (fld y1 0) (↑(elsOf (fld y1 0)).length:Int) 0 g' Qf))):
 L38_4 x30 n31 n32 y1 g Qf:=sx_cut (rk:=rk) (loops:=lo38) (joins:=[]) (n:=100000) (by kernel_rfl) h
theorem w38_9{x30:Dat}{n31:Int}{n32:Int}{x47:Dat}{n48:Int}{n49:Int}{y1:Dat}{g:Glob}{Qf:OGP}
 (h:Br (decide (n49<n48)) (InB n49 (elsOf x47).length∧Br (decide (8<(↑(elsOf (fld (getE (elsOf x47) n49) 1)).length:Int))) (Qf (.val (.d (.int .i64 3))) g) (L38_9 x30 n31 n32 x47 n48 (IntKind.i64.wrap (n49+1)) y1 g Qf)) (L38_4 x30 n31 (IntKind.i64.wrap (n32+1)) y1 g Qf)):
 L38_9 x30 n31 n32 x47 n48 n49 y1 g Qf:=sx_cut (rk:=rk) (loops:=lo38) (joins:=[]) (n:=100000) (by kernel_rfl) h
theorem w38_17{n7:Int}{x63:Dat}{n64:Int}{n65:Int}{g:Glob}{Qf:OGP}
 (h:Br (decide (n65<n64)) (InB n65 (elsOf x63).length∧L38_20 n7 x63 n64 n65 (fld (getE (elsOf x63) n65) 2) (↑(elsOf (fld (getE (elsOf x63) n65) 2)).length:Int) 0 g Qf) (Br (decide (256<n7)) (Qf (.val (.d (.int .i64 4))) g) (Qf (.val (.d (.int .i64 0))) g))):
 L38_17 n7 x63 n64 n65 g Qf:=sx_cut (rk:=rk) (loops:=lo38) (joins:=[]) (n:=100000) (by kernel_rfl) h
theorem w38_20{n7:Int}{x63:Dat}{n64:Int}{n65:Int}{x70:Dat}{n71:Int}{n72:Int}{g:Glob}{Qf:OGP}
 (h:Br (decide (n72<n71)) (InB n72 (elsOf x70).length∧L38_23 n7 x63 n64 n65 x70 n71 n72 (fld (getE (elsOf x70) n72) 1) (↑(elsOf (fld (getE (elsOf x70) n72) 1)).length:Int) 0 g Qf) (L38_17 n7 x63 n64 (IntKind.i64.wrap (n65+1)) g Qf)):
 L38_20 n7 x63 n64 n65 x70 n71 n72 g Qf:=sx_cut (rk:=rk) (loops:=lo38) (joins:=[]) (n:=100000) (by kernel_rfl) h
theorem w38_23{n7:Int}{x63:Dat}{n64:Int}{n65:Int}{x70:Dat}{n71:Int}{n72:Int}{x77:Dat}{n78:Int}{n79:Int}{g:Glob}{Qf:OGP}
 (h:Br (decide (n79<n78)) (InB n79 (elsOf x77).length∧EvF TT 84 [getE (elsOf x77) n79] g (KQ Qf λv g'=>∃n,v=.d (.int .i64 n)∧L38_23 (maxS true n7 n) x63 n64 n65 x70 n71 n72 x77 n78 (IntKind.i64.wrap (n79+1)) g' Qf)) (L38_20 n7 x63 n64 n65 x70 n71 (IntKind.i64.wrap (n72+1)) g Qf)):
 L38_23 n7 x63 n64 n65 x70 n71 n72 x77 n78 n79 g Qf:=sx_cut (rk:=rk) (loops:=lo38) (joins:=[]) (n:=100000) (by kernel_rfl) h
def lo89:List CutI:=[]
theorem w89{x0:Dat}{g:Glob}{Qf:OGP}(h0:HasTy TT 94 x0)
 (h:Br (intOf (fld x0 0)==1) (Br (strOf (fld x0 1)==[]) (Br (intOf (fld x0 2)==0) (Br ((↑(elsOf (fld x0 3)).length:Int)==0) (EvF TT 87 [fld x0 3,.clo 139 []] g (KQ Qf λv g'=>∃b,v=.d (.bool b)∧Qf (.val (.d (.bool !b))) g')) (Qf (.val (.d (.bool false))) g)) (Qf (.val (.d (.bool false))) g)) (Qf (.val (.d (.bool false))) g)) (Br (intOf (fld x0 0)==2) (EvF TT 93 [.int .i64 1,.str (strOf (fld x0 1))] g (KQ Qf λv g'=>∃b,v=.d (.bool b)∧Br b (Br (intOf (fld x0 2)==0) (Br ((↑(elsOf (fld x0 3)).length:Int)==0) (EvF TT 87 [fld x0 3,.clo 139 []] g' (KQ Qf λv g'=>∃b,v=.d (.bool b)∧Qf (.val (.d (.bool !b))) g')) (Qf (.val (.d (.bool false))) g')) (Qf (.val (.d (.bool false))) g')) (Qf (.val (.d (.bool false))) g'))) (Br (intOf (fld x0 0)==3) (Br (strOf (fld x0 1)==[]) (EvF TT 136 [.int .i64 (intOf (fld x0 2))] g (KQ Qf λv g'=>∃b,v=.d (.bool b)∧Br b (Br ((↑(elsOf (fld x0 3)).length:Int)==0) (EvF TT 87 [fld x0 3,.clo 139 []] g' (KQ Qf λv g'=>∃b,v=.d (.bool b)∧Qf (.val (.d (.bool !b))) g')) (Qf (.val (.d (.bool false))) g')) (Qf (.val (.d (.bool false))) g'))) (Qf (.val (.d (.bool false))) g)) (Br (intOf (fld x0 0)==4) (EvF TT 93 [.int .i64 2,.str (strOf (fld x0 1))] g (KQ Qf λv g'=>∃b,v=.d (.bool b)∧Br b (Br (intOf (fld x0 2)==0) (EvF TT 87 [fld x0 3,.clo 139 []] g' (KQ Qf λv g'=>∃b,v=.d (.bool b)∧Qf (.val (.d (.bool !b))) g')) (Qf (.val (.d (.bool false))) g')) (Qf (.val (.d (.bool false))) g'))) (Qf (.val (.d (.bool false))) g))))):
 EvF TT 89 [x0] g Qf:=
 sx_fun (rk:=rk) (fn:=Tryz.f89) (loops:=lo89) (joins:=[]) (n:=100000) (args:=[(94,x0)]) rfl rfl rfl rfl ⟨h0,trivial⟩ (by kernel_rfl) h
def lo139:List CutI:=[]
theorem w139{x0:Dat}{g:Glob}{Qf:OGP}(h0:HasTy TT 94 x0)
 (h:EvF TT 89 [x0] g (KQ Qf λv g'=>∃b,v=.d (.bool b)∧Qf (.val (.d (.bool !b))) g')):
 EvF TT 139 [x0] g Qf:=
 sx_fun (rk:=rk) (fn:=Tryz.f139) (loops:=lo139) (joins:=[]) (n:=100000) (args:=[(94,x0)]) rfl rfl rfl rfl ⟨h0,trivial⟩ (by kernel_rfl) h
def lo88:List CutI:=[]
theorem w88{x0:Dat}{g:Glob}{Qf:OGP}(h0:HasTy TT 94 x0)
 (h:EvF TT 89 [x0] g (KQ Qf λv g'=>∃b,v=.d (.bool b)∧Qf (.val (.d (.bool !b))) g')):
 EvF TT 88 [x0] g Qf:=
 sx_fun (rk:=rk) (fn:=Tryz.f88) (loops:=lo88) (joins:=[]) (n:=100000) (args:=[(94,x0)]) rfl rfl rfl rfl ⟨h0,trivial⟩ (by kernel_rfl) h
def lo96:List CutI:=[]
theorem w96{x0:Dat}{g:Glob}{Qf:OGP}(h0:HasTy TT 28 x0)
 (h:Br (intOf (fld x0 0)==1) (Br (strOf (fld x0 1)==[]) (Br ((↑(elsOf (fld x0 3)).length:Int)==0) (Br (intOf (fld x0 2)==0) (EvF TT 94 [fld x0 3,.clo 143 []] g (KQ Qf λv g'=>∃b,v=.d (.bool b)∧Qf (.val (.d (.bool !b))) g')) (Qf (.val (.d (.bool false))) g)) (Qf (.val (.d (.bool false))) g)) (Qf (.val (.d (.bool false))) g)) (Br (intOf (fld x0 0)==2) (EvF TT 93 [.int .i64 3,.str (strOf (fld x0 1))] g (KQ Qf λv g'=>∃b,v=.d (.bool b)∧Br b (Br ((↑(elsOf (fld x0 3)).length:Int)==0) (Br (intOf (fld x0 2)==0) (EvF TT 94 [fld x0 3,.clo 143 []] g' (KQ Qf λv g'=>∃b,v=.d (.bool b)∧Qf (.val (.d (.bool !b))) g')) (Qf (.val (.d (.bool false))) g')) (Qf (.val (.d (.bool false))) g')) (Qf (.val (.d (.bool false))) g'))) (Br (intOf (fld x0 0)==3) (Br (strOf (fld x0 1)==[]) (Br ((↑(elsOf (fld x0 3)).length:Int)==2) (Br (intOf (fld x0 2)==0) (EvF TT 94 [fld x0 3,.clo 143 []] g (KQ Qf λv g'=>∃b,v=.d (.bool b)∧Qf (.val (.d (.bool !b))) g')) (Qf (.val (.d (.bool false))) g)) (Qf (.val (.d (.bool false))) g)) (Qf (.val (.d (.bool false))) g)) (Br (intOf (fld x0 0)==4) (EvF TT 93 [.int .i64 1,.str (strOf (fld x0 1))] g (KQ Qf λv g'=>∃b,v=.d (.bool b)∧Br b (Br (!strOf (fld x0 1)==[105,110,116]) (Br (intOf (fld x0 2)==0) (EvF TT 94 [fld x0 3,.clo 143 []] g' (KQ Qf λv g'=>∃b,v=.d (.bool b)∧Qf (.val (.d (.bool !b))) g')) (Qf (.val (.d (.bool false))) g')) (Qf (.val (.d (.bool false))) g')) (Qf (.val (.d (.bool false))) g'))) (Qf (.val (.d (.bool false))) g))))):
 EvF TT 96 [x0] g Qf:=
 sx_fun (rk:=rk) (fn:=Tryz.f96) (loops:=lo96) (joins:=[]) (n:=100000) (args:=[(28,x0)]) rfl rfl rfl rfl ⟨h0,trivial⟩ (by kernel_rfl) h
def lo143:List CutI:=[]
theorem w143{x0:Dat}{g:Glob}{Qf:OGP}(h0:HasTy TT 28 x0)
 (h:EvF TT 96 [x0] g (KQ Qf λv g'=>∃b,v=.d (.bool b)∧Qf (.val (.d (.bool !b))) g')):
 EvF TT 143 [x0] g Qf:=
 sx_fun (rk:=rk) (fn:=Tryz.f143) (loops:=lo143) (joins:=[]) (n:=100000) (args:=[(28,x0)]) rfl rfl rfl rfl ⟨h0,trivial⟩ (by kernel_rfl) h
def lo95:List CutI:=[]
theorem w95{x0:Dat}{g:Glob}{Qf:OGP}(h0:HasTy TT 28 x0)
 (h:EvF TT 96 [x0] g (KQ Qf λv g'=>∃b,v=.d (.bool b)∧Qf (.val (.d (.bool !b))) g')):
 EvF TT 95 [x0] g Qf:=
 sx_fun (rk:=rk) (fn:=Tryz.f95) (loops:=lo95) (joins:=[]) (n:=100000) (args:=[(28,x0)]) rfl rfl rfl rfl ⟨h0,trivial⟩ (by kernel_rfl) h
def lo86:List CutI:=[]
theorem w86{x0:Dat}{g:Glob}{Qf:OGP}(h0:HasTy TT 25 x0)
 (h:Br (intOf (fld x0 0)==1) (Br (intOf (fld x0 0)==1) (EvF TT 93 [.int .i64 1,.str (strOf (fld x0 1))] g (KQ Qf λv g'=>∃b,v=.d (.bool b)∧Qf (.val (.d (.bool b))) g')) (Br (intOf (fld x0 0)==6) (EvF TT 93 [.int .i64 1,.str (strOf (fld x0 1))] g (KQ Qf λv g'=>∃b,v=.d (.bool b)∧Br b (EvF TT 93 [.int .i64 1,.str (strOf (fld x0 2))] g' (KQ Qf λv g'=>∃b,v=.d (.bool b)∧Qf (.val (.d (.bool b))) g')) (Qf (.val (.d (.bool false))) g'))) (Br (intOf (fld x0 0)==2) (EvF TT 136 [.int .i64 (intOf (fld x0 3))] g (KQ Qf λv g'=>∃b,v=.d (.bool b)∧Qf (.val (.d (.bool b))) g')) (Br (intOf (fld x0 0)==7) (Qf (.val (.d (.bool (decide (0<(↑(elsOf (fld x0 5)).length:Int)))))) g) (Br (intOf (fld x0 0)==8) (EvF TT 93 [.int .i64 2,.str (strOf (fld x0 1))] g (KQ Qf λv g'=>∃b,v=.d (.bool b)∧Qf (.val (.d (.bool b))) g')) (Br (intOf (fld x0 0)==9) (EvF TT 137 [.str (strOf (fld x0 1))] g (KQ Qf λv g'=>∃n,v=.d (.int .i64 n)∧Qf (.val (.d (.bool (n !=0)))) g')) (Qf (.val (.d (.bool true))) g)))))))
 (Br (intOf (fld x0 0)==3) (Br (intOf (fld x0 0)==3) (EvF TT 93 [.int .i64 1,.str (strOf (fld x0 1))] g (KQ Qf λv g'=>∃b,v=.d (.bool b)∧Qf (.val (.d (.bool b))) g')) (Br (intOf (fld x0 0)==6) (EvF TT 93 [.int .i64 1,.str (strOf (fld x0 1))] g (KQ Qf λv g'=>∃b,v=.d (.bool b)∧Br b (EvF TT 93 [.int .i64 1,.str (strOf (fld x0 2))] g' (KQ Qf λv g'=>∃b,v=.d (.bool b)∧Qf (.val (.d (.bool b))) g')) (Qf (.val (.d (.bool false))) g'))) (Br (intOf (fld x0 0)==2) (EvF TT 136 [.int .i64 (intOf (fld x0 3))] g (KQ Qf λv g'=>∃b,v=.d (.bool b)∧Qf (.val (.d (.bool b))) g')) (Br (intOf (fld x0 0)==7) (Qf (.val (.d (.bool (decide (0<(↑(elsOf (fld x0 5)).length:Int)))))) g) (Br (intOf (fld x0 0)==8) (EvF TT 93 [.int .i64 2,.str (strOf (fld x0 1))] g (KQ Qf λv g'=>∃b,v=.d (.bool b)∧Qf (.val (.d (.bool b))) g')) (Br (intOf (fld x0 0)==9) (EvF TT 137 [.str (strOf (fld x0 1))] g (KQ Qf λv g'=>∃n,v=.d (.int .i64 n)∧Qf (.val (.d (.bool (n !=0)))) g')) (Qf (.val (.d (.bool true))) g))))))) (Br (intOf (fld x0 0)==5) (EvF TT 93 [.int .i64 1,.str (strOf (fld x0 1))] g (KQ Qf λv g'=>∃b,v=.d (.bool b)∧Qf (.val (.d (.bool b))) g')) (Br (intOf (fld x0 0)==6) (EvF TT 93 [.int .i64 1,.str (strOf (fld x0 1))] g (KQ Qf λv g'=>∃b,v=.d (.bool b)∧Br b (EvF TT 93 [.int .i64 1,.str (strOf (fld x0 2))] g' (KQ Qf λv g'=>∃b,v=.d (.bool b)∧Qf (.val (.d (.bool b))) g')) (Qf (.val (.d (.bool false))) g'))) (Br (intOf (fld x0 0)==2) (EvF TT 136 [.int .i64 (intOf (fld x0 3))] g (KQ Qf λv g'=>∃b,v=.d (.bool b)∧Qf (.val (.d (.bool b))) g')) (Br (intOf (fld x0 0)==7) (Qf (.val (.d (.bool (decide (0<(↑(elsOf (fld x0 5)).length:Int)))))) g) (Br (intOf (fld x0 0)==8) (EvF TT 93 [.int .i64 2,.str (strOf (fld x0 1))] g (KQ Qf λv g'=>∃b,v=.d (.bool b)∧Qf (.val (.d (.bool b))) g')) (Br (intOf (fld x0 0)==9) (EvF TT 137 [.str (strOf (fld x0 1))] g (KQ Qf λv g'=>∃n,v=.d (.int .i64 n)∧Qf (.val (.d (.bool (n !=0)))) g')) (Qf (.val (.d (.bool true))) g))))))))):
  EvF TT 86 [x0] g Qf:=
 sx_fun (rk:=rk) (fn:=Tryz.f86) (loops:=lo86) (joins:=[]) (n:=100000) (args:=[(25,x0)]) rfl rfl rfl rfl ⟨h0,trivial⟩ (by kernel_rfl) h
def lo48:List CutI:=[]
theorem w48{x0:Dat}{g:Glob}{Qf:OGP}(h0:HasTy TT 25 x0)
 (h:Br (intOf (fld x0 0)==1) (Br ((↑(elsOf (fld x0 4)).length:Int)!=0) (Qf (.val (.d (.bool false))) g) (Br (!strOf (fld x0 1)==strOf (fld x0 1)) (Qf (.val (.d (.bool false))) g) (Br (!strOf (fld x0 2)==[]) (Qf (.val (.d (.bool false))) g) (Br (intOf (fld x0 3)!=intOf (.int .i64 0)) (Qf (.val (.d (.bool false))) g) (Br ((↑(elsOf (fld x0 5)).length:Int)!=(↑([]:List Dat).length:Int)) (Qf (.val (.d (.bool false))) g) (EvF TT 86 [x0] g (KQ Qf λv g'=>∃b,v=.d (.bool b)∧Br (!b) (Qf (.val (.d (.bool false))) g') (EvF TT 87 [fld x0 5,.clo 88 []] g' (KQ Qf λv g'=>∃b,v=.d (.bool b)∧Br (!b) (EvF TT 90 [fld x0 4,.clo 91 []] g' (KQ Qf λv g'=>∃b,v=.d (.bool b)∧Qf (.val (.d (.bool !b))) g')) (Qf (.val (.d (.bool false))) g'))))))))))
 (Br (intOf (fld x0 0)==2) (Br ((↑(elsOf (fld x0 4)).length:Int)!=0) (Qf (.val (.d (.bool false))) g) (Br (!strOf (fld x0 1)==[]) (Qf (.val (.d (.bool false))) g) (Br (!strOf (fld x0 2)==[]) (Qf (.val (.d (.bool false))) g) (Br (intOf (fld x0 3)!=intOf (fld x0 3)) (Qf (.val (.d (.bool false))) g) (Br ((↑(elsOf (fld x0 5)).length:Int)!=(↑([]:List Dat).length:Int)) (Qf (.val (.d (.bool false))) g) (EvF TT 86 [x0] g (KQ Qf λv g'=>∃b,v=.d (.bool b)∧Br (!b) (Qf (.val (.d (.bool false))) g') (EvF TT 87 [fld x0 5,.clo 88 []] g' (KQ Qf λv g'=>∃b,v=.d (.bool b)∧Br (!b) (EvF TT 90 [fld x0 4,.clo 91 []] g' (KQ Qf λv g'=>∃b,v=.d (.bool b)∧Qf (.val (.d (.bool !b))) g')) (Qf (.val (.d (.bool false))) g'))))))))))
  (Br (intOf (fld x0 0)==3) (Br ((↑(elsOf (fld x0 4)).length:Int)!=1) (Qf (.val (.d (.bool false))) g) (Br (!strOf (fld x0 1)==strOf (fld x0 1)) (Qf (.val (.d (.bool false))) g) (Br (!strOf (fld x0 2)==[]) (Qf (.val (.d (.bool false))) g) (Br (intOf (fld x0 3)!=intOf (.int .i64 0)) (Qf (.val (.d (.bool false))) g) (Br ((↑(elsOf (fld x0 5)).length:Int)!=(↑([]:List Dat).length:Int)) (Qf (.val (.d (.bool false))) g) (EvF TT 86 [x0] g (KQ Qf λv g'=>∃b,v=.d (.bool b)∧Br (!b) (Qf (.val (.d (.bool false))) g') (EvF TT 87 [fld x0 5,.clo 88 []] g' (KQ Qf λv g'=>∃b,v=.d (.bool b)∧Br (!b) (EvF TT 90 [fld x0 4,.clo 91 []] g' (KQ Qf λv g'=>∃b,v=.d (.bool b)∧Qf (.val (.d (.bool !b))) g')) (Qf (.val (.d (.bool false))) g'))))))))))
   (Br (intOf (fld x0 0)==4) (Br ((↑(elsOf (fld x0 4)).length:Int)!=2) (Qf (.val (.d (.bool false))) g) (Br (!strOf (fld x0 1)==[]) (Qf (.val (.d (.bool false))) g) (Br (!strOf (fld x0 2)==[]) (Qf (.val (.d (.bool false))) g) (Br (intOf (fld x0 3)!=intOf (.int .i64 0)) (Qf (.val (.d (.bool false))) g) (Br ((↑(elsOf (fld x0 5)).length:Int)!=(↑([]:List Dat).length:Int)) (Qf (.val (.d (.bool false))) g) (EvF TT 86 [x0] g (KQ Qf λv g'=>∃b,v=.d (.bool b)∧Br (!b) (Qf (.val (.d (.bool false))) g') (EvF TT 87 [fld x0 5,.clo 88 []] g' (KQ Qf λv g'=>∃b,v=.d (.bool b)∧Br (!b) (EvF TT 90 [fld x0 4,.clo 91 []] g' (KQ Qf λv g'=>∃b,v=.d (.bool b)∧Qf (.val (.d (.bool !b))) g')) (Qf (.val (.d (.bool false))) g'))))))))))
    (Br (intOf (fld x0 0)==5) (Br ((↑(elsOf (fld x0 4)).length:Int)!=2) (Qf (.val (.d (.bool false))) g) (Br (!strOf (fld x0 1)==strOf (fld x0 1)) (Qf (.val (.d (.bool false))) g) (Br (!strOf (fld x0 2)==[]) (Qf (.val (.d (.bool false))) g) (Br (intOf (fld x0 3)!=intOf (.int .i64 0)) (Qf (.val (.d (.bool false))) g) (Br ((↑(elsOf (fld x0 5)).length:Int)!=(↑([]:List Dat).length:Int)) (Qf (.val (.d (.bool false))) g) (EvF TT 86 [x0] g (KQ Qf λv g'=>∃b,v=.d (.bool b)∧Br (!b) (Qf (.val (.d (.bool false))) g') (EvF TT 87 [fld x0 5,.clo 88 []] g' (KQ Qf λv g'=>∃b,v=.d (.bool b)∧Br (!b) (EvF TT 90 [fld x0 4,.clo 91 []] g' (KQ Qf λv g'=>∃b,v=.d (.bool b)∧Qf (.val (.d (.bool !b))) g')) (Qf (.val (.d (.bool false))) g'))))))))))
     (Br (intOf (fld x0 0)==6) (Br ((↑(elsOf (fld x0 4)).length:Int)!=2) (Qf (.val (.d (.bool false))) g) (Br (!strOf (fld x0 1)==strOf (fld x0 1)) (Qf (.val (.d (.bool false))) g) (Br (!strOf (fld x0 2)==strOf (fld x0 2)) (Qf (.val (.d (.bool false))) g) (Br (intOf (fld x0 3)!=intOf (.int .i64 0)) (Qf (.val (.d (.bool false))) g) (Br ((↑(elsOf (fld x0 5)).length:Int)!=(↑([]:List Dat).length:Int)) (Qf (.val (.d (.bool false))) g) (EvF TT 86 [x0] g (KQ Qf λv g'=>∃b,v=.d (.bool b)∧Br (!b) (Qf (.val (.d (.bool false))) g') (EvF TT 87 [fld x0 5,.clo 88 []] g' (KQ Qf λv g'=>∃b,v=.d (.bool b)∧Br (!b) (EvF TT 90 [fld x0 4,.clo 91 []] g' (KQ Qf λv g'=>∃b,v=.d (.bool b)∧Qf (.val (.d (.bool !b))) g')) (Qf (.val (.d (.bool false))) g'))))))))))
      (Br (intOf (fld x0 0)==7) (Br ((↑(elsOf (fld x0 4)).length:Int)!=IntKind.i64.wrap ((↑(elsOf (fld x0 5)).length:Int)+1)) (Qf (.val (.d (.bool false))) g) (Br (!strOf (fld x0 1)==[]) (Qf (.val (.d (.bool false))) g) (Br (!strOf (fld x0 2)==[]) (Qf (.val (.d (.bool false))) g) (Br (intOf (fld x0 3)!=intOf (.int .i64 0)) (Qf (.val (.d (.bool false))) g) (Br ((↑(elsOf (fld x0 5)).length:Int)!=(↑(elsOf (fld x0 5)).length:Int)) (Qf (.val (.d (.bool false))) g) (EvF TT 86 [x0] g (KQ Qf λv g'=>∃b,v=.d (.bool b)∧Br (!b) (Qf (.val (.d (.bool false))) g') (EvF TT 87 [fld x0 5,.clo 88 []] g' (KQ Qf λv g'=>∃b,v=.d (.bool b)∧Br (!b) (EvF TT 90 [fld x0 4,.clo 91 []] g' (KQ Qf λv g'=>∃b,v=.d (.bool b)∧Qf (.val (.d (.bool !b))) g')) (Qf (.val (.d (.bool false))) g'))))))))))
       (Br (intOf (fld x0 0)==8) (Br ((↑(elsOf (fld x0 4)).length:Int)!=(↑(elsOf (fld x0 4)).length:Int)) (Qf (.val (.d (.bool false))) g) (Br (!strOf (fld x0 1)==strOf (fld x0 1)) (Qf (.val (.d (.bool false))) g) (Br (!strOf (fld x0 2)==[]) (Qf (.val (.d (.bool false))) g) (Br (intOf (fld x0 3)!=intOf (.int .i64 0)) (Qf (.val (.d (.bool false))) g) (Br ((↑(elsOf (fld x0 5)).length:Int)!=(↑([]:List Dat).length:Int)) (Qf (.val (.d (.bool false))) g) (EvF TT 86 [x0] g (KQ Qf λv g'=>∃b,v=.d (.bool b)∧Br (!b) (Qf (.val (.d (.bool false))) g') (EvF TT 87 [fld x0 5,.clo 88 []] g' (KQ Qf λv g'=>∃b,v=.d (.bool b)∧Br (!b) (EvF TT 90 [fld x0 4,.clo 91 []] g' (KQ Qf λv g'=>∃b,v=.d (.bool b)∧Qf (.val (.d (.bool !b))) g')) (Qf (.val (.d (.bool false))) g')))))))))) (Br (intOf (fld x0 0)==9) (Br ((↑(elsOf (fld x0 4)).length:Int)!=2) (Qf (.val (.d (.bool false))) g) (Br (!strOf (fld x0 1)==strOf (fld x0 1)) (Qf (.val (.d (.bool false))) g) (Br (!strOf (fld x0 2)==[]) (Qf (.val (.d (.bool false))) g) (Br (intOf (fld x0 3)!=intOf (.int .i64 0)) (Qf (.val (.d (.bool false))) g) (Br ((↑(elsOf (fld x0 5)).length:Int)!=(↑([]:List Dat).length:Int)) (Qf (.val (.d (.bool false))) g) (EvF TT 86 [x0] g (KQ Qf λv g'=>∃b,v=.d (.bool b)∧Br (!b) (Qf (.val (.d (.bool false))) g') (EvF TT 87 [fld x0 5,.clo 88 []] g' (KQ Qf λv g'=>∃b,v=.d (.bool b)∧Br (!b) (EvF TT 90 [fld x0 4,.clo 91 []] g' (KQ Qf λv g'=>∃b,v=.d (.bool b)∧Qf (.val (.d (.bool !b))) g')) (Qf (.val (.d (.bool false))) g')))))))))) (Br (intOf (fld x0 0)==10) (Br ((↑(elsOf (fld x0 4)).length:Int)!=1) (Qf (.val (.d (.bool false))) g) (Br (!strOf (fld x0 1)==[]) (Qf (.val (.d (.bool false))) g) (Br (!strOf (fld x0 2)==[]) (Qf (.val (.d (.bool false))) g) (Br (intOf (fld x0 3)!=intOf (.int .i64 0)) (Qf (.val (.d (.bool false))) g) (Br ((↑(elsOf (fld x0 5)).length:Int)!=(↑([]:List Dat).length:Int)) (Qf (.val (.d (.bool false))) g) (EvF TT 86 [x0] g (KQ Qf λv g'=>∃b,v=.d (.bool b)∧Br (!b) (Qf (.val (.d (.bool false))) g') (EvF TT 87 [fld x0 5,.clo 88 []] g' (KQ Qf λv g'=>∃b,v=.d (.bool b)∧Br (!b) (EvF TT 90 [fld x0 4,.clo 91 []] g' (KQ Qf λv g'=>∃b,v=.d (.bool b)∧Qf (.val (.d (.bool !b))) g')) (Qf (.val (.d (.bool false))) g')))))))))) (Qf (.val (.d (.bool false))) g))))))))))):
  EvF TT 48 [x0] g Qf:=
 sx_fun (rk:=rk) (fn:=Tryz.f48) (loops:=lo48) (joins:=[]) (n:=100000) (args:=[(25,x0)]) rfl rfl rfl rfl ⟨h0,trivial⟩ (by kernel_rfl) h
def lo91:List CutI:=[]
theorem w91{x0:Dat}{g:Glob}{Qf:OGP}(h0:HasTy TT 25 x0)
 (h:EvF TT 48 [x0] g (KQ Qf λv g'=>∃b,v=.d (.bool b)∧Qf (.val (.d (.bool !b))) g')):
 EvF TT 91 [x0] g Qf:=
 sx_fun (rk:=rk) (fn:=Tryz.f91) (loops:=lo91) (joins:=[]) (n:=100000) (args:=[(25,x0)]) rfl rfl rfl rfl ⟨h0,trivial⟩ (by kernel_rfl) h
def L51_4(x18:Dat)(n19:Int)(n20:Int)(y1:Dat)(g:Glob)(Qf:OGP):Prop:=CutP TT Tryz.f51 [1,1,0,1,0] Qf (mkC TT 51 Tryz.f51 1 [(1,.loc 1 0 0),(18,.v 47 (x18)),(19,.v 3 (.int .i64 n19)),(20,.v 3 (.int .i64 n20))] [(1,.whole 50 y1)] g)
def L51_10(x29:Dat)(n30:Int)(n31:Int)(g:Glob)(Qf:OGP):Prop:=CutP TT Tryz.f51 [1,1,1,0,1,0] Qf (mkC TT 51 Tryz.f51 1 [(29,.v 48 (x29)),(30,.v 3 (.int .i64 n30)),(31,.v 3 (.int .i64 n31))] [] g)
def lo51:List CutI:=[⟨4,[(1,.keep),(18,.keep),(19,.keep),(20,.keep)],[(1,.whole 50)]⟩,⟨10,[(29,.keep),(30,.keep),(31,.keep)],[]⟩]
theorem w51{x0:Dat}{g:Glob}{Qf:OGP}(h0:HasTy TT 50 x0)
 (h:EvF TT 93 [.int .i64 1,.str (strOf (fld x0 0))] g (KQ Qf λv g'=>∃b,v=.d (.bool b)∧Br (!b) (Qf (.val (.d (.bool false))) g') (Br ((↑(elsOf (fld x0 2)).length:Int)==0) (Qf (.val (.d (.bool false))) g') (L51_4 (fld x0 1) (↑(elsOf (fld x0 1)).length:Int) 0 x0 g' Qf)))):
 EvF TT 51 [x0] g Qf:=
 sx_fun (rk:=rk) (fn:=Tryz.f51) (loops:=lo51) (joins:=[]) (n:=100000) (args:=[(50,x0)]) rfl rfl rfl rfl ⟨h0,trivial⟩ (by kernel_rfl) h
theorem w51_4{x18:Dat}{n19:Int}{n20:Int}{y1:Dat}{g:Glob}{Qf:OGP}
 (h:Br (decide (n20<n19)) (InB n20 (elsOf x18).length∧EvF TT 93 [.int .i64 3,.str (strOf (fld (getE (elsOf x18) n20) 0))] g (KQ Qf λv g'=>∃b,v=.d (.bool b)∧Br (!b) (Qf (.val (.d (.bool false))) g') (L51_4 x18 n19 (IntKind.i64.wrap (n20+1)) y1 g' Qf))) (L51_10 (fld y1 2) (↑(elsOf (fld y1 2)).length:Int) 0 g Qf)):
 L51_4 x18 n19 n20 y1 g Qf:=sx_cut (rk:=rk) (loops:=lo51) (joins:=[]) (n:=100000) (by kernel_rfl) h
theorem w51_10{x29:Dat}{n30:Int}{n31:Int}{g:Glob}{Qf:OGP}
 (h:Br (decide (n31<n30)) (InB n31 (elsOf x29).length∧EvF TT 93 [.int .i64 2,.str (strOf (fld (getE (elsOf x29) n31) 0))] g (KQ Qf λv g'=>∃b,v=.d (.bool b)∧Br (!b) (Qf (.val (.d (.bool false))) g') (EvF TT 94 [fld (getE (elsOf x29) n31) 1,.clo 95 []] g' (KQ Qf λv g'=>∃b,v=.d (.bool b)∧Br b (Qf (.val (.d (.bool false))) g') (L51_10 x29 n30 (IntKind.i64.wrap (n31+1)) g' Qf))))) (Qf (.val (.d (.bool true))) g)):
 L51_10 x29 n30 n31 g Qf:=sx_cut (rk:=rk) (loops:=lo51) (joins:=[]) (n:=100000) (by kernel_rfl) h
def lo50:List CutI:=[]
theorem w50{x0:Dat}{g:Glob}{Qf:OGP}(h0:HasTy TT 50 x0)
 (h:EvF TT 51 [x0] g (KQ Qf λv g'=>∃b,v=.d (.bool b)∧Qf (.val (.d (.bool !b))) g')):
 EvF TT 50 [x0] g Qf:=
 sx_fun (rk:=rk) (fn:=Tryz.f50) (loops:=lo50) (joins:=[]) (n:=100000) (args:=[(50,x0)]) rfl rfl rfl rfl ⟨h0,trivial⟩ (by kernel_rfl) h
def lo26:List CutI:=[]
theorem w26{x0:Dat}{g:Glob}{Qf:OGP}(h0:HasTy TT 44 x0)
 (h:EvF TT 38 [x0] g (KQ Qf λv g'=>∃n,v=.d (.int .i64 n)∧Br (n !=0) (Qf (.val (.d (.bool false))) g') (EvF TT 48 [sub x0 1 7] g' (KQ Qf λv g'=>∃b,v=.d (.bool b)∧Br (!b) (Qf (.val (.d (.bool false))) g') (EvF TT 49 [fld x0 0,.clo 50 []] g' (KQ Qf λv g'=>∃b,v=.d (.bool b)∧Qf (.val (.d (.bool !b))) g')))))):
 EvF TT 26 [x0] g Qf:=
 sx_fun (rk:=rk) (fn:=Tryz.f26) (loops:=lo26) (joins:=[]) (n:=100000) (args:=[(44,x0)]) rfl rfl rfl rfl ⟨h0,trivial⟩ (by kernel_rfl) h
end Go.Proofs.YtmlghadphdpbjaaGreatDoor.Pa
namespace Go.Proofs.YtmlghadphdpbjaaGreatDoor.Pa
open Go Go.Proofs.YtmlghadphdpbjaaGreatDoor.Am
def opL:List Str:=[[43],[45],[42],[47],[37],[60],[61,61]]
def ixF(s:Str):List Str→Int→Int
 |[],_=>0
 |x::l,i=>bif x==s then i else ixF s l (i+1)
def opN(s:Str):Int:=ixF s opL 1
section
variable{s:Str}{g:Glob}{Qf:OGP}
theorem intsOp_ok(hs:s.length≤2^40)(hQ:Qf (.val (.d (.int .i64 (opN s)))) g):EvF TT 137 [.str s] g Qf:=by
 refine w137 hs (w163 ⟨_,?_,rfl,?_⟩)
 ·refine struct_of (tys:=[9,9,9,9,9,9,9,9]) (by kernel_rfl) (by kernel_rfl) (by kernel_rfl) ⟨?_,?_,?_,?_,?_,?_,?_,?_,trivial⟩<;>exact ty_str (by simp)
 ·simp only[opN,opL,ixF] at hQ
  refine w137_2 ?_
  refine Br_iff.2 ⟨λ_=>?_,λh=>by simp at h⟩
  simp only[show((0:Int)==7)=false from rfl,show((0:Int)==6)=false from rfl,show((0:Int)==5)=false from rfl,show((0:Int)==4)=false from rfl,show((0:Int)==3)=false from rfl,show((0:Int)==2)=false from rfl,show((0:Int)==1)=false from rfl,show((0:Int)==0)=true from rfl,Br_true,Br_false,show decide ((0:Int)<0)=false from rfl,show IntKind.i64.wrap (0+1)=1 from rfl]
  have step:∀{X:Prop} {b:Bool},X→Br b X X:=λh=>by cases ‹Bool›<;>exact h
  refine step ?_
  refine w137_2 (Br_iff.2 ⟨λ_=>?_,λh=>by simp at h⟩)
  simp only[show((1:Int)==7)=false from rfl,show((1:Int)==6)=false from rfl,show((1:Int)==5)=false from rfl,show((1:Int)==4)=false from rfl,show((1:Int)==3)=false from rfl,show((1:Int)==2)=false from rfl,show((1:Int)==1)=true from rfl,show((1:Int)==0)=false from rfl,Br_true,Br_false,show decide ((0:Int)<1)=true from rfl,show IntKind.i64.wrap (1+1)=2 from rfl]
  refine Br_iff.2 ⟨λq=>?_,λq=>?_⟩
  ·rw[show(([43]:Str)==s)=true from q] at hQ
   exact hQ
  rw[show(([43]:Str)==s)=false from q,cond_false] at hQ
  refine w137_2 (Br_iff.2 ⟨λ_=>?_,λh=>by simp at h⟩)
  simp only[show((2:Int)==7)=false from rfl,show((2:Int)==6)=false from rfl,show((2:Int)==5)=false from rfl,show((2:Int)==4)=false from rfl,show((2:Int)==3)=false from rfl,show((2:Int)==2)=true from rfl,show((2:Int)==1)=false from rfl,show((2:Int)==0)=false from rfl,Br_true,Br_false,show decide ((0:Int)<2)=true from rfl,show IntKind.i64.wrap (2+1)=3 from rfl]
  refine Br_iff.2 ⟨λq=>?_,λq=>?_⟩
  ·rw[show(([45]:Str)==s)=true from q] at hQ
   exact hQ
  rw[show(([45]:Str)==s)=false from q,cond_false] at hQ
  refine w137_2 (Br_iff.2 ⟨λ_=>?_,λh=>by simp at h⟩)
  simp only[show((3:Int)==7)=false from rfl,show((3:Int)==6)=false from rfl,show((3:Int)==5)=false from rfl,show((3:Int)==4)=false from rfl,show((3:Int)==3)=true from rfl,show((3:Int)==2)=false from rfl,show((3:Int)==1)=false from rfl,show((3:Int)==0)=false from rfl,Br_true,Br_false,show decide ((0:Int)<3)=true from rfl,show IntKind.i64.wrap (3+1)=4 from rfl]
  refine Br_iff.2 ⟨λq=>?_,λq=>?_⟩
  ·rw[show(([42]:Str)==s)=true from q] at hQ
   exact hQ
  rw[show(([42]:Str)==s)=false from q,cond_false] at hQ
  refine w137_2 (Br_iff.2 ⟨λ_=>?_,λh=>by simp at h⟩)
  simp only[show((4:Int)==7)=false from rfl,show((4:Int)==6)=false from rfl,show((4:Int)==5)=false from rfl,show((4:Int)==4)=true from rfl,show((4:Int)==3)=false from rfl,show((4:Int)==2)=false from rfl,show((4:Int)==1)=false from rfl,show((4:Int)==0)=false from rfl,Br_true,Br_false,show decide ((0:Int)<4)=true from rfl,show IntKind.i64.wrap (4+1)=5 from rfl]
  refine Br_iff.2 ⟨λq=>?_,λq=>?_⟩
  ·rw[show(([47]:Str)==s)=true from q] at hQ
   exact hQ
  rw[show(([47]:Str)==s)=false from q,cond_false] at hQ
  refine w137_2 (Br_iff.2 ⟨λ_=>?_,λh=>by simp at h⟩)
  simp only[show((5:Int)==7)=false from rfl,show((5:Int)==6)=false from rfl,show((5:Int)==5)=true from rfl,show((5:Int)==4)=false from rfl,show((5:Int)==3)=false from rfl,show((5:Int)==2)=false from rfl,show((5:Int)==1)=false from rfl,show((5:Int)==0)=false from rfl,Br_true,Br_false,show decide ((0:Int)<5)=true from rfl,show IntKind.i64.wrap (5+1)=6 from rfl]
  refine Br_iff.2 ⟨λq=>?_,λq=>?_⟩
  ·rw[show(([37]:Str)==s)=true from q] at hQ
   exact hQ
  rw[show(([37]:Str)==s)=false from q,cond_false] at hQ
  refine w137_2 (Br_iff.2 ⟨λ_=>?_,λh=>by simp at h⟩)
  simp only[show((6:Int)==7)=false from rfl,show((6:Int)==6)=true from rfl,show((6:Int)==5)=false from rfl,show((6:Int)==4)=false from rfl,show((6:Int)==3)=false from rfl,show((6:Int)==2)=false from rfl,show((6:Int)==1)=false from rfl,show((6:Int)==0)=false from rfl,Br_true,Br_false,show decide ((0:Int)<6)=true from rfl,show IntKind.i64.wrap (6+1)=7 from rfl]
  refine Br_iff.2 ⟨λq=>?_,λq=>?_⟩
  ·rw[show(([60]:Str)==s)=true from q] at hQ
   exact hQ
  rw[show(([60]:Str)==s)=false from q,cond_false] at hQ
  refine w137_2 (Br_iff.2 ⟨λ_=>?_,λh=>by simp at h⟩)
  simp only[show((7:Int)==7)=true from rfl,show((7:Int)==6)=false from rfl,show((7:Int)==5)=false from rfl,show((7:Int)==4)=false from rfl,show((7:Int)==3)=false from rfl,show((7:Int)==2)=false from rfl,show((7:Int)==1)=false from rfl,show((7:Int)==0)=false from rfl,Br_true,Br_false,show decide ((0:Int)<7)=true from rfl,show IntKind.i64.wrap (7+1)=8 from rfl]
  refine Br_iff.2 ⟨λq=>?_,λq=>?_⟩
  ·rw[show(([61,61]:Str)==s)=true from q] at hQ
   exact hQ
  rw[show(([61,61]:Str)==s)=false from q,cond_false] at hQ
  refine w137_2 (Br_iff.2 ⟨λh=>by simp at h,λ_=>hQ⟩)
theorem containsPats_ok{f:FuncId}{c:List Dat}{p:Dat→Bool}{x:Dat}(hx:HasTy TT 23 x)(hf:∀y∈elsOf x,∀Q:Out→Glob→Prop,Q (.val (.d (.bool (p y)))) g→EvF TT f (y::c) g Q)(hQ:Qf (.val (.d (.bool ((elsOf x).any p)))) g):EvF TT 87 [x,.clo f c] g Qf:=by
 have exl:=len_le undPats hx
 refine w87 hx (w138 hx ?_)
 refine loopUp (len:=(elsOf x).length) (λi=>Qf (.val (.d (.bool (((elsOf x).drop i).any p)))) g→L138_2 x f c ((elsOf x).length:Int) (i:Int) g _) ?_ ?_ 0 (Nat.zero_le _) hQ
 ·intro hQ
  refine w138_2 ?_
  rw[Br_ge]
  rw[List.drop_length] at hQ
  exact⟨_,rfl,hQ⟩
 ·intro i hi ih hQ
  refine w138_2 ?_
  rw[Br_lt hi,getE_nat hi]
  rw[List.drop_eq_getElem_cons hi,List.any_cons] at hQ
  refine⟨inB hi,hf _ (List.getElem_mem hi) _ ⟨_,rfl,Br_iff.2 ⟨λq=>?_,λq=>?_⟩⟩⟩
  ·rw[q] at hQ
   refine⟨_,rfl,qcast hQ ?_⟩
   rw[Bool.true_or,decide_eq_true (by omega)]
  ·rw[q] at hQ
   rw[wrap_nat (by omega)]
   exact ih hQ
theorem containsExprs_ok{f:FuncId}{c:List Dat}{p:Dat→Bool}{x:Dat}(hx:HasTy TT 22 x)(hf:∀y∈elsOf x,∀Q:Out→Glob→Prop,Q (.val (.d (.bool (p y)))) g→EvF TT f (y::c) g Q)(hQ:Qf (.val (.d (.bool ((elsOf x).any p)))) g):EvF TT 90 [x,.clo f c] g Qf:=by
 have exl:=len_le undExprs hx
 refine w90 hx (w140 hx ?_)
 refine loopUp (len:=(elsOf x).length) (λi=>Qf (.val (.d (.bool (((elsOf x).drop i).any p)))) g→L140_2 x f c ((elsOf x).length:Int) (i:Int) g _) ?_ ?_ 0 (Nat.zero_le _) hQ
 ·intro hQ
  refine w140_2 ?_
  rw[Br_ge]
  rw[List.drop_length] at hQ
  exact⟨_,rfl,hQ⟩
 ·intro i hi ih hQ
  refine w140_2 ?_
  rw[Br_lt hi,getE_nat hi]
  rw[List.drop_eq_getElem_cons hi,List.any_cons] at hQ
  refine⟨inB hi,hf _ (List.getElem_mem hi) _ ⟨_,rfl,Br_iff.2 ⟨λq=>?_,λq=>?_⟩⟩⟩
  ·rw[q] at hQ
   refine⟨_,rfl,qcast hQ ?_⟩
   rw[Bool.true_or,decide_eq_true (by omega)]
  ·rw[q] at hQ
   rw[wrap_nat (by omega)]
   exact ih hQ
theorem containsTypes_ok{f:FuncId}{c:List Dat}{p:Dat→Bool}{x:Dat}(hx:HasTy TT 26 x)(hf:∀y∈elsOf x,∀Q:Out→Glob→Prop,Q (.val (.d (.bool (p y)))) g→EvF TT f (y::c) g Q)(hQ:Qf (.val (.d (.bool ((elsOf x).any p)))) g):EvF TT 94 [x,.clo f c] g Qf:=by
 have exl:=len_le undTypes hx
 refine w94 hx (w142 hx ?_)
 refine loopUp (len:=(elsOf x).length) (λi=>Qf (.val (.d (.bool (((elsOf x).drop i).any p)))) g→L142_2 x f c ((elsOf x).length:Int) (i:Int) g _) ?_ ?_ 0 (Nat.zero_le _) hQ
 ·intro hQ
  refine w142_2 ?_
  rw[Br_ge]
  rw[List.drop_length] at hQ
  exact⟨_,rfl,hQ⟩
 ·intro i hi ih hQ
  refine w142_2 ?_
  rw[Br_lt hi,getE_nat hi]
  rw[List.drop_eq_getElem_cons hi,List.any_cons] at hQ
  refine⟨inB hi,hf _ (List.getElem_mem hi) _ ⟨_,rfl,Br_iff.2 ⟨λq=>?_,λq=>?_⟩⟩⟩
  ·rw[q] at hQ
   refine⟨_,rfl,qcast hQ ?_⟩
   rw[Bool.true_or,decide_eq_true (by omega)]
  ·rw[q] at hQ
   rw[wrap_nat (by omega)]
   exact ih hQ
theorem containsDecls_ok{f:FuncId}{c:List Dat}{p:Dat→Bool}{x:Dat}(hx:HasTy TT 42 x)(hf:∀y∈elsOf x,∀Q:Out→Glob→Prop,Q (.val (.d (.bool (p y)))) g→EvF TT f (y::c) g Q)(hQ:Qf (.val (.d (.bool ((elsOf x).any p)))) g):EvF TT 49 [x,.clo f c] g Qf:=by
 have exl:=len_le undDecls hx
 refine w49 hx (w92 hx ?_)
 refine loopUp (len:=(elsOf x).length) (λi=>Qf (.val (.d (.bool (((elsOf x).drop i).any p)))) g→L92_2 x f c ((elsOf x).length:Int) (i:Int) g _) ?_ ?_ 0 (Nat.zero_le _) hQ
 ·intro hQ
  refine w92_2 ?_
  rw[Br_ge]
  rw[List.drop_length] at hQ
  exact⟨_,rfl,hQ⟩
 ·intro i hi ih hQ
  refine w92_2 ?_
  rw[Br_lt hi,getE_nat hi]
  rw[List.drop_eq_getElem_cons hi,List.any_cons] at hQ
  refine⟨inB hi,hf _ (List.getElem_mem hi) _ ⟨_,rfl,Br_iff.2 ⟨λq=>?_,λq=>?_⟩⟩⟩
  ·rw[q] at hQ
   refine⟨_,rfl,qcast hQ ?_⟩
   rw[Bool.true_or,decide_eq_true (by omega)]
  ·rw[q] at hQ
   rw[wrap_nat (by omega)]
   exact ih hQ
end
end Go.Proofs.YtmlghadphdpbjaaGreatDoor.Pa
namespace Go.Proofs.YtmlghadphdpbjaaGreatDoor.Pa
open Go Go.Proofs.YtmlghadphdpbjaaGreatDoor.Am
def okTy1(k:Int)(s:Str)(n:Int)(l:Int):Bool:=
 (bif k==1 then(s==[])&&(l==0) else bif k==2 then wVar s&&(l==0) else bif k==3 then(s==[])&&(l==2) else bif k==4 then wLow s&&!(s==[105,110,116]) else false)&&(n==0)
mutual
def okTy:Ty→Bool
 |.mk k s n a=>okTy1 k s n a.length&&okTys a
def okTys:List Ty→Bool
 |[]=>true
 |x::l=>okTy x&&okTys l
end
mutual
def vrTy:Ty→Bool
 |.mk _ s _ a=>decide (s.length<2^40)&&vrTys a
def vrTys:List Ty→Bool
 |[]=>true
 |x::l=>vrTy x&&vrTys l
end
def okPt1(k:Int)(s:Str)(n:Int)(l:Int):Bool:=
 bif k==1 then(s==[])&&((n==0)&&(l==0)) else bif k==2 then wLow s&&((n==0)&&(l==0)) else bif k==3 then(s==[])&&(inI n&&(l==0)) else bif k==4 then wUp s&&(n==0) else false
mutual
def okPt:Pt→Bool
 |.mk k s n a _=>okPt1 k s n a.length&&okPts a
def okPts:List Pt→Bool
 |[]=>true
 |x::l=>okPt x&&okPts l
end
def le8(n:Int):Bool:=decide (n≤8)
def gt8(n:Int):Bool:=decide (8<n)
mutual
def nwPt:Pt→Bool
 |.mk _ _ _ a _=>le8 a.length&&nwPts a
def nwPts:List Pt→Bool
 |[]=>true
 |x::l=>nwPt x&&nwPts l
end
mutual
def flPt:Pt→Bool
 |.mk k _ _ a _=>((k==4)&&gt8 a.length)||flPts a
def flPts:List Pt→Bool
 |[]=>false
 |x::l=>flPt x||flPts l
end
theorem okTys_any(xs:List Dat):xs.any (λy=>!okTy (absTy y))=!okTys (xs.map absTy):=by induction xs with
 |nil=>rfl
 |cons x xs ih=>simp[okTys,ih]
theorem okPts_any(xs:List Dat):xs.any (λy=>!okPt (absPt y))=!okPts (xs.map absPt):=by induction xs with
 |nil=>rfl
 |cons x xs ih=>simp[okPts,ih]
theorem nwPts_any(xs:List Dat):xs.any (λy=>!nwPt (absPt y))=!nwPts (xs.map absPt):=by induction xs with
 |nil=>rfl
 |cons x xs ih=>simp[nwPts,ih]
theorem vrTys_mem{l:List Ty}(h:vrTys l=true):∀t∈l,vrTy t=true:=by induction l with
 |nil=>intro t ht;cases ht
 |cons x l ih=>
  simp only[vrTys,Bool.and_eq_true] at h
  intro t ht
  rcases List.mem_cons.1 ht with rfl|ht
  ·exact h.1
  ·exact ih h.2 t ht
theorem absTyA_len(x:Dat):(absTyA x).length=(elsOf x).length:=by rw[absTyA_map,List.length_map]
theorem absPtA_len(x:Dat):(absPtA x).length=(elsOf x).length:=by rw[absPtA_map,List.length_map]
theorem absExA_len(x:Dat):(absExA x).length=(elsOf x).length:=by rw[absExA_map,List.length_map]
theorem typeOf_ok:∀(k:Nat) (x:Dat) (g:Glob),SizeOf.sizeOf x<k→HasTy TT 28 x→vrTy (absTy x)=true→∀(Qf:OGP),Qf (.val (.d (.bool (okTy (absTy x))))) g→EvF TT 96 [x] g Qf
 |0,x,g,hk,_,_=>by omega
 |k+1,x,g,hk,hx,hv=>by
  intro Qf hQ
  refine w96 hx ?_
  obtain⟨k1,s1,v1,a1,rfl,hs1,t1⟩:=type_ty hx
  simp only[absTy,okTy,absTyA_len] at hQ
  simp only[absTy,vrTy,Bool.and_eq_true,decide_eq_true_eq] at hv
  have ex:=t1.els undTypes
  have hc:=sizeOf_cell (cs:=[.int .i64 k1,.str s1,.int .i64 v1,a1]) (c:=a1) (by simp)
  simp only[fld,nth,intOf,strOf]
  have tail:Qf (.val (.d (.bool (okTys (absTyA a1))))) g→EvF TT 94 [a1,.clo 143 []] g (KQ Qf λv g'=>∃b,v=Val.d (.bool b)∧Qf (.val (.d (.bool !b))) g'):=λh=>
   containsTypes_ok (p:=λy=>!okTy (absTy y)) t1 (λy hy Q q=>by
    obtain⟨i,hi,rfl⟩:=List.getElem_of_mem hy
    have hsz:=sizeOf_el hi
    exact w143 (ex.2 _ hy) (typeOf_ok k _ g (by omega) (ex.2 _ hy) (vrTys_mem (by rw[absTyA_map] at hv;exact hv.2) _ (List.mem_map.2 ⟨_,hy,rfl⟩)) _ ⟨_,rfl,q⟩)) ⟨_,rfl,qcast h (by rw[okTys_any,Bool.not_not,absTyA_map])⟩
  repeat' (first
   |refine Br_iff.2 ⟨λq=>?_,λq=>?_⟩
   |refine wordVar_ok hv.1 ⟨_,rfl,?_⟩
   |refine wordLow_ok hs1 ⟨_,rfl,?_⟩
   |refine tail ?_)
  all_goals (refine qcast hQ ?_;simp_all[okTy1])
theorem patOf_ok:∀(k:Nat) (x:Dat) (g:Glob),SizeOf.sizeOf x<k→HasTy TT 94 x→∀(Qf:OGP),Qf (.val (.d (.bool (okPt (absPt x))))) g→EvF TT 89 [x] g Qf
 |0,x,g,hk,_=>by omega
 |k+1,x,g,hk,hx=>by
  intro Qf hQ
  refine w89 hx ?_
  obtain⟨k1,s1,v1,a1,p1,rfl,hs1,t1⟩:=pat_ty hx
  simp only[absPt,okPt,absPtA_len] at hQ
  have ex:=t1.els undPats
  have hc:=sizeOf_cell (cs:=[.int .i64 k1,.str s1,.int .i64 v1,a1,.int .i64 p1]) (c:=a1) (by simp)
  simp only[fld,nth,intOf,strOf]
  have tail:Qf (.val (.d (.bool (okPts (absPtA a1))))) g→EvF TT 87 [a1,.clo 139 []] g (KQ Qf λv g'=>∃b,v=Val.d (.bool b)∧Qf (.val (.d (.bool !b))) g'):=λh=>
   containsPats_ok (p:=λy=>!okPt (absPt y)) t1 (λy hy Q q=>by
    obtain⟨i,hi,rfl⟩:=List.getElem_of_mem hy
    have hsz:=sizeOf_el hi
    exact w139 (ex.2 _ hy) (patOf_ok k _ g (by omega) (ex.2 _ hy) _ ⟨_,rfl,q⟩)) ⟨_,rfl,qcast h (by rw[okPts_any,Bool.not_not,absPtA_map])⟩
  repeat' (first
   |refine Br_iff.2 ⟨λq=>?_,λq=>?_⟩
   |refine wordLow_ok hs1 ⟨_,rfl,?_⟩
   |refine wordUp_ok hs1 ⟨_,rfl,?_⟩
   |refine intsIn_ok ⟨_,rfl,?_⟩
   |refine tail ?_)
  all_goals (refine qcast hQ ?_;simp_all[okPt1])
theorem patNarrow_ok:∀(k:Nat) (x:Dat) (g:Glob),SizeOf.sizeOf x<k→HasTy TT 94 x→∀(Qf:OGP),Qf (.val (.d (.bool (nwPt (absPt x))))) g→EvF TT 133 [x] g Qf
 |0,x,g,hk,_=>by omega
 |k+1,x,g,hk,hx=>by
  intro Qf hQ
  refine w133 hx ?_
  obtain⟨k1,s1,v1,a1,p1,rfl,hs1,t1⟩:=pat_ty hx
  simp only[absPt,nwPt,absPtA_len] at hQ
  have ex:=t1.els undPats
  have hc:=sizeOf_cell (cs:=[.int .i64 k1,.str s1,.int .i64 v1,a1,.int .i64 p1]) (c:=a1) (by simp)
  simp only[fld,nth,intOf,strOf]
  refine Br_iff.2 ⟨λq=>?_,λq=>?_⟩
  ·rw[show le8 _=true from q,Bool.true_and] at hQ
   exact containsPats_ok (p:=λy=>!nwPt (absPt y)) t1 (λy hy Q q=>by
    obtain⟨i,hi,rfl⟩:=List.getElem_of_mem hy
    have hsz:=sizeOf_el hi
    exact w162 (ex.2 _ hy) (patNarrow_ok k _ g (by omega) (ex.2 _ hy) _ ⟨_,rfl,q⟩)) ⟨_,rfl,qcast hQ (by rw[nwPts_any,Bool.not_not,absPtA_map])⟩
  ·rw[show le8 _=false from q,Bool.false_and] at hQ
   exact hQ
theorem okPt_arg{k:Int}{s:Str}{n:Int}{a:List Pt}{p:Int}(h:okPt1 k s n a.length=true):k=4∨a=[]:=by
 unfold okPt1 at h
 by_cases h4:k=4
 ·exact .inl h4
 ·refine .inr (List.eq_nil_of_length_eq_zero ?_)
  rw[show(k==4)=false by simpa using h4] at h
  cases h1:(k==1)<;>cases h2:(k==2)<;>cases h3:(k==3)<;>rw[h1,h2,h3] at h<;>simp at h<;>simp[h]
mutual
theorem nw_fl:∀x:Pt,okPt x=true→nwPt x=!flPt x
 |.mk k s n a p=>λh=>by
  simp only[okPt,Bool.and_eq_true] at h
  have ih:=nws_fls a h.2
  simp only[nwPt,flPt,ih]
  rcases okPt_arg (p:=p) h.1 with rfl|rfl
  ·rw[show(((4:Int)==4))=true from rfl,Bool.true_and,Bool.not_or]
   congr 1
   unfold le8 gt8
   by_cases hl:(a.length:Int)≤8
   ·rw[decide_eq_true hl,decide_eq_false (by omega)];rfl
   ·rw[decide_eq_false hl,decide_eq_true (by omega)];rfl
  ·simp[flPts,le8,gt8]
theorem nws_fls:∀l:List Pt,okPts l=true→nwPts l=!flPts l
 |[]=>λ_=>rfl
 |x::l=>λh=>by
  simp only[okPts,Bool.and_eq_true] at h
  simp only[nwPts,flPts,nw_fl x h.1,nws_fls l h.2,Bool.not_or]
end
end Go.Proofs.YtmlghadphdpbjaaGreatDoor.Pa
namespace Go.Proofs.YtmlghadphdpbjaaGreatDoor.Pa
open Go Go.Proofs.YtmlghadphdpbjaaGreatDoor.Am
def pos0(n:Int):Bool:=decide (0<n)
def okEx1(k:Int)(s r:Str)(n la lb:Int):Bool:=
 bif (!(k==6)&&!(r==[]))||((!(k==2)&&!(n==0))||(!(k==7)&&pos0 lb)) then false
 else bif k==1 then wLow s&&(la==0) else bif k==2 then(s==[])&&(inI n&&(la==0)) else bif k==3 then wLow s&&(la==1) else bif k==4 then(s==[])&&(la==2)
 else bif k==5 then wLow s&&(la==2) else bif k==6 then wLow s&&(wLow r&&(la==2)) else bif k==7 then(s==[])&&(pos0 lb&&(la==lb+1)) else bif k==8 then wUp s
 else bif k==9 then pos0 (opN s)&&(la==2) else bif k==10 then(s==[])&&(la==1) else false
def namedP(k:Int)(s r:Str)(n lb:Int):Bool:=
 bif k==1 then wLow s else bif k==3 then wLow s else bif k==5 then wLow s else bif k==6 then wLow s&&wLow r else bif k==2 then inI n else bif k==7 then pos0 lb else bif k==8 then wUp s else bif k==9 then pos0 (opN s) else true
mutual
def okEx:Ex'→Bool
 |.mk k s r n a b _=>okEx1 k s r n a.length b.length&&(okPts b&&okExs a)
def okExs:List Ex'→Bool
 |[]=>true
 |x::l=>okEx x&&okExs l
end
mutual
def nwEx:Ex'→Bool
 |.mk k _ _ _ a b _=>!((k==8)&&gt8 a.length)&&(nwPts b&&nwExs a)
def nwExs:List Ex'→Bool
 |[]=>true
 |x::l=>nwEx x&&nwExs l
end
mutual
def flEx:Ex'→Bool
 |.mk k _ _ _ a b _=>((k==8)&&gt8 a.length)||(flPts b||flExs a)
def flExs:List Ex'→Bool
 |[]=>false
 |x::l=>flEx x||flExs l
end
theorem okExs_any(xs:List Dat):xs.any (λy=>!okEx (absEx y))=!okExs (xs.map absEx):=by induction xs with
 |nil=>rfl
 |cons x xs ih=>simp[okExs,ih]
theorem nwExs_any(xs:List Dat):xs.any (λy=>!nwEx (absEx y))=!nwExs (xs.map absEx):=by induction xs with
 |nil=>rfl
 |cons x xs ih=>simp[nwExs,ih]
theorem opN_nonneg(s:Str):0≤opN s:=by
 have:∀(l:List Str) (i:Int),0≤i→0≤ixF s l i:=by
  intro l
  induction l with
  |nil=>intro i _;exact Int.le_refl _
  |cons x l ih=>
   intro i hi
   simp only[ixF]
   cases (x==s)
   ·exact ih _ (by omega)
   ·exact hi
 exact this _ _ (by omega)
theorem opN_ne(s:Str):(opN s !=0)=pos0 (opN s):=by
 have:=opN_nonneg s
 unfold pos0
 rw[Bool.eq_iff_iff,bne_iff_ne,decide_eq_true_eq]
 omega
theorem named_ok(x:Dat)(g:Glob)(k1 v1 p1:Int)(s1 r1:Str)(a1 b1:Dat)(hx:x=.agg [.int .i64 k1,.str s1,.str r1,.int .i64 v1,a1,b1,.int .i64 p1])(ht:HasTy TT 25 x)(hs1:s1.length≤2^40)(hr1:r1.length≤2^40)(Qf:OGP)(hQ:Qf (.val (.d (.bool (namedP k1 s1 r1 v1 ((elsOf b1).length:Int))))) g):EvF TT 86 [x] g Qf:=by
 refine w86 ht ?_
 subst hx
 simp only[fld,nth,intOf,strOf]
 repeat' (first
  |refine Br_iff.2 ⟨λq=>?_,λq=>?_⟩
  |refine wordLow_ok hs1 ⟨_,rfl,?_⟩
  |refine wordLow_ok hr1 ⟨_,rfl,?_⟩
  |refine wordUp_ok hs1 ⟨_,rfl,?_⟩
  |refine intsIn_ok ⟨_,rfl,?_⟩
  |refine intsOp_ok hs1 ⟨_,rfl,?_⟩)
 all_goals (refine qcast hQ ?_;simp_all[namedP,opN_ne];try (simp[pos0]))
theorem exprOf_ok:∀(k:Nat) (x:Dat) (g:Glob),SizeOf.sizeOf x<k→HasTy TT 25 x→∀(Qf:OGP),Qf (.val (.d (.bool (okEx (absEx x))))) g→EvF TT 48 [x] g Qf
 |0,x,g,hk,_=>by omega
 |k+1,x,g,hk,hx=>by
  intro Qf hQ
  refine w48 hx ?_
  obtain⟨k1,s1,r1,v1,a1,b1,p1,rfl,hs1,hr1,t1,u1⟩:=expr_ty hx
  simp only[absEx,okEx,absExA_len,absPtA_len] at hQ
  have ex:=t1.els undExprs
  have exl:=ex.1.1
  have eu:=u1.els undPats
  have eul:=eu.1.1
  have hc:=sizeOf_cell (cs:=[.int .i64 k1,.str s1,.str r1,.int .i64 v1,a1,b1,.int .i64 p1]) (c:=a1) (by simp)
  have hw:IntKind.i64.wrap (((elsOf b1).length:Int)+1)=((elsOf b1).length:Int)+1:=wrap_id (by omega) (by omega)
  have hl0:((([]:List Dat).length:Nat):Int)=0:=rfl
  have tail:(namedP k1 s1 r1 v1 ((elsOf b1).length:Int)=true→Qf (.val (.d (.bool (okPts (absPtA b1)&&okExs (absExA a1))))) g)→(namedP k1 s1 r1 v1 ((elsOf b1).length:Int)=false→Qf (.val (.d (.bool false))) g)→
   EvF TT 86 [.agg [.int .i64 k1,.str s1,.str r1,.int .i64 v1,a1,b1,.int .i64 p1]] g (KQ Qf λv g'=>∃b,v=Val.d (.bool b)∧Br (!b) (Qf (.val (.d (.bool false))) g') (EvF TT 87 [b1,.clo 88 []] g' (KQ Qf λv g'=>∃b,v=Val.d (.bool b)∧Br (!b) (EvF TT 90 [a1,.clo 91 []] g' (KQ Qf λv g'=>∃b,v=Val.d (.bool b)∧Qf (.val (.d (.bool !b))) g')) (Qf (.val (.d (.bool false))) g')))):=by
   intro h1 h2
   refine named_ok _ g k1 v1 p1 s1 r1 a1 b1 rfl hx hs1 hr1 _ ⟨_,rfl,Br_iff.2 ⟨λq=>h2 (by simpa using q),λq=>?_⟩⟩
   have h1:=h1 (by simpa using q)
   refine containsPats_ok (p:=λy=>!okPt (absPt y)) u1 (λy hy Q q=>w88 (eu.2 _ hy) (patOf_ok _ y g (Nat.lt_succ_self _) (eu.2 _ hy) _ ⟨_,rfl,q⟩)) ⟨_,rfl,?_⟩
   rw[okPts_any,Bool.not_not,←absPtA_map]
   refine Br_iff.2 ⟨λq=>?_,λq=>?_⟩
   ·rw[q,Bool.true_and] at h1
    exact containsExprs_ok (p:=λy=>!okEx (absEx y)) t1 (λy hy Q q=>by
     obtain⟨i,hi,rfl⟩:=List.getElem_of_mem hy
     have hsz:=sizeOf_el hi
     exact w91 (ex.2 _ hy) (exprOf_ok k _ g (by omega) (ex.2 _ hy) _ ⟨_,rfl,q⟩)) ⟨_,rfl,qcast h1 (by rw[okExs_any,Bool.not_not,absExA_map])⟩
   ·rw[q,Bool.false_and] at h1
    exact h1
  have hla:∀n:Int,n=((elsOf a1).length:Int)→¬n=-1:=λn h=>by omega
  have hlb:((elsOf b1).length:Int)=0∨0<((elsOf b1).length:Int):=by omega
  simp only[fld,nth,intOf,strOf,hw,hl0]
  generalize hA:((elsOf a1).length:Int)=A at*
  generalize hB:((elsOf b1).length:Int)=B at*
  have hA0:=hla A rfl
  clear hla hA hB hw hl0 exl eul
  repeat' (first
   |refine Br_iff.2 ⟨λq=>?_,λq=>?_⟩
   |refine tail (λh=>?_) (λh=>?_))
  all_goals (clear tail;refine qcast hQ ?_;clear hQ)
  all_goals (rcases hlb with rfl|hlb)
  all_goals first
   |(simp_all[okEx1,namedP,pos0];done)
   |(simp_all[okEx1,namedP,pos0];intro h';omega)
theorem narrow_ok:∀(k:Nat) (x:Dat) (g:Glob),SizeOf.sizeOf x<k→HasTy TT 25 x→∀(Qf:OGP),Qf (.val (.d (.bool (nwEx (absEx x))))) g→EvF TT 82 [x] g Qf
 |0,x,g,hk,_=>by omega
 |k+1,x,g,hk,hx=>by
  intro Qf hQ
  refine w82 hx ?_
  obtain⟨k1,s1,r1,v1,a1,b1,p1,rfl,hs1,hr1,t1,u1⟩:=expr_ty hx
  simp only[absEx,nwEx,absExA_len,absPtA_len] at hQ
  have ex:=t1.els undExprs
  have eu:=u1.els undPats
  have hc:=sizeOf_cell (cs:=[.int .i64 k1,.str s1,.str r1,.int .i64 v1,a1,b1,.int .i64 p1]) (c:=a1) (by simp)
  simp only[fld,nth,intOf,strOf]
  have tail:Qf (.val (.d (.bool (nwPts (absPtA b1)&&nwExs (absExA a1))))) g→EvF TT 87 [b1,.clo 132 []] g (KQ Qf λv g'=>∃b,v=Val.d (.bool b)∧Br (!b) (EvF TT 90 [a1,.clo 134 []] g' (KQ Qf λv g'=>∃b,v=Val.d (.bool b)∧Qf (.val (.d (.bool !b))) g')) (Qf (.val (.d (.bool false))) g')):=by
   intro h1
   refine containsPats_ok (p:=λy=>!nwPt (absPt y)) u1 (λy hy Q q=>w132 (eu.2 _ hy) (patNarrow_ok _ y g (Nat.lt_succ_self _) (eu.2 _ hy) _ ⟨_,rfl,q⟩)) ⟨_,rfl,?_⟩
   rw[nwPts_any,Bool.not_not,←absPtA_map]
   refine Br_iff.2 ⟨λq=>?_,λq=>?_⟩
   ·rw[q,Bool.true_and] at h1
    exact containsExprs_ok (p:=λy=>!nwEx (absEx y)) t1 (λy hy Q q=>by
     obtain⟨i,hi,rfl⟩:=List.getElem_of_mem hy
     have hsz:=sizeOf_el hi
     exact w134 (ex.2 _ hy) (narrow_ok k _ g (by omega) (ex.2 _ hy) _ ⟨_,rfl,q⟩)) ⟨_,rfl,qcast h1 (by rw[nwExs_any,Bool.not_not,absExA_map])⟩
   ·rw[q,Bool.false_and] at h1
    exact h1
  refine Br_iff.2 ⟨λq=>Br_iff.2 ⟨λq'=>?_,λq'=>?_⟩,λq=>?_⟩
  ·rw[q,show gt8 _=true from q'] at hQ;exact hQ
  ·rw[q,show gt8 _=false from q'] at hQ;exact tail hQ
  ·rw[q] at hQ;exact tail hQ
mutual
theorem nw_flEx:∀x:Ex',okEx x=true→nwEx x=!flEx x
 |.mk k s r n a b p=>λh=>by
  simp only[okEx,Bool.and_eq_true] at h
  simp only[nwEx,flEx,nws_fls b h.2.1,nws_flsEx a h.2.2,Bool.not_or]
theorem nws_flsEx:∀l:List Ex',okExs l=true→nwExs l=!flExs l
 |[]=>λ_=>rfl
 |x::l=>λh=>by
  simp only[okExs,Bool.and_eq_true] at h
  simp only[nwExs,flExs,nw_flEx x h.1,nws_flsEx l h.2,Bool.not_or]
end
end Go.Proofs.YtmlghadphdpbjaaGreatDoor.Pa
