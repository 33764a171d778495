/- A word of a kind, as the program asks it, is what the document says. What functions of the program do, printed by wip/tools/sx/sx.py. Which trees may be: the program's questions. Operations' signs, functions over slices. Which types and patterns may be: the program's tests, the document's. Which expressions may be: the program's tests, the document's. -/
import Derived.Test.YtgmapdcdmomioaaGreatDoorRG
import Derived.Test.YtgmapdcdmomioaaGreatDoorRE
set_option linter.all false
set_option autoImplicit false
set_option maxRecDepth 100000
namespace Go.Proofs.YtgmapdcdmomioaaGreatDoor.Pa
open Go Go.Proofs.YtgmapdcdmomioaaGreatDoor.Am
theorem runN_all(p:Int→Bool):∀r:Str,runN p r=r.length↔(r.all λc=>p c.toNat)=true
 |[]=>by simp[runN]
 |c::r=>by
  have ih:=runN_all p r
  have:=runN_le p r
  unfold runN at*
  rw[List.takeWhile_cons,List.all_cons]
  cases p c.toNat
  ·simp
  ·simp only[if_true,List.length_cons,Bool.true_and,←ih]
   omega
theorem wordF_kind(k:Int)(hk:k≠1)(s:Str):(wordF k s).1.1=0∨(wordF k s).1.1=k:=by
 unfold wordF
 split
 ·exact .inl rfl
 ·refine .inr ?_
  show(if (k==1&&keyB s)=true then(5:Int) else k)=k
  rw[show(k==1)=false by simpa using hk]
  rfl
theorem numF_kind(s:Str):(numF s).1.1=0∨(numF s).1.1=4:=by
 unfold numF
 split
 ·exact .inr rfl
 ·exact .inl rfl
theorem tokF_kind(c:UInt8)(r:Str):(smB c.toNat=true∧tokF (c::r)=((wordF 1 ((c::r).take (1+runN ptB r))).1,1+runN ptB r,(wordF 1 ((c::r).take (1+runN ptB r))).2))∨
 (smB c.toNat=false∧cpB c.toNat=true∧tokF (c::r)=((wordF 2 ((c::r).take (1+runN ptB r))).1,1+runN ptB r,(wordF 2 ((c::r).take (1+runN ptB r))).2))∨
 (smB c.toNat=false∧cpB c.toNat=false∧((tokF (c::r)).1.1=0∨(tokF (c::r)).1.1=3∨(tokF (c::r)).1.1=4∨(tokF (c::r)).1.1=6)):=by
 cases h1:smB c.toNat with
 |true=>exact .inl ⟨rfl,by simp only[tokF];rw[if_pos h1]⟩
 |false=>
  cases h2:cpB c.toNat with
  |true=>exact .inr (.inl ⟨rfl,rfl,by simp only[tokF];rw[if_neg (by simp[h1]),if_pos h2]⟩)
  |false=>
   refine .inr (.inr ⟨rfl,rfl,?_⟩)
   simp only[tokF]
   generalize (c.toNat==39&&_)=b3
   rw[if_neg (by simp[h1]),if_neg (by simp[h2])]
   split
   ·rcases wordF_kind 3 (by decide) (r.take (runN ptB r)) with h|h
    ·exact .inl h
    ·exact .inr (.inl h)
   ·split
    ·rcases numF_kind ((c::r).take (1+runN dgB r)) with h|h
     ·exact .inl h
     ·exact .inr (.inr (.inl h))
    ·split
     ·exact .inr (.inr (.inr rfl))
     ·exact .inl rfl
theorem decF{p:Prop}[Decidable p](h:¬p):decide p=false:=decide_eq_false h
theorem speltB_low(s:Str):speltB 1 s=wLow s:=by
 cases s with
 |nil=>rfl
 |cons c r=>
  unfold speltB
  rw[show speltS 1 (c::r)=c::r from rfl]
  simp only[reduceCtorEq,false_or,List.length_cons]
  unfold wLow wordB
  simp only[cond_true]
  split
  ·rename_i h
   rw[decF (p:=r.length<32) (by omega)]
   rfl
  ·rename_i h
   have hm:=runN_all ptB r
   rcases tokF_kind c r with ⟨h1,h2⟩|⟨h1,h2,h3⟩|⟨h1,h2,h3⟩
   ·rw[h2,h1]
    cases ha:r.all (λc=>ptB c.toNat) with
    |false=>
     have hne:¬runN ptB r=r.length:=λe=>by rw[hm.1 e] at ha;cases ha
     simp only[Bool.and_false,Bool.false_and]
     refine decF λhh=>hne ?_
     have:=hh.2.1
     omega
    |true=>
     have he:=hm.2 ha
     rw[he]
     have ht:(c::r).take (1+r.length)=c::r:=by rw[List.take_of_length_le];simp[Nat.add_comm]
     rw[ht]
     unfold wordF
     by_cases hl:r.length<32
     ·rw[decide_eq_true hl,if_neg (by simp only[List.length_cons];omega)]
      cases hk:keyB (c::r)
      ·simp;omega
      ·simp
     ·rw[decF hl,if_pos (by simp only[List.length_cons];omega)]
      simp
   ·rw[h1]
    simp only[Bool.false_and,Bool.and_false]
    refine decF λhh=>?_
    have e:=congrArg (·.1) hh.2.2
    rw[h3] at e
    rcases wordF_kind 2 (by decide) ((c::r).take (1+runN ptB r)) with h|h
    ·have e:(wordF 2 ((c::r).take (1+runN ptB r))).1.1=1:=e
     omega
    ·have e:(wordF 2 ((c::r).take (1+runN ptB r))).1.1=1:=e
     omega
   ·rw[h1]
    simp only[Bool.false_and,Bool.and_false]
    refine decF λhh=>?_
    have e:(tokF (c::r)).1.1=1:=congrArg (·.1) hh.2.2
    omega
theorem speltB_up(s:Str):speltB 2 s=wUp s:=by
 cases s with
 |nil=>rfl
 |cons c r=>
  unfold speltB
  rw[show speltS 2 (c::r)=c::r from rfl]
  simp only[reduceCtorEq,false_or,List.length_cons]
  unfold wUp wordB
  simp only[cond_false]
  split
  ·rename_i h
   rw[decF (p:=r.length<32) (by omega)]
   rfl
  ·rename_i h
   have hm:=runN_all ptB r
   rcases tokF_kind c r with ⟨h1,h2⟩|⟨h1,h2,h3⟩|⟨h1,h2,h3⟩
   ·have hc:cpB c.toNat=false:=by
     simp only[smB,Bool.and_eq_true,decide_eq_true_eq] at h1
     simp only[cpB]
     rw[decF (p:=(c.toNat:Int)≤90) (by omega),Bool.and_false]
    rw[h2,hc]
    simp only[Bool.false_and,Bool.and_false]
    refine decF λhh=>?_
    have e:=congrArg (·.1) hh.2.2
    unfold wordF at e
    simp only at e
    split at e
    ·simp at e
    ·split at e<;>simp at e
   ·rw[h3,h2]
    cases ha:r.all (λc=>ptB c.toNat) with
    |false=>
     have hne:¬runN ptB r=r.length:=λe=>by rw[hm.1 e] at ha;cases ha
     simp only[Bool.and_false,Bool.false_and]
     refine decF λhh=>hne ?_
     have:=hh.2.1
     omega
    |true=>
     have he:=hm.2 ha
     rw[he]
     have ht:(c::r).take (1+r.length)=c::r:=by rw[List.take_of_length_le];simp[Nat.add_comm]
     rw[ht]
     unfold wordF
     by_cases hl:r.length<32
     ·rw[decide_eq_true hl,if_neg (by simp only[List.length_cons];omega)]
      simp
      omega
     ·rw[decF hl,if_pos (by simp only[List.length_cons];omega)]
      simp
   ·rw[h2]
    simp only[Bool.false_and,Bool.and_false]
    refine decF λhh=>?_
    have e:(tokF (c::r)).1.1=2:=congrArg (·.1) hh.2.2
    omega
theorem signF_quote(s:Str):signF (39::s) signL=none:=by
 have key:∀l:List Str,(∀x∈l,∃d t,x=d::t∧d≠39)→signF (39::s) l=none:=by
  intro l
  induction l with
  |nil=>intro _;rfl
  |cons x l ih=>
   intro h
   obtain⟨d,t,rfl,hd⟩:=h x List.mem_cons_self
   unfold signF
   rw[if_neg ?_]
   ·exact ih λy hy=>h y (List.mem_cons_of_mem _ hy)
   ·rw[List.isPrefixOf_iff_prefix]
    intro hp
    rw[List.cons_prefix_cons] at hp
    exact hd hp.1
 refine key signL λx hx=>?_
 simp only[signL,List.mem_cons,List.not_mem_nil,or_false] at hx
 rcases hx with rfl|rfl|rfl|rfl|rfl|rfl|rfl|rfl|rfl|rfl|rfl|rfl|rfl|rfl<;>exact⟨_,_,rfl,by decide⟩
theorem speltB_var(s:Str):speltB 3 s=wVar s:=by
 unfold speltB
 rw[show speltS 3 s=39::s from rfl]
 simp only[reduceCtorEq,false_or,List.length_cons]
 unfold wVar
 have e1:smB ((39:UInt8).toNat:Int)=false:=by decide
 have e2:cpB ((39:UInt8).toNat:Int)=false:=by decide
 have e3:((39:UInt8).toNat==39)=true:=by decide
 have e4:((39:UInt8).toNat==126||dgB ((39:UInt8).toNat:Int))=false:=by decide
 cases s with
 |nil=>decide
 |cons c r=>
  simp only[List.length_cons,wordB,cond_true]
  split
  ·rename_i h
   rw[decF (p:=r.length<32) (by omega)]
   rfl
  ·rename_i h
   have hb:ptB c.toNat=true→runN ptB (c::r)=1+runN ptB r:=λhp=>by
    have:=runN_drop ptB (s:=c::r) (i:=0) (by simp)
    simp only[List.drop_zero,List.getElem_cons_zero,List.drop_succ_cons] at this
    rw[hp] at this
    exact this
   simp only[tokF]
   rw[e1,e2,e3,e4,signF_quote]
   simp only[Bool.false_eq_true,if_false,Bool.true_and]
   cases hs:smB c.toNat with
   |false=>simp
   |true=>
    have hp:ptB c.toNat=true:=by simp[ptB,hs]
    rw[hb hp]
    have hm:=runN_all ptB r
    rw[if_pos (by simp;omega)]
    cases ha:r.all (λc=>ptB c.toNat) with
    |false=>
     have hne:¬runN ptB r=r.length:=λe=>by rw[hm.1 e] at ha;cases ha
     simp only[Bool.and_false]
     refine decF λhh=>hne ?_
     have:=hh.2.1
     omega
    |true=>
     have he:=hm.2 ha
     rw[he]
     have ht:(c::r).take (1+r.length)=c::r:=by rw[List.take_of_length_le];simp[Nat.add_comm]
     rw[ht]
     unfold wordF
     by_cases hl:r.length<32
     ·rw[decide_eq_true hl,if_neg (by simp only[List.length_cons];omega)]
      simp
      omega
     ·rw[decF hl,if_pos (by simp only[List.length_cons];omega)]
      simp
section
variable{s:Str}{g:Glob}{Qf:OGP}
theorem wordLow_ok(hs:s.length≤2^40)(hQ:Qf (.val (.d (.bool (wLow s)))) g):EvF TT 136 [.int .i64 1,.str s] g Qf:=parseword_ok (by decide) hs (λh=>absurd h (by decide)) (qcast hQ (speltB_low s).symm)
theorem wordUp_ok(hs:s.length≤2^40)(hQ:Qf (.val (.d (.bool (wUp s)))) g):EvF TT 136 [.int .i64 2,.str s] g Qf:=parseword_ok (by decide) hs (λh=>absurd h (by decide)) (qcast hQ (speltB_up s).symm)
theorem wordVar_ok(hs:s.length<2^40)(hQ:Qf (.val (.d (.bool (wVar s)))) g):EvF TT 136 [.int .i64 3,.str s] g Qf:=parseword_ok (by decide) (by omega) (λ_=>hs) (qcast hQ (speltB_var s).symm)
end
end Go.Proofs.YtgmapdcdmomioaaGreatDoor.Pa
namespace Go.Proofs.YtgmapdcdmomioaaGreatDoor.Pa
open Go Go.Proofs.YtgmapdcdmomioaaGreatDoor.Am
def L197_2(x0:Dat)(f1:FuncId)(c1:List Dat)(n7:Int)(n8:Int)(g:Glob)(Qf:OGP):Prop:=CutP TT Tryz.f197 [1,0,1,0] Qf (mkC TT 197 Tryz.f197 2 [(0,.v 25 (x0)),(1,.v 155 (.clo f1 c1)),(7,.v 3 (.int .i64 n7)),(8,.v 3 (.int .i64 n8))] [] g)
def lo197:List CutI:=[⟨2,[(0,.keep),(1,.keep),(7,.keep),(8,.keep)],[]⟩]
theorem w197{x0:Dat}{f1:FuncId}{c1:List Dat}{g:Glob}{Qf:OGP}(h0:HasTy TT 25 x0)
 (h:L197_2 x0 f1 c1 (↑(elsOf x0).length:Int) 0 g Qf):
 EvF TT 197 [x0,.clo f1 c1] g Qf:=
 sx_fun (rk:=rk) (fn:=Tryz.f197) (loops:=lo197) (joins:=[]) (n:=100000) (args:=[(25,x0),(155,.clo f1 c1)]) rfl rfl rfl rfl ⟨h0,tyClo rfl,trivial⟩ (by kernel_rfl) h
theorem w197_2{x0:Dat}{f1:FuncId}{c1:List Dat}{n7:Int}{n8:Int}{g:Glob}{Qf:OGP}
 (h:Br (decide (n8<n7)) (InB n8 (elsOf x0).length∧EvF TT f1 (getE (elsOf x0) n8::c1) g (KQ Qf λv g'=>∃b,v=.d (.bool b)∧Br b (Qf (.val (.d (.int .i64 n8))) g') (L197_2 x0 f1 c1 n7 (IntKind.i64.wrap (n8+1)) g' Qf))) (Qf (.val (.d (.int .i64 (-1)))) g)):
 L197_2 x0 f1 c1 n7 n8 g Qf:=sx_cut (rk:=rk) (loops:=lo197) (joins:=[]) (n:=100000) (by kernel_rfl) h
def lo130:List CutI:=[]
theorem w130{x0:Dat}{f1:FuncId}{c1:List Dat}{g:Glob}{Qf:OGP}(h0:HasTy TT 25 x0)
 (h:EvF TT 197 [x0,.clo f1 c1] g (KQ Qf λv g'=>∃n,v=.d (.int .i64 n)∧Qf (.val (.d (.bool (decide (0≤n))))) g')):
 EvF TT 130 [x0,.clo f1 c1] g Qf:=
 sx_fun (rk:=rk) (fn:=Tryz.f130) (loops:=lo130) (joins:=[]) (n:=100000) (args:=[(25,x0),(155,.clo f1 c1)]) rfl rfl rfl rfl ⟨h0,tyClo rfl,trivial⟩ (by kernel_rfl) h
def L199_2(x0:Dat)(f1:FuncId)(c1:List Dat)(n7:Int)(n8:Int)(g:Glob)(Qf:OGP):Prop:=CutP TT Tryz.f199 [1,0,1,0] Qf (mkC TT 199 Tryz.f199 2 [(0,.v 24 (x0)),(1,.v 59 (.clo f1 c1)),(7,.v 3 (.int .i64 n7)),(8,.v 3 (.int .i64 n8))] [] g)
def lo199:List CutI:=[⟨2,[(0,.keep),(1,.keep),(7,.keep),(8,.keep)],[]⟩]
theorem w199{x0:Dat}{f1:FuncId}{c1:List Dat}{g:Glob}{Qf:OGP}(h0:HasTy TT 24 x0)
 (h:L199_2 x0 f1 c1 (↑(elsOf x0).length:Int) 0 g Qf):
 EvF TT 199 [x0,.clo f1 c1] g Qf:=
 sx_fun (rk:=rk) (fn:=Tryz.f199) (loops:=lo199) (joins:=[]) (n:=100000) (args:=[(24,x0),(59,.clo f1 c1)]) rfl rfl rfl rfl ⟨h0,tyClo rfl,trivial⟩ (by kernel_rfl) h
theorem w199_2{x0:Dat}{f1:FuncId}{c1:List Dat}{n7:Int}{n8:Int}{g:Glob}{Qf:OGP}
 (h:Br (decide (n8<n7)) (InB n8 (elsOf x0).length∧EvF TT f1 (getE (elsOf x0) n8::c1) g (KQ Qf λv g'=>∃b,v=.d (.bool b)∧Br b (Qf (.val (.d (.int .i64 n8))) g') (L199_2 x0 f1 c1 n7 (IntKind.i64.wrap (n8+1)) g' Qf))) (Qf (.val (.d (.int .i64 (-1)))) g)):
 L199_2 x0 f1 c1 n7 n8 g Qf:=sx_cut (rk:=rk) (loops:=lo199) (joins:=[]) (n:=100000) (by kernel_rfl) h
def lo133:List CutI:=[]
theorem w133{x0:Dat}{f1:FuncId}{c1:List Dat}{g:Glob}{Qf:OGP}(h0:HasTy TT 24 x0)
 (h:EvF TT 199 [x0,.clo f1 c1] g (KQ Qf λv g'=>∃n,v=.d (.int .i64 n)∧Qf (.val (.d (.bool (decide (0≤n))))) g')):
 EvF TT 133 [x0,.clo f1 c1] g Qf:=
 sx_fun (rk:=rk) (fn:=Tryz.f133) (loops:=lo133) (joins:=[]) (n:=100000) (args:=[(24,x0),(59,.clo f1 c1)]) rfl rfl rfl rfl ⟨h0,tyClo rfl,trivial⟩ (by kernel_rfl) h
def L201_2(x0:Dat)(f1:FuncId)(c1:List Dat)(n7:Int)(n8:Int)(g:Glob)(Qf:OGP):Prop:=CutP TT Tryz.f201 [1,0,1,0] Qf (mkC TT 201 Tryz.f201 2 [(0,.v 89 (x0)),(1,.v 160 (.clo f1 c1)),(7,.v 3 (.int .i64 n7)),(8,.v 3 (.int .i64 n8))] [] g)
def lo201:List CutI:=[⟨2,[(0,.keep),(1,.keep),(7,.keep),(8,.keep)],[]⟩]
theorem w201{x0:Dat}{f1:FuncId}{c1:List Dat}{g:Glob}{Qf:OGP}(h0:HasTy TT 89 x0)
 (h:L201_2 x0 f1 c1 (↑(elsOf x0).length:Int) 0 g Qf):
 EvF TT 201 [x0,.clo f1 c1] g Qf:=
 sx_fun (rk:=rk) (fn:=Tryz.f201) (loops:=lo201) (joins:=[]) (n:=100000) (args:=[(89,x0),(160,.clo f1 c1)]) rfl rfl rfl rfl ⟨h0,tyClo rfl,trivial⟩ (by kernel_rfl) h
theorem w201_2{x0:Dat}{f1:FuncId}{c1:List Dat}{n7:Int}{n8:Int}{g:Glob}{Qf:OGP}
 (h:Br (decide (n8<n7)) (InB n8 (elsOf x0).length∧EvF TT f1 (getE (elsOf x0) n8::c1) g (KQ Qf λv g'=>∃b,v=.d (.bool b)∧Br b (Qf (.val (.d (.int .i64 n8))) g') (L201_2 x0 f1 c1 n7 (IntKind.i64.wrap (n8+1)) g' Qf))) (Qf (.val (.d (.int .i64 (-1)))) g)):
 L201_2 x0 f1 c1 n7 n8 g Qf:=sx_cut (rk:=rk) (loops:=lo201) (joins:=[]) (n:=100000) (by kernel_rfl) h
def lo137:List CutI:=[]
theorem w137{x0:Dat}{f1:FuncId}{c1:List Dat}{g:Glob}{Qf:OGP}(h0:HasTy TT 89 x0)
 (h:EvF TT 201 [x0,.clo f1 c1] g (KQ Qf λv g'=>∃n,v=.d (.int .i64 n)∧Qf (.val (.d (.bool (decide (0≤n))))) g')):
 EvF TT 137 [x0,.clo f1 c1] g Qf:=
 sx_fun (rk:=rk) (fn:=Tryz.f137) (loops:=lo137) (joins:=[]) (n:=100000) (args:=[(89,x0),(160,.clo f1 c1)]) rfl rfl rfl rfl ⟨h0,tyClo rfl,trivial⟩ (by kernel_rfl) h
def L135_2(x0:Dat)(f1:FuncId)(c1:List Dat)(n7:Int)(n8:Int)(g:Glob)(Qf:OGP):Prop:=CutP TT Tryz.f135 [1,0,1,0] Qf (mkC TT 135 Tryz.f135 2 [(0,.v 23 (x0)),(1,.v 100 (.clo f1 c1)),(7,.v 3 (.int .i64 n7)),(8,.v 3 (.int .i64 n8))] [] g)
def lo135:List CutI:=[⟨2,[(0,.keep),(1,.keep),(7,.keep),(8,.keep)],[]⟩]
theorem w135{x0:Dat}{f1:FuncId}{c1:List Dat}{g:Glob}{Qf:OGP}(h0:HasTy TT 23 x0)
 (h:L135_2 x0 f1 c1 (↑(elsOf x0).length:Int) 0 g Qf):
 EvF TT 135 [x0,.clo f1 c1] g Qf:=
 sx_fun (rk:=rk) (fn:=Tryz.f135) (loops:=lo135) (joins:=[]) (n:=100000) (args:=[(23,x0),(100,.clo f1 c1)]) rfl rfl rfl rfl ⟨h0,tyClo rfl,trivial⟩ (by kernel_rfl) h
theorem w135_2{x0:Dat}{f1:FuncId}{c1:List Dat}{n7:Int}{n8:Int}{g:Glob}{Qf:OGP}
 (h:Br (decide (n8<n7)) (InB n8 (elsOf x0).length∧EvF TT f1 (getE (elsOf x0) n8::c1) g (KQ Qf λv g'=>∃b,v=.d (.bool b)∧Br b (Qf (.val (.d (.int .i64 n8))) g') (L135_2 x0 f1 c1 n7 (IntKind.i64.wrap (n8+1)) g' Qf))) (Qf (.val (.d (.int .i64 (-1)))) g)):
 L135_2 x0 f1 c1 n7 n8 g Qf:=sx_cut (rk:=rk) (loops:=lo135) (joins:=[]) (n:=100000) (by kernel_rfl) h
def lo68:List CutI:=[]
theorem w68{x0:Dat}{f1:FuncId}{c1:List Dat}{g:Glob}{Qf:OGP}(h0:HasTy TT 23 x0)
 (h:EvF TT 135 [x0,.clo f1 c1] g (KQ Qf λv g'=>∃n,v=.d (.int .i64 n)∧Qf (.val (.d (.bool (decide (0≤n))))) g')):
 EvF TT 68 [x0,.clo f1 c1] g Qf:=
 sx_fun (rk:=rk) (fn:=Tryz.f68) (loops:=lo68) (joins:=[]) (n:=100000) (args:=[(23,x0),(100,.clo f1 c1)]) rfl rfl rfl rfl ⟨h0,tyClo rfl,trivial⟩ (by kernel_rfl) h
def lo184:List CutI:=[]
theorem w184{x0:Dat}{g:Glob}{Qf:OGP}(h0:HasTy TT 127 x0)
 (h:Br (decide ((↑(elsOf (fld x0 3)).length:Int)≤8)) (EvF TT 130 [fld x0 3,.clo 215 []] g (KQ Qf λv g'=>∃b,v=.d (.bool b)∧Qf (.val (.d (.bool !b))) g')) (Qf (.val (.d (.bool false))) g)):
 EvF TT 184 [x0] g Qf:=
 sx_fun (rk:=rk) (fn:=Tryz.f184) (loops:=lo184) (joins:=[]) (n:=100000) (args:=[(127,x0)]) rfl rfl rfl rfl ⟨h0,trivial⟩ (by kernel_rfl) h
def lo215:List CutI:=[]
theorem w215{x0:Dat}{g:Glob}{Qf:OGP}(h0:HasTy TT 127 x0)
 (h:EvF TT 184 [x0] g (KQ Qf λv g'=>∃b,v=.d (.bool b)∧Qf (.val (.d (.bool !b))) g')):
 EvF TT 215 [x0] g Qf:=
 sx_fun (rk:=rk) (fn:=Tryz.f215) (loops:=lo215) (joins:=[]) (n:=100000) (args:=[(127,x0)]) rfl rfl rfl rfl ⟨h0,trivial⟩ (by kernel_rfl) h
def lo183:List CutI:=[]
theorem w183{x0:Dat}{g:Glob}{Qf:OGP}(h0:HasTy TT 127 x0)
 (h:EvF TT 184 [x0] g (KQ Qf λv g'=>∃b,v=.d (.bool b)∧Qf (.val (.d (.bool !b))) g')):
 EvF TT 183 [x0] g Qf:=
 sx_fun (rk:=rk) (fn:=Tryz.f183) (loops:=lo183) (joins:=[]) (n:=100000) (args:=[(127,x0)]) rfl rfl rfl rfl ⟨h0,trivial⟩ (by kernel_rfl) h
def lo103:List CutI:=[]
theorem w103{x0:Dat}{g:Glob}{Qf:OGP}(h0:HasTy TT 27 x0)
 (h:Br (intOf (fld x0 0)==8) (Br (decide (8<(↑(elsOf (fld x0 4)).length:Int))) (Qf (.val (.d (.bool false))) g) (EvF TT 130 [fld x0 5,.clo 183 []] g (KQ Qf λv g'=>∃b,v=.d (.bool b)∧Br (!b) (EvF TT 133 [fld x0 4,.clo 185 []] g' (KQ Qf λv g'=>∃b,v=.d (.bool b)∧Qf (.val (.d (.bool !b))) g')) (Qf (.val (.d (.bool false))) g')))) (EvF TT 130 [fld x0 5,.clo 183 []] g (KQ Qf λv g'=>∃b,v=.d (.bool b)∧Br (!b) (EvF TT 133 [fld x0 4,.clo 185 []] g' (KQ Qf λv g'=>∃b,v=.d (.bool b)∧Qf (.val (.d (.bool !b))) g')) (Qf (.val (.d (.bool false))) g')))):
 EvF TT 103 [x0] g Qf:=
 sx_fun (rk:=rk) (fn:=Tryz.f103) (loops:=lo103) (joins:=[]) (n:=100000) (args:=[(27,x0)]) rfl rfl rfl rfl ⟨h0,trivial⟩ (by kernel_rfl) h
def lo185:List CutI:=[]
theorem w185{x0:Dat}{g:Glob}{Qf:OGP}(h0:HasTy TT 27 x0)
 (h:EvF TT 103 [x0] g (KQ Qf λv g'=>∃b,v=.d (.bool b)∧Qf (.val (.d (.bool !b))) g')):
 EvF TT 185 [x0] g Qf:=
 sx_fun (rk:=rk) (fn:=Tryz.f185) (loops:=lo185) (joins:=[]) (n:=100000) (args:=[(27,x0)]) rfl rfl rfl rfl ⟨h0,trivial⟩ (by kernel_rfl) h
def L192_4(n3:Int)(y1:Dat)(g:Glob)(Qf:OGP):Prop:=CutP TT Tryz.f192 [1,1,0,1,0] Qf (mkC TT 192 Tryz.f192 1 [(1,.loc 1 0 0),(3,.v 3 (.int .i64 n3))] [(1,.whole 127 y1)] g)
def lo192:List CutI:=[⟨4,[(1,.keep),(3,.keep)],[(1,.whole 127)]⟩]
theorem w192{x0:Dat}{g:Glob}{Qf:OGP}(h0:HasTy TT 127 x0)
 (h:Br (intOf (fld x0 0)==4) (Br (decide (8<(↑(elsOf (fld x0 3)).length:Int))) (Qf (.val (.d (.bool true))) g) (L192_4 0 x0 g Qf)) (L192_4 0 x0 g Qf)):
 EvF TT 192 [x0] g Qf:=
 sx_fun (rk:=rk) (fn:=Tryz.f192) (loops:=lo192) (joins:=[]) (n:=100000) (args:=[(127,x0)]) rfl rfl rfl rfl ⟨h0,trivial⟩ (by kernel_rfl) h
theorem w192_4{n3:Int}{y1:Dat}{g:Glob}{Qf:OGP}
 (h:Br (decide (n3<(↑(elsOf (fld y1 3)).length:Int))) (InB n3 (elsOf (fld y1 3)).length∧EvF TT 192 [getE (elsOf (fld y1 3)) n3] g (KQ Qf λv g'=>∃b,v=.d (.bool b)∧Br b (Qf (.val (.d (.bool true))) g') (L192_4 (IntKind.i64.wrap (n3+1)) y1 g' Qf))) (Qf (.val (.d (.bool false))) g)):
 L192_4 n3 y1 g Qf:=sx_cut (rk:=rk) (loops:=lo192) (joins:=[]) (n:=100000) (by kernel_rfl) h
def L114_4(n3:Int)(y1:Dat)(g:Glob)(Qf:OGP):Prop:=CutP TT Tryz.f114 [1,1,0,1,0] Qf (mkC TT 114 Tryz.f114 1 [(1,.loc 1 0 0),(3,.v 3 (.int .i64 n3))] [(1,.whole 27 y1)] g)
def L114_9(n4:Int)(y1:Dat)(g:Glob)(Qf:OGP):Prop:=CutP TT Tryz.f114 [1,1,1,0,1,0] Qf (mkC TT 114 Tryz.f114 1 [(1,.loc 1 0 0),(4,.v 3 (.int .i64 n4))] [(1,.whole 27 y1)] g)
def lo114:List CutI:=[⟨4,[(1,.keep),(3,.keep)],[(1,.whole 27)]⟩,⟨9,[(1,.keep),(4,.keep)],[(1,.whole 27)]⟩]
theorem w114{x0:Dat}{g:Glob}{Qf:OGP}(h0:HasTy TT 27 x0)
 (h:Br (intOf (fld x0 0)==8) (Br (decide (8<(↑(elsOf (fld x0 4)).length:Int))) (Qf (.val (.d (.bool true))) g) (L114_4 0 x0 g Qf)) (L114_4 0 x0 g Qf)):
 EvF TT 114 [x0] g Qf:=
 sx_fun (rk:=rk) (fn:=Tryz.f114) (loops:=lo114) (joins:=[]) (n:=100000) (args:=[(27,x0)]) rfl rfl rfl rfl ⟨h0,trivial⟩ (by kernel_rfl) h
theorem w114_4{n3:Int}{y1:Dat}{g:Glob}{Qf:OGP}
 (h:Br (decide (n3<(↑(elsOf (fld y1 5)).length:Int))) (InB n3 (elsOf (fld y1 5)).length∧EvF TT 192 [getE (elsOf (fld y1 5)) n3] g (KQ Qf λv g'=>∃b,v=.d (.bool b)∧Br b (Qf (.val (.d (.bool true))) g') (L114_4 (IntKind.i64.wrap (n3+1)) y1 g' Qf))) (L114_9 0 y1 g Qf)):
 L114_4 n3 y1 g Qf:=sx_cut (rk:=rk) (loops:=lo114) (joins:=[]) (n:=100000) (by kernel_rfl) h
theorem w114_9{n4:Int}{y1:Dat}{g:Glob}{Qf:OGP}
 (h:Br (decide (n4<(↑(elsOf (fld y1 4)).length:Int))) (InB n4 (elsOf (fld y1 4)).length∧EvF TT 114 [getE (elsOf (fld y1 4)) n4] g (KQ Qf λv g'=>∃b,v=.d (.bool b)∧Br b (Qf (.val (.d (.bool true))) g') (L114_9 (IntKind.i64.wrap (n4+1)) y1 g' Qf))) (Qf (.val (.d (.bool false))) g)):
 L114_9 n4 y1 g Qf:=sx_cut (rk:=rk) (loops:=lo114) (joins:=[]) (n:=100000) (by kernel_rfl) h
def L47_4(x30:Dat)(n31:Int)(n32:Int)(y1:Dat)(g:Glob)(Qf:OGP):Prop:=CutP TT Tryz.f47 [1,1,0,1,0] Qf (mkC TT 47 Tryz.f47 1 [(1,.loc 1 0 0),(30,.v 23 (x30)),(31,.v 3 (.int .i64 n31)),(32,.v 3 (.int .i64 n32))] [(1,.whole 29 y1)] g)
def L47_9(x30:Dat)(n31:Int)(n32:Int)(x47:Dat)(n48:Int)(n49:Int)(y1:Dat)(g:Glob)(Qf:OGP):Prop:=CutP TT Tryz.f47 [1,1,0,1,0,0,1,1,0,0,1,1,1,0] Qf (mkC TT 47 Tryz.f47 1 [(1,.loc 1 0 0),(30,.v 23 (x30)),(31,.v 3 (.int .i64 n31)),(32,.v 3 (.int .i64 n32)),(47,.v 74 (x47)),(48,.v 3 (.int .i64 n48)),(49,.v 3 (.int .i64 n49))] [(1,.whole 29 y1)] g)
def L47_17(n7:Int)(x63:Dat)(n64:Int)(n65:Int)(g:Glob)(Qf:OGP):Prop:=CutP TT Tryz.f47 [1,1,1,1,0,1,0] Qf (mkC TT 47 Tryz.f47 1 [(7,.v 3 (.int .i64 n7)),(63,.v 23 (x63)),(64,.v 3 (.int .i64 n64)),(65,.v 3 (.int .i64 n65))] [] g)
def L47_20(n7:Int)(x63:Dat)(n64:Int)(n65:Int)(x70:Dat)(n71:Int)(n72:Int)(g:Glob)(Qf:OGP):Prop:=CutP TT Tryz.f47 [1,1,1,1,0,1,0,0,1,1,0,0,1,1,0] Qf (mkC TT 47 Tryz.f47 1 [(7,.v 3 (.int .i64 n7)),(63,.v 23 (x63)),(64,.v 3 (.int .i64 n64)),(65,.v 3 (.int .i64 n65)),(70,.v 74 (x70)),(71,.v 3 (.int .i64 n71)),(72,.v 3 (.int .i64 n72))] [] g)
def L47_23(n7:Int)(x63:Dat)(n64:Int)(n65:Int)(x70:Dat)(n71:Int)(n72:Int)(x77:Dat)(n78:Int)(n79:Int)(g:Glob)(Qf:OGP):Prop:=CutP TT Tryz.f47 [1,1,1,1,0,1,0,0,1,1,0,0,1,1,0,0,1,1,0,0,1,1,0] Qf (mkC TT 47 Tryz.f47 1 [(7,.v 3 (.int .i64 n7)),(63,.v 23 (x63)),(64,.v 3 (.int .i64 n64)),(65,.v 3 (.int .i64 n65)),(70,.v 74 (x70)),(71,.v 3 (.int .i64 n71)),(72,.v 3 (.int .i64 n72)),(77,.v 89 (x77)),(78,.v 3 (.int .i64 n78)),(79,.v 3 (.int .i64 n79))] [] g)
def lo47:List CutI:=[⟨4,[(1,.keep),(30,.keep),(31,.keep),(32,.keep)],[(1,.whole 29)]⟩,⟨9,[(1,.keep),(30,.keep),(31,.keep),(32,.keep),(47,.keep),(48,.keep),(49,.keep)],[(1,.whole 29)]⟩,⟨17,[(7,.keep),(63,.keep),(64,.keep),(65,.keep)],[]⟩,⟨20,[(7,.keep),(63,.keep),(64,.keep),(65,.keep),(70,.keep),(71,.keep),(72,.keep)],[]⟩,⟨23,[(7,.keep),(63,.keep),(64,.keep),(65,.keep),(70,.keep),(71,.keep),(72,.keep),(77,.keep),(78,.keep),(79,.keep)],[]⟩]
theorem w47{x0:Dat}{g:Glob}{Qf:OGP}(h0:HasTy TT 29 x0)
 (h:Br (decide (32<(↑(elsOf (fld x0 0)).length:Int))) (Qf (.val (.d (.int .i64 3))) g) (EvF TT 26 [x0] g (KQ Qf λv g'=>∃n,v=.d (.int .i64 n)∧Br (decide (2048<n)) (Qf (.val (.d (.int .i64 3))) g') (EvF TT 103 [sub x0 1 7] g' (KQ Qf λv g'=>∃b,v=.d (.bool b)∧Br (!b) (Qf (.val (.d (.int .i64 3))) g') (L47_4 (fld x0 0) (↑(elsOf (fld x0 0)).length:Int) 0 x0 g' Qf)))))):
 EvF TT 47 [x0] g Qf:=
 sx_fun (rk:=rk) (fn:=Tryz.f47) (loops:=lo47) (joins:=[]) (n:=100000) (args:=[(29,x0)]) rfl rfl rfl rfl ⟨h0,trivial⟩ (by kernel_rfl) h
theorem w47_4{x30:Dat}{n31:Int}{n32:Int}{y1:Dat}{g:Glob}{Qf:OGP}
 (h:Br (decide (n32<n31)) (InB n32 (elsOf x30).length∧Br (decide (4<(↑(elsOf (fld (getE (elsOf x30) n32) 1)).length:Int))) (Qf (.val (.d (.int .i64 3))) g) (Br (decide (32<(↑(elsOf (fld (getE (elsOf x30) n32) 2)).length:Int))) (Qf (.val (.d (.int .i64 3))) g) (L47_9 x30 n31 n32 (fld (getE (elsOf x30) n32) 2) (↑(elsOf (fld (getE (elsOf x30) n32) 2)).length:Int) 0 y1 g Qf))) (EvF TT 104 [sub y1 1 7] g (KQ Qf λv g'=>∃n,v=.d (.int .i64 n)∧L47_17 n (fld y1 0) (↑(elsOf (fld y1 0)).length:Int) 0 g' Qf))):
 L47_4 x30 n31 n32 y1 g Qf:=sx_cut (rk:=rk) (loops:=lo47) (joins:=[]) (n:=100000) (by kernel_rfl) h
theorem w47_9{x30:Dat}{n31:Int}{n32:Int}{x47:Dat}{n48:Int}{n49:Int}{y1:Dat}{g:Glob}{Qf:OGP}
 (h:Br (decide (n49<n48)) (InB n49 (elsOf x47).length∧Br (decide (8<(↑(elsOf (fld (getE (elsOf x47) n49) 1)).length:Int))) (Qf (.val (.d (.int .i64 3))) g) (L47_9 x30 n31 n32 x47 n48 (IntKind.i64.wrap (n49+1)) y1 g Qf)) (L47_4 x30 n31 (IntKind.i64.wrap (n32+1)) y1 g Qf)):
 L47_9 x30 n31 n32 x47 n48 n49 y1 g Qf:=sx_cut (rk:=rk) (loops:=lo47) (joins:=[]) (n:=100000) (by kernel_rfl) h
theorem w47_17{n7:Int}{x63:Dat}{n64:Int}{n65:Int}{g:Glob}{Qf:OGP}
 (h:Br (decide (n65<n64)) (InB n65 (elsOf x63).length∧L47_20 n7 x63 n64 n65 (fld (getE (elsOf x63) n65) 2) (↑(elsOf (fld (getE (elsOf x63) n65) 2)).length:Int) 0 g Qf) (Br (decide (256<n7)) (Qf (.val (.d (.int .i64 4))) g) (Qf (.val (.d (.int .i64 0))) g))):
 L47_17 n7 x63 n64 n65 g Qf:=sx_cut (rk:=rk) (loops:=lo47) (joins:=[]) (n:=100000) (by kernel_rfl) h
theorem w47_20{n7:Int}{x63:Dat}{n64:Int}{n65:Int}{x70:Dat}{n71:Int}{n72:Int}{g:Glob}{Qf:OGP}
 (h:Br (decide (n72<n71)) (InB n72 (elsOf x70).length∧L47_23 n7 x63 n64 n65 x70 n71 n72 (fld (getE (elsOf x70) n72) 1) (↑(elsOf (fld (getE (elsOf x70) n72) 1)).length:Int) 0 g Qf) (L47_17 n7 x63 n64 (IntKind.i64.wrap (n65+1)) g Qf)):
 L47_20 n7 x63 n64 n65 x70 n71 n72 g Qf:=sx_cut (rk:=rk) (loops:=lo47) (joins:=[]) (n:=100000) (by kernel_rfl) h
theorem w47_23{n7:Int}{x63:Dat}{n64:Int}{n65:Int}{x70:Dat}{n71:Int}{n72:Int}{x77:Dat}{n78:Int}{n79:Int}{g:Glob}{Qf:OGP}
 (h:Br (decide (n79<n78)) (InB n79 (elsOf x77).length∧EvF TT 105 [getE (elsOf x77) n79] g (KQ Qf λv g'=>∃n,v=.d (.int .i64 n)∧L47_23 (maxS true n7 n) x63 n64 n65 x70 n71 n72 x77 n78 (IntKind.i64.wrap (n79+1)) g' Qf)) (L47_20 n7 x63 n64 n65 x70 n71 (IntKind.i64.wrap (n72+1)) g Qf)):
 L47_23 n7 x63 n64 n65 x70 n71 n72 x77 n78 n79 g Qf:=sx_cut (rk:=rk) (loops:=lo47) (joins:=[]) (n:=100000) (by kernel_rfl) h
def L52_5(b3:Bool)(n4:Int)(y1:Dat)(g:Glob)(Qf:OGP):Prop:=CutP TT Tryz.f52 [1,1,1,0,1,0] Qf (mkC TT 52 Tryz.f52 1 [(1,.loc 1 0 0),(3,.v 4 (.bool b3)),(4,.v 3 (.int .i64 n4))] [(1,.whole 29 y1)] g)
def L52_11(b3:Bool)(n4:Int)(n6:Int)(y5:Dat)(y1:Dat)(g:Glob)(Qf:OGP):Prop:=CutP TT Tryz.f52 [1,1,1,0,1,0,0,1,0,0,1,1,1,0] Qf (mkC TT 52 Tryz.f52 1 [(1,.loc 1 0 0),(3,.v 4 (.bool b3)),(4,.v 3 (.int .i64 n4)),(5,.loc 5 0 0),(6,.v 3 (.int .i64 n6))] [(5,.whole 76 y5),(1,.whole 29 y1)] g)
def L52_16(b3:Bool)(n4:Int)(n6:Int)(n7:Int)(y5:Dat)(y1:Dat)(g:Glob)(Qf:OGP):Prop:=CutP TT Tryz.f52 [1,1,1,0,1,0,0,1,0,0,1,1,1,0,0,1,0,0,1,1,0] Qf (mkC TT 52 Tryz.f52 1 [(1,.loc 1 0 0),(3,.v 4 (.bool b3)),(4,.v 3 (.int .i64 n4)),(5,.loc 5 0 0),(6,.v 3 (.int .i64 n6)),(7,.v 3 (.int .i64 n7))] [(5,.whole 76 y5),(1,.whole 29 y1)] g)
def lo52:List CutI:=[⟨5,[(1,.keep),(3,.keep),(4,.keep)],[(1,.whole 29)]⟩,⟨11,[(1,.keep),(3,.keep),(4,.keep),(5,.keep),(6,.keep)],[(5,.whole 76),(1,.whole 29)]⟩,⟨16,[(1,.keep),(3,.keep),(4,.keep),(5,.keep),(6,.keep),(7,.keep)],[(5,.whole 76),(1,.whole 29)]⟩]
theorem w52{x0:Dat}{g:Glob}{Qf:OGP}(h0:HasTy TT 29 x0)
 (h:Br (decide (32<(↑(elsOf (fld x0 0)).length:Int))) (Qf (.val (.d (.int .i64 3))) g) (EvF TT 27 [x0] g (KQ Qf λv g'=>∃n,v=.d (.int .i64 n)∧Br (decide (2048<n)) (Qf (.val (.d (.int .i64 3))) g') (EvF TT 114 [sub x0 1 7] g' (KQ Qf λv g'=>∃b,v=.d (.bool b)∧Br b (Qf (.val (.d (.int .i64 3))) g') (EvF TT 115 [sub x0 1 7,.int .i64 256] g' (KQ Qf λv g'=>∃b,v=.d (.bool b)∧L52_5 b 0 x0 g' Qf))))))):
 EvF TT 52 [x0] g Qf:=
 sx_fun (rk:=rk) (fn:=Tryz.f52) (loops:=lo52) (joins:=[]) (n:=100000) (args:=[(29,x0)]) rfl rfl rfl rfl ⟨h0,trivial⟩ (by kernel_rfl) h
theorem w52_5{b3:Bool}{n4:Int}{y1:Dat}{g:Glob}{Qf:OGP}
 (h:Br (decide (n4<(↑(elsOf (fld y1 0)).length:Int))) (InB n4 (elsOf (fld y1 0)).length∧Br (decide (4<(↑(elsOf (fld (getE (elsOf (fld y1 0)) n4) 1)).length:Int))) (Qf (.val (.d (.int .i64 3))) g) (Br (decide (32<(↑(elsOf (fld (getE (elsOf (fld y1 0)) n4) 2)).length:Int))) (Qf (.val (.d (.int .i64 3))) g) (L52_11 b3 n4 0 (getE (elsOf (fld y1 0)) n4) y1 g Qf))) (Br b3 (Qf (.val (.d (.int .i64 4))) g) (Qf (.val (.d (.int .i64 0))) g))):
 L52_5 b3 n4 y1 g Qf:=sx_cut (rk:=rk) (loops:=lo52) (joins:=[]) (n:=100000) (by kernel_rfl) h
theorem w52_11{b3:Bool}{n4:Int}{n6:Int}{y5:Dat}{y1:Dat}{g:Glob}{Qf:OGP}
 (h:Br (decide (n6<(↑(elsOf (fld y5 2)).length:Int))) (InB n6 (elsOf (fld y5 2)).length∧Br (decide (8<(↑(elsOf (fld (getE (elsOf (fld y5 2)) n6) 1)).length:Int))) (Qf (.val (.d (.int .i64 3))) g) (L52_16 b3 n4 n6 0 y5 y1 g Qf)) (L52_5 b3 (IntKind.i64.wrap (n4+1)) y1 g Qf)):
 L52_11 b3 n4 n6 y5 y1 g Qf:=sx_cut (rk:=rk) (loops:=lo52) (joins:=[]) (n:=100000) (by kernel_rfl) h
theorem w52_16{b3:Bool}{n4:Int}{n6:Int}{n7:Int}{y5:Dat}{y1:Dat}{g:Glob}{Qf:OGP}
 (h:InB n6 (elsOf (fld y5 2)).length∧Br (decide (n7<(↑(elsOf (fld (getE (elsOf (fld y5 2)) n6) 1)).length:Int))) (Br b3 (L52_16 true n4 n6 (IntKind.i64.wrap (n7+1)) y5 y1 g Qf) (InB n6 (elsOf (fld y5 2)).length∧InB n7 (elsOf (fld (getE (elsOf (fld y5 2)) n6) 1)).length∧EvF TT 74 [getE (elsOf (fld (getE (elsOf (fld y5 2)) n6) 1)) n7,.int .i64 256] g (KQ Qf λv g'=>∃b,v=.d (.bool b)∧L52_16 b n4 n6 (IntKind.i64.wrap (n7+1)) y5 y1 g' Qf))) (L52_11 b3 n4 (IntKind.i64.wrap (n6+1)) y5 y1 g Qf)):
 L52_16 b3 n4 n6 n7 y5 y1 g Qf:=sx_cut (rk:=rk) (loops:=lo52) (joins:=[]) (n:=100000) (by kernel_rfl) h
def lo132:List CutI:=[]
theorem w132{x0:Dat}{g:Glob}{Qf:OGP}(h0:HasTy TT 127 x0)
 (h:Br (intOf (fld x0 0)==1) (Br (strOf (fld x0 1)==[]) (Br (intOf (fld x0 2)==0) (Br ((↑(elsOf (fld x0 3)).length:Int)==0) (EvF TT 130 [fld x0 3,.clo 198 []] g (KQ Qf λv g'=>∃b,v=.d (.bool b)∧Qf (.val (.d (.bool !b))) g')) (Qf (.val (.d (.bool false))) g)) (Qf (.val (.d (.bool false))) g)) (Qf (.val (.d (.bool false))) g)) (Br (intOf (fld x0 0)==2) (EvF TT 136 [.int .i64 1,.str (strOf (fld x0 1))] g (KQ Qf λv g'=>∃b,v=.d (.bool b)∧Br b (Br (intOf (fld x0 2)==0) (Br ((↑(elsOf (fld x0 3)).length:Int)==0) (EvF TT 130 [fld x0 3,.clo 198 []] g' (KQ Qf λv g'=>∃b,v=.d (.bool b)∧Qf (.val (.d (.bool !b))) g')) (Qf (.val (.d (.bool false))) g')) (Qf (.val (.d (.bool false))) g')) (Qf (.val (.d (.bool false))) g'))) (Br (intOf (fld x0 0)==3) (Br (strOf (fld x0 1)==[]) (EvF TT 195 [.int .i64 (intOf (fld x0 2))] g (KQ Qf λv g'=>∃b,v=.d (.bool b)∧Br b (Br ((↑(elsOf (fld x0 3)).length:Int)==0) (EvF TT 130 [fld x0 3,.clo 198 []] g' (KQ Qf λv g'=>∃b,v=.d (.bool b)∧Qf (.val (.d (.bool !b))) g')) (Qf (.val (.d (.bool false))) g')) (Qf (.val (.d (.bool false))) g'))) (Qf (.val (.d (.bool false))) g)) (Br (intOf (fld x0 0)==4) (EvF TT 136 [.int .i64 2,.str (strOf (fld x0 1))] g (KQ Qf λv g'=>∃b,v=.d (.bool b)∧Br b (Br (intOf (fld x0 2)==0) (EvF TT 130 [fld x0 3,.clo 198 []] g' (KQ Qf λv g'=>∃b,v=.d (.bool b)∧Qf (.val (.d (.bool !b))) g')) (Qf (.val (.d (.bool false))) g')) (Qf (.val (.d (.bool false))) g'))) (Qf (.val (.d (.bool false))) g))))):
 EvF TT 132 [x0] g Qf:=
 sx_fun (rk:=rk) (fn:=Tryz.f132) (loops:=lo132) (joins:=[]) (n:=100000) (args:=[(127,x0)]) rfl rfl rfl rfl ⟨h0,trivial⟩ (by kernel_rfl) h
def lo198:List CutI:=[]
theorem w198{x0:Dat}{g:Glob}{Qf:OGP}(h0:HasTy TT 127 x0)
 (h:EvF TT 132 [x0] g (KQ Qf λv g'=>∃b,v=.d (.bool b)∧Qf (.val (.d (.bool !b))) g')):
 EvF TT 198 [x0] g Qf:=
 sx_fun (rk:=rk) (fn:=Tryz.f198) (loops:=lo198) (joins:=[]) (n:=100000) (args:=[(127,x0)]) rfl rfl rfl rfl ⟨h0,trivial⟩ (by kernel_rfl) h
def lo131:List CutI:=[]
theorem w131{x0:Dat}{g:Glob}{Qf:OGP}(h0:HasTy TT 127 x0)
 (h:EvF TT 132 [x0] g (KQ Qf λv g'=>∃b,v=.d (.bool b)∧Qf (.val (.d (.bool !b))) g')):
 EvF TT 131 [x0] g Qf:=
 sx_fun (rk:=rk) (fn:=Tryz.f131) (loops:=lo131) (joins:=[]) (n:=100000) (args:=[(127,x0)]) rfl rfl rfl rfl ⟨h0,trivial⟩ (by kernel_rfl) h
def lo139:List CutI:=[]
theorem w139{x0:Dat}{g:Glob}{Qf:OGP}(h0:HasTy TT 94 x0)
 (h:Br (intOf (fld x0 0)==1) (Br (strOf (fld x0 1)==[]) (Br ((↑(elsOf (fld x0 3)).length:Int)==0) (Br (intOf (fld x0 2)==0) (EvF TT 137 [fld x0 3,.clo 202 []] g (KQ Qf λv g'=>∃b,v=.d (.bool b)∧Qf (.val (.d (.bool !b))) g')) (Qf (.val (.d (.bool false))) g)) (Qf (.val (.d (.bool false))) g)) (Qf (.val (.d (.bool false))) g)) (Br (intOf (fld x0 0)==2) (EvF TT 136 [.int .i64 3,.str (strOf (fld x0 1))] g (KQ Qf λv g'=>∃b,v=.d (.bool b)∧Br b (Br ((↑(elsOf (fld x0 3)).length:Int)==0) (Br (intOf (fld x0 2)==0) (EvF TT 137 [fld x0 3,.clo 202 []] g' (KQ Qf λv g'=>∃b,v=.d (.bool b)∧Qf (.val (.d (.bool !b))) g')) (Qf (.val (.d (.bool false))) g')) (Qf (.val (.d (.bool false))) g')) (Qf (.val (.d (.bool false))) g'))) (Br (intOf (fld x0 0)==3) (Br (strOf (fld x0 1)==[]) (Br ((↑(elsOf (fld x0 3)).length:Int)==2) (Br (intOf (fld x0 2)==0) (EvF TT 137 [fld x0 3,.clo 202 []] g (KQ Qf λv g'=>∃b,v=.d (.bool b)∧Qf (.val (.d (.bool !b))) g')) (Qf (.val (.d (.bool false))) g)) (Qf (.val (.d (.bool false))) g)) (Qf (.val (.d (.bool false))) g)) (Br (intOf (fld x0 0)==4) (EvF TT 136 [.int .i64 1,.str (strOf (fld x0 1))] g (KQ Qf λv g'=>∃b,v=.d (.bool b)∧Br b (Br (!strOf (fld x0 1)==[105,110,116]) (Br (intOf (fld x0 2)==0) (EvF TT 137 [fld x0 3,.clo 202 []] g' (KQ Qf λv g'=>∃b,v=.d (.bool b)∧Qf (.val (.d (.bool !b))) g')) (Qf (.val (.d (.bool false))) g')) (Qf (.val (.d (.bool false))) g')) (Qf (.val (.d (.bool false))) g'))) (Qf (.val (.d (.bool false))) g))))):
 EvF TT 139 [x0] g Qf:=
 sx_fun (rk:=rk) (fn:=Tryz.f139) (loops:=lo139) (joins:=[]) (n:=100000) (args:=[(94,x0)]) rfl rfl rfl rfl ⟨h0,trivial⟩ (by kernel_rfl) h
def lo202:List CutI:=[]
theorem w202{x0:Dat}{g:Glob}{Qf:OGP}(h0:HasTy TT 94 x0)
 (h:EvF TT 139 [x0] g (KQ Qf λv g'=>∃b,v=.d (.bool b)∧Qf (.val (.d (.bool !b))) g')):
 EvF TT 202 [x0] g Qf:=
 sx_fun (rk:=rk) (fn:=Tryz.f202) (loops:=lo202) (joins:=[]) (n:=100000) (args:=[(94,x0)]) rfl rfl rfl rfl ⟨h0,trivial⟩ (by kernel_rfl) h
def lo138:List CutI:=[]
theorem w138{x0:Dat}{g:Glob}{Qf:OGP}(h0:HasTy TT 94 x0)
 (h:EvF TT 139 [x0] g (KQ Qf λv g'=>∃b,v=.d (.bool b)∧Qf (.val (.d (.bool !b))) g')):
 EvF TT 138 [x0] g Qf:=
 sx_fun (rk:=rk) (fn:=Tryz.f138) (loops:=lo138) (joins:=[]) (n:=100000) (args:=[(94,x0)]) rfl rfl rfl rfl ⟨h0,trivial⟩ (by kernel_rfl) h
def lo129:List CutI:=[]
theorem w129{x0:Dat}{g:Glob}{Qf:OGP}(h0:HasTy TT 27 x0)
 (h:Br (intOf (fld x0 0)==1) (Br (intOf (fld x0 0)==1) (EvF TT 136 [.int .i64 1,.str (strOf (fld x0 1))] g (KQ Qf λv g'=>∃b,v=.d (.bool b)∧Qf (.val (.d (.bool b))) g')) (Br (intOf (fld x0 0)==6) (EvF TT 136 [.int .i64 1,.str (strOf (fld x0 1))] g (KQ Qf λv g'=>∃b,v=.d (.bool b)∧Br b (EvF TT 136 [.int .i64 1,.str (strOf (fld x0 2))] g' (KQ Qf λv g'=>∃b,v=.d (.bool b)∧Qf (.val (.d (.bool b))) g')) (Qf (.val (.d (.bool false))) g'))) (Br (intOf (fld x0 0)==2) (EvF TT 195 [.int .i64 (intOf (fld x0 3))] g (KQ Qf λv g'=>∃b,v=.d (.bool b)∧Qf (.val (.d (.bool b))) g')) (Br (intOf (fld x0 0)==7) (Qf (.val (.d (.bool (decide (0<(↑(elsOf (fld x0 5)).length:Int)))))) g) (Br (intOf (fld x0 0)==8) (EvF TT 136 [.int .i64 2,.str (strOf (fld x0 1))] g (KQ Qf λv g'=>∃b,v=.d (.bool b)∧Qf (.val (.d (.bool b))) g')) (Br (intOf (fld x0 0)==9) (EvF TT 196 [.str (strOf (fld x0 1))] g (KQ Qf λv g'=>∃n,v=.d (.int .i64 n)∧Qf (.val (.d (.bool (n !=0)))) g')) (Qf (.val (.d (.bool true))) g)))))))
 (Br (intOf (fld x0 0)==3) (Br (intOf (fld x0 0)==3) (EvF TT 136 [.int .i64 1,.str (strOf (fld x0 1))] g (KQ Qf λv g'=>∃b,v=.d (.bool b)∧Qf (.val (.d (.bool b))) g')) (Br (intOf (fld x0 0)==6) (EvF TT 136 [.int .i64 1,.str (strOf (fld x0 1))] g (KQ Qf λv g'=>∃b,v=.d (.bool b)∧Br b (EvF TT 136 [.int .i64 1,.str (strOf (fld x0 2))] g' (KQ Qf λv g'=>∃b,v=.d (.bool b)∧Qf (.val (.d (.bool b))) g')) (Qf (.val (.d (.bool false))) g'))) (Br (intOf (fld x0 0)==2) (EvF TT 195 [.int .i64 (intOf (fld x0 3))] g (KQ Qf λv g'=>∃b,v=.d (.bool b)∧Qf (.val (.d (.bool b))) g')) (Br (intOf (fld x0 0)==7) (Qf (.val (.d (.bool (decide (0<(↑(elsOf (fld x0 5)).length:Int)))))) g) (Br (intOf (fld x0 0)==8) (EvF TT 136 [.int .i64 2,.str (strOf (fld x0 1))] g (KQ Qf λv g'=>∃b,v=.d (.bool b)∧Qf (.val (.d (.bool b))) g')) (Br (intOf (fld x0 0)==9) (EvF TT 196 [.str (strOf (fld x0 1))] g (KQ Qf λv g'=>∃n,v=.d (.int .i64 n)∧Qf (.val (.d (.bool (n !=0)))) g')) (Qf (.val (.d (.bool true))) g))))))) (Br (intOf (fld x0 0)==5) (EvF TT 136 [.int .i64 1,.str (strOf (fld x0 1))] g (KQ Qf λv g'=>∃b,v=.d (.bool b)∧Qf (.val (.d (.bool b))) g')) (Br (intOf (fld x0 0)==6) (EvF TT 136 [.int .i64 1,.str (strOf (fld x0 1))] g (KQ Qf λv g'=>∃b,v=.d (.bool b)∧Br b (EvF TT 136 [.int .i64 1,.str (strOf (fld x0 2))] g' (KQ Qf λv g'=>∃b,v=.d (.bool b)∧Qf (.val (.d (.bool b))) g')) (Qf (.val (.d (.bool false))) g'))) (Br (intOf (fld x0 0)==2) (EvF TT 195 [.int .i64 (intOf (fld x0 3))] g (KQ Qf λv g'=>∃b,v=.d (.bool b)∧Qf (.val (.d (.bool b))) g')) (Br (intOf (fld x0 0)==7) (Qf (.val (.d (.bool (decide (0<(↑(elsOf (fld x0 5)).length:Int)))))) g) (Br (intOf (fld x0 0)==8) (EvF TT 136 [.int .i64 2,.str (strOf (fld x0 1))] g (KQ Qf λv g'=>∃b,v=.d (.bool b)∧Qf (.val (.d (.bool b))) g')) (Br (intOf (fld x0 0)==9) (EvF TT 196 [.str (strOf (fld x0 1))] g (KQ Qf λv g'=>∃n,v=.d (.int .i64 n)∧Qf (.val (.d (.bool (n !=0)))) g')) (Qf (.val (.d (.bool true))) g))))))))):
  EvF TT 129 [x0] g Qf:=
 sx_fun (rk:=rk) (fn:=Tryz.f129) (loops:=lo129) (joins:=[]) (n:=100000) (args:=[(27,x0)]) rfl rfl rfl rfl ⟨h0,trivial⟩ (by kernel_rfl) h
def lo67:List CutI:=[]
theorem w67{x0:Dat}{g:Glob}{Qf:OGP}(h0:HasTy TT 27 x0)
 (h:Br (intOf (fld x0 0)==1) (Br ((↑(elsOf (fld x0 4)).length:Int)!=0) (Qf (.val (.d (.bool false))) g) (Br (!strOf (fld x0 1)==strOf (fld x0 1)) (Qf (.val (.d (.bool false))) g) (Br (!strOf (fld x0 2)==[]) (Qf (.val (.d (.bool false))) g) (Br (intOf (fld x0 3)!=intOf (.int .i64 0)) (Qf (.val (.d (.bool false))) g) (Br ((↑(elsOf (fld x0 5)).length:Int)!=(↑([]:List Dat).length:Int)) (Qf (.val (.d (.bool false))) g) (EvF TT 129 [x0] g (KQ Qf λv g'=>∃b,v=.d (.bool b)∧Br (!b) (Qf (.val (.d (.bool false))) g') (EvF TT 130 [fld x0 5,.clo 131 []] g' (KQ Qf λv g'=>∃b,v=.d (.bool b)∧Br (!b) (EvF TT 133 [fld x0 4,.clo 134 []] g' (KQ Qf λv g'=>∃b,v=.d (.bool b)∧Qf (.val (.d (.bool !b))) g')) (Qf (.val (.d (.bool false))) g'))))))))))
 (Br (intOf (fld x0 0)==2) (Br ((↑(elsOf (fld x0 4)).length:Int)!=0) (Qf (.val (.d (.bool false))) g) (Br (!strOf (fld x0 1)==[]) (Qf (.val (.d (.bool false))) g) (Br (!strOf (fld x0 2)==[]) (Qf (.val (.d (.bool false))) g) (Br (intOf (fld x0 3)!=intOf (fld x0 3)) (Qf (.val (.d (.bool false))) g) (Br ((↑(elsOf (fld x0 5)).length:Int)!=(↑([]:List Dat).length:Int)) (Qf (.val (.d (.bool false))) g) (EvF TT 129 [x0] g (KQ Qf λv g'=>∃b,v=.d (.bool b)∧Br (!b) (Qf (.val (.d (.bool false))) g') (EvF TT 130 [fld x0 5,.clo 131 []] g' (KQ Qf λv g'=>∃b,v=.d (.bool b)∧Br (!b) (EvF TT 133 [fld x0 4,.clo 134 []] g' (KQ Qf λv g'=>∃b,v=.d (.bool b)∧Qf (.val (.d (.bool !b))) g')) (Qf (.val (.d (.bool false))) g'))))))))))
  (Br (intOf (fld x0 0)==3) (Br ((↑(elsOf (fld x0 4)).length:Int)!=1) (Qf (.val (.d (.bool false))) g) (Br (!strOf (fld x0 1)==strOf (fld x0 1)) (Qf (.val (.d (.bool false))) g) (Br (!strOf (fld x0 2)==[]) (Qf (.val (.d (.bool false))) g) (Br (intOf (fld x0 3)!=intOf (.int .i64 0)) (Qf (.val (.d (.bool false))) g) (Br ((↑(elsOf (fld x0 5)).length:Int)!=(↑([]:List Dat).length:Int)) (Qf (.val (.d (.bool false))) g) (EvF TT 129 [x0] g (KQ Qf λv g'=>∃b,v=.d (.bool b)∧Br (!b) (Qf (.val (.d (.bool false))) g') (EvF TT 130 [fld x0 5,.clo 131 []] g' (KQ Qf λv g'=>∃b,v=.d (.bool b)∧Br (!b) (EvF TT 133 [fld x0 4,.clo 134 []] g' (KQ Qf λv g'=>∃b,v=.d (.bool b)∧Qf (.val (.d (.bool !b))) g')) (Qf (.val (.d (.bool false))) g'))))))))))
   (Br (intOf (fld x0 0)==4) (Br ((↑(elsOf (fld x0 4)).length:Int)!=2) (Qf (.val (.d (.bool false))) g) (Br (!strOf (fld x0 1)==[]) (Qf (.val (.d (.bool false))) g) (Br (!strOf (fld x0 2)==[]) (Qf (.val (.d (.bool false))) g) (Br (intOf (fld x0 3)!=intOf (.int .i64 0)) (Qf (.val (.d (.bool false))) g) (Br ((↑(elsOf (fld x0 5)).length:Int)!=(↑([]:List Dat).length:Int)) (Qf (.val (.d (.bool false))) g) (EvF TT 129 [x0] g (KQ Qf λv g'=>∃b,v=.d (.bool b)∧Br (!b) (Qf (.val (.d (.bool false))) g') (EvF TT 130 [fld x0 5,.clo 131 []] g' (KQ Qf λv g'=>∃b,v=.d (.bool b)∧Br (!b) (EvF TT 133 [fld x0 4,.clo 134 []] g' (KQ Qf λv g'=>∃b,v=.d (.bool b)∧Qf (.val (.d (.bool !b))) g')) (Qf (.val (.d (.bool false))) g'))))))))))
    (Br (intOf (fld x0 0)==5) (Br ((↑(elsOf (fld x0 4)).length:Int)!=2) (Qf (.val (.d (.bool false))) g) (Br (!strOf (fld x0 1)==strOf (fld x0 1)) (Qf (.val (.d (.bool false))) g) (Br (!strOf (fld x0 2)==[]) (Qf (.val (.d (.bool false))) g) (Br (intOf (fld x0 3)!=intOf (.int .i64 0)) (Qf (.val (.d (.bool false))) g) (Br ((↑(elsOf (fld x0 5)).length:Int)!=(↑([]:List Dat).length:Int)) (Qf (.val (.d (.bool false))) g) (EvF TT 129 [x0] g (KQ Qf λv g'=>∃b,v=.d (.bool b)∧Br (!b) (Qf (.val (.d (.bool false))) g') (EvF TT 130 [fld x0 5,.clo 131 []] g' (KQ Qf λv g'=>∃b,v=.d (.bool b)∧Br (!b) (EvF TT 133 [fld x0 4,.clo 134 []] g' (KQ Qf λv g'=>∃b,v=.d (.bool b)∧Qf (.val (.d (.bool !b))) g')) (Qf (.val (.d (.bool false))) g'))))))))))
     (Br (intOf (fld x0 0)==6) (Br ((↑(elsOf (fld x0 4)).length:Int)!=2) (Qf (.val (.d (.bool false))) g) (Br (!strOf (fld x0 1)==strOf (fld x0 1)) (Qf (.val (.d (.bool false))) g) (Br (!strOf (fld x0 2)==strOf (fld x0 2)) (Qf (.val (.d (.bool false))) g) (Br (intOf (fld x0 3)!=intOf (.int .i64 0)) (Qf (.val (.d (.bool false))) g) (Br ((↑(elsOf (fld x0 5)).length:Int)!=(↑([]:List Dat).length:Int)) (Qf (.val (.d (.bool false))) g) (EvF TT 129 [x0] g (KQ Qf λv g'=>∃b,v=.d (.bool b)∧Br (!b) (Qf (.val (.d (.bool false))) g') (EvF TT 130 [fld x0 5,.clo 131 []] g' (KQ Qf λv g'=>∃b,v=.d (.bool b)∧Br (!b) (EvF TT 133 [fld x0 4,.clo 134 []] g' (KQ Qf λv g'=>∃b,v=.d (.bool b)∧Qf (.val (.d (.bool !b))) g')) (Qf (.val (.d (.bool false))) g'))))))))))
      (Br (intOf (fld x0 0)==7) (Br ((↑(elsOf (fld x0 4)).length:Int)!=IntKind.i64.wrap ((↑(elsOf (fld x0 5)).length:Int)+1)) (Qf (.val (.d (.bool false))) g) (Br (!strOf (fld x0 1)==[]) (Qf (.val (.d (.bool false))) g) (Br (!strOf (fld x0 2)==[]) (Qf (.val (.d (.bool false))) g) (Br (intOf (fld x0 3)!=intOf (.int .i64 0)) (Qf (.val (.d (.bool false))) g) (Br ((↑(elsOf (fld x0 5)).length:Int)!=(↑(elsOf (fld x0 5)).length:Int)) (Qf (.val (.d (.bool false))) g) (EvF TT 129 [x0] g (KQ Qf λv g'=>∃b,v=.d (.bool b)∧Br (!b) (Qf (.val (.d (.bool false))) g') (EvF TT 130 [fld x0 5,.clo 131 []] g' (KQ Qf λv g'=>∃b,v=.d (.bool b)∧Br (!b) (EvF TT 133 [fld x0 4,.clo 134 []] g' (KQ Qf λv g'=>∃b,v=.d (.bool b)∧Qf (.val (.d (.bool !b))) g')) (Qf (.val (.d (.bool false))) g'))))))))))
       (Br (intOf (fld x0 0)==8) (Br ((↑(elsOf (fld x0 4)).length:Int)!=(↑(elsOf (fld x0 4)).length:Int)) (Qf (.val (.d (.bool false))) g) (Br (!strOf (fld x0 1)==strOf (fld x0 1)) (Qf (.val (.d (.bool false))) g) (Br (!strOf (fld x0 2)==[]) (Qf (.val (.d (.bool false))) g) (Br (intOf (fld x0 3)!=intOf (.int .i64 0)) (Qf (.val (.d (.bool false))) g) (Br ((↑(elsOf (fld x0 5)).length:Int)!=(↑([]:List Dat).length:Int)) (Qf (.val (.d (.bool false))) g) (EvF TT 129 [x0] g (KQ Qf λv g'=>∃b,v=.d (.bool b)∧Br (!b) (Qf (.val (.d (.bool false))) g') (EvF TT 130 [fld x0 5,.clo 131 []] g' (KQ Qf λv g'=>∃b,v=.d (.bool b)∧Br (!b) (EvF TT 133 [fld x0 4,.clo 134 []] g' (KQ Qf λv g'=>∃b,v=.d (.bool b)∧Qf (.val (.d (.bool !b))) g')) (Qf (.val (.d (.bool false))) g')))))))))) (Br (intOf (fld x0 0)==9) (Br ((↑(elsOf (fld x0 4)).length:Int)!=2) (Qf (.val (.d (.bool false))) g) (Br (!strOf (fld x0 1)==strOf (fld x0 1)) (Qf (.val (.d (.bool false))) g) (Br (!strOf (fld x0 2)==[]) (Qf (.val (.d (.bool false))) g) (Br (intOf (fld x0 3)!=intOf (.int .i64 0)) (Qf (.val (.d (.bool false))) g) (Br ((↑(elsOf (fld x0 5)).length:Int)!=(↑([]:List Dat).length:Int)) (Qf (.val (.d (.bool false))) g) (EvF TT 129 [x0] g (KQ Qf λv g'=>∃b,v=.d (.bool b)∧Br (!b) (Qf (.val (.d (.bool false))) g') (EvF TT 130 [fld x0 5,.clo 131 []] g' (KQ Qf λv g'=>∃b,v=.d (.bool b)∧Br (!b) (EvF TT 133 [fld x0 4,.clo 134 []] g' (KQ Qf λv g'=>∃b,v=.d (.bool b)∧Qf (.val (.d (.bool !b))) g')) (Qf (.val (.d (.bool false))) g')))))))))) (Br (intOf (fld x0 0)==10) (Br ((↑(elsOf (fld x0 4)).length:Int)!=1) (Qf (.val (.d (.bool false))) g) (Br (!strOf (fld x0 1)==[]) (Qf (.val (.d (.bool false))) g) (Br (!strOf (fld x0 2)==[]) (Qf (.val (.d (.bool false))) g) (Br (intOf (fld x0 3)!=intOf (.int .i64 0)) (Qf (.val (.d (.bool false))) g) (Br ((↑(elsOf (fld x0 5)).length:Int)!=(↑([]:List Dat).length:Int)) (Qf (.val (.d (.bool false))) g) (EvF TT 129 [x0] g (KQ Qf λv g'=>∃b,v=.d (.bool b)∧Br (!b) (Qf (.val (.d (.bool false))) g') (EvF TT 130 [fld x0 5,.clo 131 []] g' (KQ Qf λv g'=>∃b,v=.d (.bool b)∧Br (!b) (EvF TT 133 [fld x0 4,.clo 134 []] g' (KQ Qf λv g'=>∃b,v=.d (.bool b)∧Qf (.val (.d (.bool !b))) g')) (Qf (.val (.d (.bool false))) g')))))))))) (Qf (.val (.d (.bool false))) g))))))))))):
  EvF TT 67 [x0] g Qf:=
 sx_fun (rk:=rk) (fn:=Tryz.f67) (loops:=lo67) (joins:=[]) (n:=100000) (args:=[(27,x0)]) rfl rfl rfl rfl ⟨h0,trivial⟩ (by kernel_rfl) h
def lo134:List CutI:=[]
theorem w134{x0:Dat}{g:Glob}{Qf:OGP}(h0:HasTy TT 27 x0)
 (h:EvF TT 67 [x0] g (KQ Qf λv g'=>∃b,v=.d (.bool b)∧Qf (.val (.d (.bool !b))) g')):
 EvF TT 134 [x0] g Qf:=
 sx_fun (rk:=rk) (fn:=Tryz.f134) (loops:=lo134) (joins:=[]) (n:=100000) (args:=[(27,x0)]) rfl rfl rfl rfl ⟨h0,trivial⟩ (by kernel_rfl) h
def L70_4(x18:Dat)(n19:Int)(n20:Int)(y1:Dat)(g:Glob)(Qf:OGP):Prop:=CutP TT Tryz.f70 [1,1,0,1,0] Qf (mkC TT 70 Tryz.f70 1 [(1,.loc 1 0 0),(18,.v 61 (x18)),(19,.v 3 (.int .i64 n19)),(20,.v 3 (.int .i64 n20))] [(1,.whole 76 y1)] g)
def L70_10(x29:Dat)(n30:Int)(n31:Int)(g:Glob)(Qf:OGP):Prop:=CutP TT Tryz.f70 [1,1,1,0,1,0] Qf (mkC TT 70 Tryz.f70 1 [(29,.v 74 (x29)),(30,.v 3 (.int .i64 n30)),(31,.v 3 (.int .i64 n31))] [] g)
def lo70:List CutI:=[⟨4,[(1,.keep),(18,.keep),(19,.keep),(20,.keep)],[(1,.whole 76)]⟩,⟨10,[(29,.keep),(30,.keep),(31,.keep)],[]⟩]
theorem w70{x0:Dat}{g:Glob}{Qf:OGP}(h0:HasTy TT 76 x0)
 (h:EvF TT 136 [.int .i64 1,.str (strOf (fld x0 0))] g (KQ Qf λv g'=>∃b,v=.d (.bool b)∧Br (!b) (Qf (.val (.d (.bool false))) g') (Br ((↑(elsOf (fld x0 2)).length:Int)==0) (Qf (.val (.d (.bool false))) g') (L70_4 (fld x0 1) (↑(elsOf (fld x0 1)).length:Int) 0 x0 g' Qf)))):
 EvF TT 70 [x0] g Qf:=
 sx_fun (rk:=rk) (fn:=Tryz.f70) (loops:=lo70) (joins:=[]) (n:=100000) (args:=[(76,x0)]) rfl rfl rfl rfl ⟨h0,trivial⟩ (by kernel_rfl) h
theorem w70_4{x18:Dat}{n19:Int}{n20:Int}{y1:Dat}{g:Glob}{Qf:OGP}
 (h:Br (decide (n20<n19)) (InB n20 (elsOf x18).length∧EvF TT 136 [.int .i64 3,.str (strOf (fld (getE (elsOf x18) n20) 0))] g (KQ Qf λv g'=>∃b,v=.d (.bool b)∧Br (!b) (Qf (.val (.d (.bool false))) g') (L70_4 x18 n19 (IntKind.i64.wrap (n20+1)) y1 g' Qf))) (L70_10 (fld y1 2) (↑(elsOf (fld y1 2)).length:Int) 0 g Qf)):
 L70_4 x18 n19 n20 y1 g Qf:=sx_cut (rk:=rk) (loops:=lo70) (joins:=[]) (n:=100000) (by kernel_rfl) h
theorem w70_10{x29:Dat}{n30:Int}{n31:Int}{g:Glob}{Qf:OGP}
 (h:Br (decide (n31<n30)) (InB n31 (elsOf x29).length∧EvF TT 136 [.int .i64 2,.str (strOf (fld (getE (elsOf x29) n31) 0))] g (KQ Qf λv g'=>∃b,v=.d (.bool b)∧Br (!b) (Qf (.val (.d (.bool false))) g') (EvF TT 137 [fld (getE (elsOf x29) n31) 1,.clo 138 []] g' (KQ Qf λv g'=>∃b,v=.d (.bool b)∧Br b (Qf (.val (.d (.bool false))) g') (L70_10 x29 n30 (IntKind.i64.wrap (n31+1)) g' Qf))))) (Qf (.val (.d (.bool true))) g)):
 L70_10 x29 n30 n31 g Qf:=sx_cut (rk:=rk) (loops:=lo70) (joins:=[]) (n:=100000) (by kernel_rfl) h
def lo69:List CutI:=[]
theorem w69{x0:Dat}{g:Glob}{Qf:OGP}(h0:HasTy TT 76 x0)
 (h:EvF TT 70 [x0] g (KQ Qf λv g'=>∃b,v=.d (.bool b)∧Qf (.val (.d (.bool !b))) g')):
 EvF TT 69 [x0] g Qf:=
 sx_fun (rk:=rk) (fn:=Tryz.f69) (loops:=lo69) (joins:=[]) (n:=100000) (args:=[(76,x0)]) rfl rfl rfl rfl ⟨h0,trivial⟩ (by kernel_rfl) h
def lo24:List CutI:=[]
theorem w24{x0:Dat}{g:Glob}{Qf:OGP}(h0:HasTy TT 29 x0)
 (h:EvF TT 47 [x0] g (KQ Qf λv g'=>∃n,v=.d (.int .i64 n)∧Br (n !=0) (Qf (.val (.d (.bool false))) g') (EvF TT 67 [sub x0 1 7] g' (KQ Qf λv g'=>∃b,v=.d (.bool b)∧Br (!b) (Qf (.val (.d (.bool false))) g') (EvF TT 68 [fld x0 0,.clo 69 []] g' (KQ Qf λv g'=>∃b,v=.d (.bool b)∧Qf (.val (.d (.bool !b))) g')))))):
 EvF TT 24 [x0] g Qf:=
 sx_fun (rk:=rk) (fn:=Tryz.f24) (loops:=lo24) (joins:=[]) (n:=100000) (args:=[(29,x0)]) rfl rfl rfl rfl ⟨h0,trivial⟩ (by kernel_rfl) h
def L142_12(b3:Bool)(n4:Int)(y1:Dat)(g:Glob)(Qf:OGP):Prop:=CutP TT Tryz.f142 [1,1,1,0,1,0] Qf (mkC TT 142 Tryz.f142 1 [(1,.loc 1 0 0),(3,.v 4 (.bool b3)),(4,.v 3 (.int .i64 n4))] [(1,.whole 127 y1)] g)
def lo142:List CutI:=[⟨12,[(1,.keep),(3,.keep),(4,.keep)],[(1,.whole 127)]⟩]
theorem w142{x0:Dat}{g:Glob}{Qf:OGP}(h0:HasTy TT 127 x0)
 (h:Br (intOf (fld x0 0)==1) (Br (strOf (fld x0 1)==[]) (Br (intOf (fld x0 2)==0) (L142_12 ((↑(elsOf (fld x0 3)).length:Int)==0) 0 x0 g Qf) (L142_12 false 0 x0 g Qf)) (L142_12 false 0 x0 g Qf)) (Br (intOf (fld x0 0)==2) (EvF TT 71 [.str (strOf (fld x0 1))] g (KQ Qf λv g'=>∃b,v=.d (.bool b)∧Br b (Br (intOf (fld x0 2)==0) (L142_12 ((↑(elsOf (fld x0 3)).length:Int)==0) 0 x0 g' Qf) (L142_12 false 0 x0 g' Qf)) (L142_12 false 0 x0 g' Qf))) (Br (intOf (fld x0 0)==3) (Br (strOf (fld x0 1)==[]) (EvF TT 124 [.int .i64 (intOf (fld x0 2))] g (KQ Qf λv g'=>∃b,v=.d (.bool b)∧Br b (L142_12 ((↑(elsOf (fld x0 3)).length:Int)==0) 0 x0 g' Qf) (L142_12 false 0 x0 g' Qf))) (L142_12 false 0 x0 g Qf)) (Br (intOf (fld x0 0)==4) (EvF TT 73 [.str (strOf (fld x0 1))] g (KQ Qf λv g'=>∃b,v=.d (.bool b)∧Br b (L142_12 (intOf (fld x0 2)==0) 0 x0 g' Qf) (L142_12 false 0 x0 g' Qf))) (L142_12 false 0 x0 g Qf))))):
 EvF TT 142 [x0] g Qf:=
 sx_fun (rk:=rk) (fn:=Tryz.f142) (loops:=lo142) (joins:=[]) (n:=100000) (args:=[(127,x0)]) rfl rfl rfl rfl ⟨h0,trivial⟩ (by kernel_rfl) h
theorem w142_12{b3:Bool}{n4:Int}{y1:Dat}{g:Glob}{Qf:OGP}
 (h:Br (decide (n4<(↑(elsOf (fld y1 3)).length:Int))) (Br b3 (InB n4 (elsOf (fld y1 3)).length∧EvF TT 142 [getE (elsOf (fld y1 3)) n4] g (KQ Qf λv g'=>∃b,v=.d (.bool b)∧L142_12 b (IntKind.i64.wrap (n4+1)) y1 g' Qf)) (Qf (.val (.d (.bool b3))) g)) (Qf (.val (.d (.bool b3))) g)):
 L142_12 b3 n4 y1 g Qf:=sx_cut (rk:=rk) (loops:=lo142) (joins:=[]) (n:=100000) (by kernel_rfl) h
def lo141:List CutI:=[]
theorem w141{x0:Dat}{g:Glob}{Qf:OGP}(h0:HasTy TT 27 x0)
 (h:Br (intOf (fld x0 0)!=6)
 (Br (!strOf (fld x0 2)==[]) (Qf (.val (.d (.bool false))) g)
  (Br (intOf (fld x0 0)!=2)
   (Br (intOf (fld x0 3)!=0) (Qf (.val (.d (.bool false))) g)
    (Br (intOf (fld x0 0)!=7) (Br (decide (0<(↑(elsOf (fld x0 5)).length:Int))) (Qf (.val (.d (.bool false))) g) (Br (intOf (fld x0 0)==1) (EvF TT 71 [.str (strOf (fld x0 1))] g (KQ Qf λv g'=>∃b,v=.d (.bool b)∧Br b (Qf (.val (.d (.bool ((↑(elsOf (fld x0 4)).length:Int)==0)))) g') (Qf (.val (.d (.bool false))) g'))) (Br (intOf (fld x0 0)==2) (Br (strOf (fld x0 1)==[]) (EvF TT 124 [.int .i64 (intOf (fld x0 3))] g (KQ Qf λv g'=>∃b,v=.d (.bool b)∧Br b (Qf (.val (.d (.bool ((↑(elsOf (fld x0 4)).length:Int)==0)))) g') (Qf (.val (.d (.bool false))) g'))) (Qf (.val (.d (.bool false))) g)) (Br (intOf (fld x0 0)==3) (EvF TT 71 [.str (strOf (fld x0 1))] g (KQ Qf λv g'=>∃b,v=.d (.bool b)∧Br b (Qf (.val (.d (.bool ((↑(elsOf (fld x0 4)).length:Int)==1)))) g') (Qf (.val (.d (.bool false))) g'))) (Br (intOf (fld x0 0)==4) (Br (strOf (fld x0 1)==[]) (Qf (.val (.d (.bool ((↑(elsOf (fld x0 4)).length:Int)==2)))) g) (Qf (.val (.d (.bool false))) g)) (Br (intOf (fld x0 0)==5) (EvF TT 71 [.str (strOf (fld x0 1))] g (KQ Qf λv g'=>∃b,v=.d (.bool b)∧Br b (Qf (.val (.d (.bool ((↑(elsOf (fld x0 4)).length:Int)==2)))) g') (Qf (.val (.d (.bool false))) g'))) (Br (intOf (fld x0 0)==6) (EvF TT 71 [.str (strOf (fld x0 1))] g (KQ Qf λv g'=>∃b,v=.d (.bool b)∧Br b (EvF TT 71 [.str (strOf (fld x0 2))] g' (KQ Qf λv g'=>∃b,v=.d (.bool b)∧Br b (Qf (.val (.d (.bool ((↑(elsOf (fld x0 4)).length:Int)==2)))) g') (Qf (.val (.d (.bool false))) g'))) (Qf (.val (.d (.bool false))) g'))) (Br (intOf (fld x0 0)==7) (Br (strOf (fld x0 1)==[]) (Br (decide (0<(↑(elsOf (fld x0 5)).length:Int))) (Qf (.val (.d (.bool ((↑(elsOf (fld x0 4)).length:Int)==IntKind.i64.wrap ((↑(elsOf (fld x0 5)).length:Int)+1))))) g) (Qf (.val (.d (.bool false))) g)) (Qf (.val (.d (.bool false))) g)) (Br (intOf (fld x0 0)==8) (EvF TT 73 [.str (strOf (fld x0 1))] g (KQ Qf λv g'=>∃b,v=.d (.bool b)∧Qf (.val (.d (.bool b))) g')) (Br (intOf (fld x0 0)==9) (EvF TT 203 [.str (strOf (fld x0 1))] g (KQ Qf λv g'=>∃n,v=.d (.int .i64 n)∧Br (decide (0<n)) (Qf (.val (.d (.bool ((↑(elsOf (fld x0 4)).length:Int)==2)))) g') (Qf (.val (.d (.bool false))) g'))) (Br (intOf (fld x0 0)==10) (Br (strOf (fld x0 1)==[]) (Qf (.val (.d (.bool ((↑(elsOf (fld x0 4)).length:Int)==1)))) g) (Qf (.val (.d (.bool false))) g)) (Qf (.val (.d (.bool false))) g))))))))))))
     (Br (intOf (fld x0 0)==1) (EvF TT 71 [.str (strOf (fld x0 1))] g (KQ Qf λv g'=>∃b,v=.d (.bool b)∧Br b (Qf (.val (.d (.bool ((↑(elsOf (fld x0 4)).length:Int)==0)))) g') (Qf (.val (.d (.bool false))) g'))) (Br (intOf (fld x0 0)==2) (Br (strOf (fld x0 1)==[]) (EvF TT 124 [.int .i64 (intOf (fld x0 3))] g (KQ Qf λv g'=>∃b,v=.d (.bool b)∧Br b (Qf (.val (.d (.bool ((↑(elsOf (fld x0 4)).length:Int)==0)))) g') (Qf (.val (.d (.bool false))) g'))) (Qf (.val (.d (.bool false))) g)) (Br (intOf (fld x0 0)==3) (EvF TT 71 [.str (strOf (fld x0 1))] g (KQ Qf λv g'=>∃b,v=.d (.bool b)∧Br b (Qf (.val (.d (.bool ((↑(elsOf (fld x0 4)).length:Int)==1)))) g') (Qf (.val (.d (.bool false))) g'))) (Br (intOf (fld x0 0)==4) (Br (strOf (fld x0 1)==[]) (Qf (.val (.d (.bool ((↑(elsOf (fld x0 4)).length:Int)==2)))) g) (Qf (.val (.d (.bool false))) g)) (Br (intOf (fld x0 0)==5) (EvF TT 71 [.str (strOf (fld x0 1))] g (KQ Qf λv g'=>∃b,v=.d (.bool b)∧Br b (Qf (.val (.d (.bool ((↑(elsOf (fld x0 4)).length:Int)==2)))) g') (Qf (.val (.d (.bool false))) g'))) (Br (intOf (fld x0 0)==6) (EvF TT 71 [.str (strOf (fld x0 1))] g (KQ Qf λv g'=>∃b,v=.d (.bool b)∧Br b (EvF TT 71 [.str (strOf (fld x0 2))] g' (KQ Qf λv g'=>∃b,v=.d (.bool b)∧Br b (Qf (.val (.d (.bool ((↑(elsOf (fld x0 4)).length:Int)==2)))) g') (Qf (.val (.d (.bool false))) g'))) (Qf (.val (.d (.bool false))) g'))) (Br (intOf (fld x0 0)==7) (Br (strOf (fld x0 1)==[]) (Br (decide (0<(↑(elsOf (fld x0 5)).length:Int))) (Qf (.val (.d (.bool ((↑(elsOf (fld x0 4)).length:Int)==IntKind.i64.wrap ((↑(elsOf (fld x0 5)).length:Int)+1))))) g) (Qf (.val (.d (.bool false))) g)) (Qf (.val (.d (.bool false))) g)) (Br (intOf (fld x0 0)==8) (EvF TT 73 [.str (strOf (fld x0 1))] g (KQ Qf λv g'=>∃b,v=.d (.bool b)∧Qf (.val (.d (.bool b))) g')) (Br (intOf (fld x0 0)==9) (EvF TT 203 [.str (strOf (fld x0 1))] g (KQ Qf λv g'=>∃n,v=.d (.int .i64 n)∧Br (decide (0<n)) (Qf (.val (.d (.bool ((↑(elsOf (fld x0 4)).length:Int)==2)))) g') (Qf (.val (.d (.bool false))) g'))) (Br (intOf (fld x0 0)==10) (Br (strOf (fld x0 1)==[]) (Qf (.val (.d (.bool ((↑(elsOf (fld x0 4)).length:Int)==1)))) g) (Qf (.val (.d (.bool false))) g)) (Qf (.val (.d (.bool false))) g)))))))))))))
   (Br (intOf (fld x0 0)!=7) (Br (decide (0<(↑(elsOf (fld x0 5)).length:Int))) (Qf (.val (.d (.bool false))) g) (Br (intOf (fld x0 0)==1) (EvF TT 71 [.str (strOf (fld x0 1))] g (KQ Qf λv g'=>∃b,v=.d (.bool b)∧Br b (Qf (.val (.d (.bool ((↑(elsOf (fld x0 4)).length:Int)==0)))) g') (Qf (.val (.d (.bool false))) g'))) (Br (intOf (fld x0 0)==2) (Br (strOf (fld x0 1)==[]) (EvF TT 124 [.int .i64 (intOf (fld x0 3))] g (KQ Qf λv g'=>∃b,v=.d (.bool b)∧Br b (Qf (.val (.d (.bool ((↑(elsOf (fld x0 4)).length:Int)==0)))) g') (Qf (.val (.d (.bool false))) g'))) (Qf (.val (.d (.bool false))) g)) (Br (intOf (fld x0 0)==3) (EvF TT 71 [.str (strOf (fld x0 1))] g (KQ Qf λv g'=>∃b,v=.d (.bool b)∧Br b (Qf (.val (.d (.bool ((↑(elsOf (fld x0 4)).length:Int)==1)))) g') (Qf (.val (.d (.bool false))) g'))) (Br (intOf (fld x0 0)==4) (Br (strOf (fld x0 1)==[]) (Qf (.val (.d (.bool ((↑(elsOf (fld x0 4)).length:Int)==2)))) g) (Qf (.val (.d (.bool false))) g)) (Br (intOf (fld x0 0)==5) (EvF TT 71 [.str (strOf (fld x0 1))] g (KQ Qf λv g'=>∃b,v=.d (.bool b)∧Br b (Qf (.val (.d (.bool ((↑(elsOf (fld x0 4)).length:Int)==2)))) g') (Qf (.val (.d (.bool false))) g'))) (Br (intOf (fld x0 0)==6) (EvF TT 71 [.str (strOf (fld x0 1))] g (KQ Qf λv g'=>∃b,v=.d (.bool b)∧Br b (EvF TT 71 [.str (strOf (fld x0 2))] g' (KQ Qf λv g'=>∃b,v=.d (.bool b)∧Br b (Qf (.val (.d (.bool ((↑(elsOf (fld x0 4)).length:Int)==2)))) g') (Qf (.val (.d (.bool false))) g'))) (Qf (.val (.d (.bool false))) g'))) (Br (intOf (fld x0 0)==7) (Br (strOf (fld x0 1)==[]) (Br (decide (0<(↑(elsOf (fld x0 5)).length:Int))) (Qf (.val (.d (.bool ((↑(elsOf (fld x0 4)).length:Int)==IntKind.i64.wrap ((↑(elsOf (fld x0 5)).length:Int)+1))))) g) (Qf (.val (.d (.bool false))) g)) (Qf (.val (.d (.bool false))) g)) (Br (intOf (fld x0 0)==8) (EvF TT 73 [.str (strOf (fld x0 1))] g (KQ Qf λv g'=>∃b,v=.d (.bool b)∧Qf (.val (.d (.bool b))) g')) (Br (intOf (fld x0 0)==9) (EvF TT 203 [.str (strOf (fld x0 1))] g (KQ Qf λv g'=>∃n,v=.d (.int .i64 n)∧Br (decide (0<n)) (Qf (.val (.d (.bool ((↑(elsOf (fld x0 4)).length:Int)==2)))) g') (Qf (.val (.d (.bool false))) g'))) (Br (intOf (fld x0 0)==10) (Br (strOf (fld x0 1)==[]) (Qf (.val (.d (.bool ((↑(elsOf (fld x0 4)).length:Int)==1)))) g) (Qf (.val (.d (.bool false))) g)) (Qf (.val (.d (.bool false))) g))))))))))))
    (Br (intOf (fld x0 0)==1) (EvF TT 71 [.str (strOf (fld x0 1))] g (KQ Qf λv g'=>∃b,v=.d (.bool b)∧Br b (Qf (.val (.d (.bool ((↑(elsOf (fld x0 4)).length:Int)==0)))) g') (Qf (.val (.d (.bool false))) g'))) (Br (intOf (fld x0 0)==2) (Br (strOf (fld x0 1)==[]) (EvF TT 124 [.int .i64 (intOf (fld x0 3))] g (KQ Qf λv g'=>∃b,v=.d (.bool b)∧Br b (Qf (.val (.d (.bool ((↑(elsOf (fld x0 4)).length:Int)==0)))) g') (Qf (.val (.d (.bool false))) g'))) (Qf (.val (.d (.bool false))) g)) (Br (intOf (fld x0 0)==3) (EvF TT 71 [.str (strOf (fld x0 1))] g (KQ Qf λv g'=>∃b,v=.d (.bool b)∧Br b (Qf (.val (.d (.bool ((↑(elsOf (fld x0 4)).length:Int)==1)))) g') (Qf (.val (.d (.bool false))) g'))) (Br (intOf (fld x0 0)==4) (Br (strOf (fld x0 1)==[]) (Qf (.val (.d (.bool ((↑(elsOf (fld x0 4)).length:Int)==2)))) g) (Qf (.val (.d (.bool false))) g)) (Br (intOf (fld x0 0)==5) (EvF TT 71 [.str (strOf (fld x0 1))] g (KQ Qf λv g'=>∃b,v=.d (.bool b)∧Br b (Qf (.val (.d (.bool ((↑(elsOf (fld x0 4)).length:Int)==2)))) g') (Qf (.val (.d (.bool false))) g'))) (Br (intOf (fld x0 0)==6) (EvF TT 71 [.str (strOf (fld x0 1))] g (KQ Qf λv g'=>∃b,v=.d (.bool b)∧Br b (EvF TT 71 [.str (strOf (fld x0 2))] g' (KQ Qf λv g'=>∃b,v=.d (.bool b)∧Br b (Qf (.val (.d (.bool ((↑(elsOf (fld x0 4)).length:Int)==2)))) g') (Qf (.val (.d (.bool false))) g'))) (Qf (.val (.d (.bool false))) g'))) (Br (intOf (fld x0 0)==7) (Br (strOf (fld x0 1)==[]) (Br (decide (0<(↑(elsOf (fld x0 5)).length:Int))) (Qf (.val (.d (.bool ((↑(elsOf (fld x0 4)).length:Int)==IntKind.i64.wrap ((↑(elsOf (fld x0 5)).length:Int)+1))))) g) (Qf (.val (.d (.bool false))) g)) (Qf (.val (.d (.bool false))) g)) (Br (intOf (fld x0 0)==8) (EvF TT 73 [.str (strOf (fld x0 1))] g (KQ Qf λv g'=>∃b,v=.d (.bool b)∧Qf (.val (.d (.bool b))) g')) (Br (intOf (fld x0 0)==9) (EvF TT 203 [.str (strOf (fld x0 1))] g (KQ Qf λv g'=>∃n,v=.d (.int .i64 n)∧Br (decide (0<n)) (Qf (.val (.d (.bool ((↑(elsOf (fld x0 4)).length:Int)==2)))) g') (Qf (.val (.d (.bool false))) g'))) (Br (intOf (fld x0 0)==10) (Br (strOf (fld x0 1)==[]) (Qf (.val (.d (.bool ((↑(elsOf (fld x0 4)).length:Int)==1)))) g) (Qf (.val (.d (.bool false))) g)) (Qf (.val (.d (.bool false))) g))))))))))))))
 (Br (intOf (fld x0 0)!=2)
  (Br (intOf (fld x0 3)!=0) (Qf (.val (.d (.bool false))) g)
   (Br (intOf (fld x0 0)!=7) (Br (decide (0<(↑(elsOf (fld x0 5)).length:Int))) (Qf (.val (.d (.bool false))) g) (Br (intOf (fld x0 0)==1) (EvF TT 71 [.str (strOf (fld x0 1))] g (KQ Qf λv g'=>∃b,v=.d (.bool b)∧Br b (Qf (.val (.d (.bool ((↑(elsOf (fld x0 4)).length:Int)==0)))) g') (Qf (.val (.d (.bool false))) g'))) (Br (intOf (fld x0 0)==2) (Br (strOf (fld x0 1)==[]) (EvF TT 124 [.int .i64 (intOf (fld x0 3))] g (KQ Qf λv g'=>∃b,v=.d (.bool b)∧Br b (Qf (.val (.d (.bool ((↑(elsOf (fld x0 4)).length:Int)==0)))) g') (Qf (.val (.d (.bool false))) g'))) (Qf (.val (.d (.bool false))) g)) (Br (intOf (fld x0 0)==3) (EvF TT 71 [.str (strOf (fld x0 1))] g (KQ Qf λv g'=>∃b,v=.d (.bool b)∧Br b (Qf (.val (.d (.bool ((↑(elsOf (fld x0 4)).length:Int)==1)))) g') (Qf (.val (.d (.bool false))) g'))) (Br (intOf (fld x0 0)==4) (Br (strOf (fld x0 1)==[]) (Qf (.val (.d (.bool ((↑(elsOf (fld x0 4)).length:Int)==2)))) g) (Qf (.val (.d (.bool false))) g)) (Br (intOf (fld x0 0)==5) (EvF TT 71 [.str (strOf (fld x0 1))] g (KQ Qf λv g'=>∃b,v=.d (.bool b)∧Br b (Qf (.val (.d (.bool ((↑(elsOf (fld x0 4)).length:Int)==2)))) g') (Qf (.val (.d (.bool false))) g'))) (Br (intOf (fld x0 0)==6) (EvF TT 71 [.str (strOf (fld x0 1))] g (KQ Qf λv g'=>∃b,v=.d (.bool b)∧Br b (EvF TT 71 [.str (strOf (fld x0 2))] g' (KQ Qf λv g'=>∃b,v=.d (.bool b)∧Br b (Qf (.val (.d (.bool ((↑(elsOf (fld x0 4)).length:Int)==2)))) g') (Qf (.val (.d (.bool false))) g'))) (Qf (.val (.d (.bool false))) g'))) (Br (intOf (fld x0 0)==7) (Br (strOf (fld x0 1)==[]) (Br (decide (0<(↑(elsOf (fld x0 5)).length:Int))) (Qf (.val (.d (.bool ((↑(elsOf (fld x0 4)).length:Int)==IntKind.i64.wrap ((↑(elsOf (fld x0 5)).length:Int)+1))))) g) (Qf (.val (.d (.bool false))) g)) (Qf (.val (.d (.bool false))) g)) (Br (intOf (fld x0 0)==8) (EvF TT 73 [.str (strOf (fld x0 1))] g (KQ Qf λv g'=>∃b,v=.d (.bool b)∧Qf (.val (.d (.bool b))) g')) (Br (intOf (fld x0 0)==9) (EvF TT 203 [.str (strOf (fld x0 1))] g (KQ Qf λv g'=>∃n,v=.d (.int .i64 n)∧Br (decide (0<n)) (Qf (.val (.d (.bool ((↑(elsOf (fld x0 4)).length:Int)==2)))) g') (Qf (.val (.d (.bool false))) g'))) (Br (intOf (fld x0 0)==10) (Br (strOf (fld x0 1)==[]) (Qf (.val (.d (.bool ((↑(elsOf (fld x0 4)).length:Int)==1)))) g) (Qf (.val (.d (.bool false))) g)) (Qf (.val (.d (.bool false))) g))))))))))))
    (Br (intOf (fld x0 0)==1) (EvF TT 71 [.str (strOf (fld x0 1))] g (KQ Qf λv g'=>∃b,v=.d (.bool b)∧Br b (Qf (.val (.d (.bool ((↑(elsOf (fld x0 4)).length:Int)==0)))) g') (Qf (.val (.d (.bool false))) g'))) (Br (intOf (fld x0 0)==2) (Br (strOf (fld x0 1)==[]) (EvF TT 124 [.int .i64 (intOf (fld x0 3))] g (KQ Qf λv g'=>∃b,v=.d (.bool b)∧Br b (Qf (.val (.d (.bool ((↑(elsOf (fld x0 4)).length:Int)==0)))) g') (Qf (.val (.d (.bool false))) g'))) (Qf (.val (.d (.bool false))) g)) (Br (intOf (fld x0 0)==3) (EvF TT 71 [.str (strOf (fld x0 1))] g (KQ Qf λv g'=>∃b,v=.d (.bool b)∧Br b (Qf (.val (.d (.bool ((↑(elsOf (fld x0 4)).length:Int)==1)))) g') (Qf (.val (.d (.bool false))) g'))) (Br (intOf (fld x0 0)==4) (Br (strOf (fld x0 1)==[]) (Qf (.val (.d (.bool ((↑(elsOf (fld x0 4)).length:Int)==2)))) g) (Qf (.val (.d (.bool false))) g)) (Br (intOf (fld x0 0)==5) (EvF TT 71 [.str (strOf (fld x0 1))] g (KQ Qf λv g'=>∃b,v=.d (.bool b)∧Br b (Qf (.val (.d (.bool ((↑(elsOf (fld x0 4)).length:Int)==2)))) g') (Qf (.val (.d (.bool false))) g'))) (Br (intOf (fld x0 0)==6) (EvF TT 71 [.str (strOf (fld x0 1))] g (KQ Qf λv g'=>∃b,v=.d (.bool b)∧Br b (EvF TT 71 [.str (strOf (fld x0 2))] g' (KQ Qf λv g'=>∃b,v=.d (.bool b)∧Br b (Qf (.val (.d (.bool ((↑(elsOf (fld x0 4)).length:Int)==2)))) g') (Qf (.val (.d (.bool false))) g'))) (Qf (.val (.d (.bool false))) g'))) (Br (intOf (fld x0 0)==7) (Br (strOf (fld x0 1)==[]) (Br (decide (0<(↑(elsOf (fld x0 5)).length:Int))) (Qf (.val (.d (.bool ((↑(elsOf (fld x0 4)).length:Int)==IntKind.i64.wrap ((↑(elsOf (fld x0 5)).length:Int)+1))))) g) (Qf (.val (.d (.bool false))) g)) (Qf (.val (.d (.bool false))) g)) (Br (intOf (fld x0 0)==8) (EvF TT 73 [.str (strOf (fld x0 1))] g (KQ Qf λv g'=>∃b,v=.d (.bool b)∧Qf (.val (.d (.bool b))) g')) (Br (intOf (fld x0 0)==9) (EvF TT 203 [.str (strOf (fld x0 1))] g (KQ Qf λv g'=>∃n,v=.d (.int .i64 n)∧Br (decide (0<n)) (Qf (.val (.d (.bool ((↑(elsOf (fld x0 4)).length:Int)==2)))) g') (Qf (.val (.d (.bool false))) g'))) (Br (intOf (fld x0 0)==10) (Br (strOf (fld x0 1)==[]) (Qf (.val (.d (.bool ((↑(elsOf (fld x0 4)).length:Int)==1)))) g) (Qf (.val (.d (.bool false))) g)) (Qf (.val (.d (.bool false))) g)))))))))))))
  (Br (intOf (fld x0 0)!=7) (Br (decide (0<(↑(elsOf (fld x0 5)).length:Int))) (Qf (.val (.d (.bool false))) g) (Br (intOf (fld x0 0)==1) (EvF TT 71 [.str (strOf (fld x0 1))] g (KQ Qf λv g'=>∃b,v=.d (.bool b)∧Br b (Qf (.val (.d (.bool ((↑(elsOf (fld x0 4)).length:Int)==0)))) g') (Qf (.val (.d (.bool false))) g'))) (Br (intOf (fld x0 0)==2) (Br (strOf (fld x0 1)==[]) (EvF TT 124 [.int .i64 (intOf (fld x0 3))] g (KQ Qf λv g'=>∃b,v=.d (.bool b)∧Br b (Qf (.val (.d (.bool ((↑(elsOf (fld x0 4)).length:Int)==0)))) g') (Qf (.val (.d (.bool false))) g'))) (Qf (.val (.d (.bool false))) g)) (Br (intOf (fld x0 0)==3) (EvF TT 71 [.str (strOf (fld x0 1))] g (KQ Qf λv g'=>∃b,v=.d (.bool b)∧Br b (Qf (.val (.d (.bool ((↑(elsOf (fld x0 4)).length:Int)==1)))) g') (Qf (.val (.d (.bool false))) g'))) (Br (intOf (fld x0 0)==4) (Br (strOf (fld x0 1)==[]) (Qf (.val (.d (.bool ((↑(elsOf (fld x0 4)).length:Int)==2)))) g) (Qf (.val (.d (.bool false))) g)) (Br (intOf (fld x0 0)==5) (EvF TT 71 [.str (strOf (fld x0 1))] g (KQ Qf λv g'=>∃b,v=.d (.bool b)∧Br b (Qf (.val (.d (.bool ((↑(elsOf (fld x0 4)).length:Int)==2)))) g') (Qf (.val (.d (.bool false))) g'))) (Br (intOf (fld x0 0)==6) (EvF TT 71 [.str (strOf (fld x0 1))] g (KQ Qf λv g'=>∃b,v=.d (.bool b)∧Br b (EvF TT 71 [.str (strOf (fld x0 2))] g' (KQ Qf λv g'=>∃b,v=.d (.bool b)∧Br b (Qf (.val (.d (.bool ((↑(elsOf (fld x0 4)).length:Int)==2)))) g') (Qf (.val (.d (.bool false))) g'))) (Qf (.val (.d (.bool false))) g'))) (Br (intOf (fld x0 0)==7) (Br (strOf (fld x0 1)==[]) (Br (decide (0<(↑(elsOf (fld x0 5)).length:Int))) (Qf (.val (.d (.bool ((↑(elsOf (fld x0 4)).length:Int)==IntKind.i64.wrap ((↑(elsOf (fld x0 5)).length:Int)+1))))) g) (Qf (.val (.d (.bool false))) g)) (Qf (.val (.d (.bool false))) g)) (Br (intOf (fld x0 0)==8) (EvF TT 73 [.str (strOf (fld x0 1))] g (KQ Qf λv g'=>∃b,v=.d (.bool b)∧Qf (.val (.d (.bool b))) g')) (Br (intOf (fld x0 0)==9) (EvF TT 203 [.str (strOf (fld x0 1))] g (KQ Qf λv g'=>∃n,v=.d (.int .i64 n)∧Br (decide (0<n)) (Qf (.val (.d (.bool ((↑(elsOf (fld x0 4)).length:Int)==2)))) g') (Qf (.val (.d (.bool false))) g'))) (Br (intOf (fld x0 0)==10) (Br (strOf (fld x0 1)==[]) (Qf (.val (.d (.bool ((↑(elsOf (fld x0 4)).length:Int)==1)))) g) (Qf (.val (.d (.bool false))) g)) (Qf (.val (.d (.bool false))) g))))))))))))
   (Br (intOf (fld x0 0)==1) (EvF TT 71 [.str (strOf (fld x0 1))] g (KQ Qf λv g'=>∃b,v=.d (.bool b)∧Br b (Qf (.val (.d (.bool ((↑(elsOf (fld x0 4)).length:Int)==0)))) g') (Qf (.val (.d (.bool false))) g'))) (Br (intOf (fld x0 0)==2) (Br (strOf (fld x0 1)==[]) (EvF TT 124 [.int .i64 (intOf (fld x0 3))] g (KQ Qf λv g'=>∃b,v=.d (.bool b)∧Br b (Qf (.val (.d (.bool ((↑(elsOf (fld x0 4)).length:Int)==0)))) g') (Qf (.val (.d (.bool false))) g'))) (Qf (.val (.d (.bool false))) g)) (Br (intOf (fld x0 0)==3) (EvF TT 71 [.str (strOf (fld x0 1))] g (KQ Qf λv g'=>∃b,v=.d (.bool b)∧Br b (Qf (.val (.d (.bool ((↑(elsOf (fld x0 4)).length:Int)==1)))) g') (Qf (.val (.d (.bool false))) g'))) (Br (intOf (fld x0 0)==4) (Br (strOf (fld x0 1)==[]) (Qf (.val (.d (.bool ((↑(elsOf (fld x0 4)).length:Int)==2)))) g) (Qf (.val (.d (.bool false))) g)) (Br (intOf (fld x0 0)==5) (EvF TT 71 [.str (strOf (fld x0 1))] g (KQ Qf λv g'=>∃b,v=.d (.bool b)∧Br b (Qf (.val (.d (.bool ((↑(elsOf (fld x0 4)).length:Int)==2)))) g') (Qf (.val (.d (.bool false))) g'))) (Br (intOf (fld x0 0)==6) (EvF TT 71 [.str (strOf (fld x0 1))] g (KQ Qf λv g'=>∃b,v=.d (.bool b)∧Br b (EvF TT 71 [.str (strOf (fld x0 2))] g' (KQ Qf λv g'=>∃b,v=.d (.bool b)∧Br b (Qf (.val (.d (.bool ((↑(elsOf (fld x0 4)).length:Int)==2)))) g') (Qf (.val (.d (.bool false))) g'))) (Qf (.val (.d (.bool false))) g'))) (Br (intOf (fld x0 0)==7) (Br (strOf (fld x0 1)==[]) (Br (decide (0<(↑(elsOf (fld x0 5)).length:Int))) (Qf (.val (.d (.bool ((↑(elsOf (fld x0 4)).length:Int)==IntKind.i64.wrap ((↑(elsOf (fld x0 5)).length:Int)+1))))) g) (Qf (.val (.d (.bool false))) g)) (Qf (.val (.d (.bool false))) g)) (Br (intOf (fld x0 0)==8) (EvF TT 73 [.str (strOf (fld x0 1))] g (KQ Qf λv g'=>∃b,v=.d (.bool b)∧Qf (.val (.d (.bool b))) g')) (Br (intOf (fld x0 0)==9) (EvF TT 203 [.str (strOf (fld x0 1))] g (KQ Qf λv g'=>∃n,v=.d (.int .i64 n)∧Br (decide (0<n)) (Qf (.val (.d (.bool ((↑(elsOf (fld x0 4)).length:Int)==2)))) g') (Qf (.val (.d (.bool false))) g'))) (Br (intOf (fld x0 0)==10) (Br (strOf (fld x0 1)==[]) (Qf (.val (.d (.bool ((↑(elsOf (fld x0 4)).length:Int)==1)))) g) (Qf (.val (.d (.bool false))) g)) (Qf (.val (.d (.bool false))) g)))))))))))))):
  EvF TT 141 [x0] g Qf:=
 sx_fun (rk:=rk) (fn:=Tryz.f141) (loops:=lo141) (joins:=[]) (n:=100000) (args:=[(27,x0)]) rfl rfl rfl rfl ⟨h0,trivial⟩ (by kernel_rfl) h
def L75_17(n1:Int)(n6:Int)(y2:Dat)(g:Glob)(Qf:OGP):Prop:=CutP TT Tryz.f75 [1,1,1,1,1,1,0,1,0] Qf (mkC TT 75 Tryz.f75 2 [(1,.v 3 (.int .i64 n1)),(2,.loc 2 0 0),(6,.v 3 (.int .i64 n6))] [(2,.whole 94 y2)] g)
def lo75:List CutI:=[⟨17,[(1,.keep),(2,.keep),(6,.keep)],[(2,.whole 94)]⟩]
theorem w75{x0:Dat}{n1:Int}{g:Glob}{Qf:OGP}(h0:HasTy TT 94 x0)
 (h:Br (decide (n1<1)) (Qf (.val (.d (.int .i64 (-1)))) g) (Br (intOf (fld x0 2)!=0) (Qf (.val (.d (.int .i64 (-1)))) g) (Br (intOf (fld x0 0)==1) (Br (strOf (fld x0 1)==[]) (Br (!(↑(elsOf (fld x0 3)).length:Int)==0) (Qf (.val (.d (.int .i64 (-1)))) g) (L75_17 (IntKind.i64.wrap (n1-1)) 0 x0 g Qf)) (Qf (.val (.d (.int .i64 (-1)))) g)) (Br (intOf (fld x0 0)==2) (EvF TT 72 [.str (strOf (fld x0 1)),.bool true] g (KQ Qf λv g'=>∃b,v=.d (.bool b)∧Br b (Br (!(↑(elsOf (fld x0 3)).length:Int)==0) (Qf (.val (.d (.int .i64 (-1)))) g') (L75_17 (IntKind.i64.wrap (n1-1)) 0 x0 g' Qf)) (Qf (.val (.d (.int .i64 (-1)))) g'))) (Br (intOf (fld x0 0)==3) (Br (strOf (fld x0 1)==[]) (Br (!(↑(elsOf (fld x0 3)).length:Int)==2) (Qf (.val (.d (.int .i64 (-1)))) g) (L75_17 (IntKind.i64.wrap (n1-1)) 0 x0 g Qf)) (Qf (.val (.d (.int .i64 (-1)))) g)) (Br (intOf (fld x0 0)==4) (EvF TT 71 [.str (strOf (fld x0 1))] g (KQ Qf λv g'=>∃b,v=.d (.bool b)∧Br b (Br (!!strOf (fld x0 1)==[105,110,116]) (Qf (.val (.d (.int .i64 (-1)))) g') (L75_17 (IntKind.i64.wrap (n1-1)) 0 x0 g' Qf)) (Qf (.val (.d (.int .i64 (-1)))) g'))) (Qf (.val (.d (.int .i64 (-1)))) g))))))):
 EvF TT 75 [x0,.int .i64 n1] g Qf:=
 sx_fun (rk:=rk) (fn:=Tryz.f75) (loops:=lo75) (joins:=[]) (n:=100000) (args:=[(94,x0),(3,.int .i64 n1)]) rfl rfl rfl rfl ⟨h0,tyInt rfl,trivial⟩ (by kernel_rfl) h
theorem w75_17{n1:Int}{n6:Int}{y2:Dat}{g:Glob}{Qf:OGP}
 (h:Br (decide (n6<(↑(elsOf (fld y2 3)).length:Int))) (Br (decide (0≤n1)) (InB n6 (elsOf (fld y2 3)).length∧EvF TT 75 [getE (elsOf (fld y2 3)) n6,.int .i64 n1] g (KQ Qf λv g'=>∃n,v=.d (.int .i64 n)∧L75_17 n (IntKind.i64.wrap (n6+1)) y2 g' Qf)) (Qf (.val (.d (.int .i64 n1))) g)) (Qf (.val (.d (.int .i64 n1))) g)):
 L75_17 n1 n6 y2 g Qf:=sx_cut (rk:=rk) (loops:=lo75) (joins:=[]) (n:=100000) (by kernel_rfl) h
def L76_4(n3:Int)(y1:Dat)(g:Glob)(Qf:OGP):Prop:=CutP TT Tryz.f76 [1,1,0,1,0] Qf (mkC TT 76 Tryz.f76 1 [(1,.loc 1 0 0),(3,.v 3 (.int .i64 n3))] [(1,.whole 27 y1)] g)
def L76_9(n4:Int)(y1:Dat)(g:Glob)(Qf:OGP):Prop:=CutP TT Tryz.f76 [1,1,1,0,1,0] Qf (mkC TT 76 Tryz.f76 1 [(1,.loc 1 0 0),(4,.v 3 (.int .i64 n4))] [(1,.whole 27 y1)] g)
def lo76:List CutI:=[⟨4,[(1,.keep),(3,.keep)],[(1,.whole 27)]⟩,⟨9,[(1,.keep),(4,.keep)],[(1,.whole 27)]⟩]
theorem w76{x0:Dat}{g:Glob}{Qf:OGP}(h0:HasTy TT 27 x0)
 (h:EvF TT 141 [x0] g (KQ Qf λv g'=>∃b,v=.d (.bool b)∧Br (!b) (Qf (.val (.d (.bool false))) g') (L76_4 0 x0 g' Qf))):
 EvF TT 76 [x0] g Qf:=
 sx_fun (rk:=rk) (fn:=Tryz.f76) (loops:=lo76) (joins:=[]) (n:=100000) (args:=[(27,x0)]) rfl rfl rfl rfl ⟨h0,trivial⟩ (by kernel_rfl) h
theorem w76_4{n3:Int}{y1:Dat}{g:Glob}{Qf:OGP}
 (h:Br (decide (n3<(↑(elsOf (fld y1 5)).length:Int))) (InB n3 (elsOf (fld y1 5)).length∧EvF TT 142 [getE (elsOf (fld y1 5)) n3] g (KQ Qf λv g'=>∃b,v=.d (.bool b)∧Br (!b) (Qf (.val (.d (.bool false))) g') (L76_4 (IntKind.i64.wrap (n3+1)) y1 g' Qf))) (L76_9 0 y1 g Qf)):
 L76_4 n3 y1 g Qf:=sx_cut (rk:=rk) (loops:=lo76) (joins:=[]) (n:=100000) (by kernel_rfl) h
theorem w76_9{n4:Int}{y1:Dat}{g:Glob}{Qf:OGP}
 (h:Br (decide (n4<(↑(elsOf (fld y1 4)).length:Int))) (InB n4 (elsOf (fld y1 4)).length∧EvF TT 76 [getE (elsOf (fld y1 4)) n4] g (KQ Qf λv g'=>∃b,v=.d (.bool b)∧Br (!b) (Qf (.val (.d (.bool false))) g') (L76_9 (IntKind.i64.wrap (n4+1)) y1 g' Qf))) (Qf (.val (.d (.bool true))) g)):
 L76_9 n4 y1 g Qf:=sx_cut (rk:=rk) (loops:=lo76) (joins:=[]) (n:=100000) (by kernel_rfl) h
def L25_4(n3:Int)(y1:Dat)(g:Glob)(Qf:OGP):Prop:=CutP TT Tryz.f25 [1,1,0,1,0] Qf (mkC TT 25 Tryz.f25 1 [(1,.loc 1 0 0),(3,.v 3 (.int .i64 n3))] [(1,.whole 29 y1)] g)
def L25_10(n3:Int)(n5:Int)(y4:Dat)(y1:Dat)(g:Glob)(Qf:OGP):Prop:=CutP TT Tryz.f25 [1,1,0,1,0,0,1,0,0,1,1,0,1,0] Qf (mkC TT 25 Tryz.f25 1 [(1,.loc 1 0 0),(3,.v 3 (.int .i64 n3)),(4,.loc 4 0 0),(5,.v 3 (.int .i64 n5))] [(4,.whole 76 y4),(1,.whole 29 y1)] g)
def L25_15(n3:Int)(n6:Int)(y4:Dat)(y1:Dat)(g:Glob)(Qf:OGP):Prop:=CutP TT Tryz.f25 [1,1,0,1,0,0,1,0,0,1,1,1,1,0] Qf (mkC TT 25 Tryz.f25 1 [(1,.loc 1 0 0),(3,.v 3 (.int .i64 n3)),(4,.loc 4 0 0),(6,.v 3 (.int .i64 n6))] [(4,.whole 76 y4),(1,.whole 29 y1)] g)
def L25_20(n3:Int)(n6:Int)(n7:Int)(y4:Dat)(y1:Dat)(g:Glob)(Qf:OGP):Prop:=CutP TT Tryz.f25 [1,1,0,1,0,0,1,0,0,1,1,1,1,0,0,1,0,0,1,1,0] Qf (mkC TT 25 Tryz.f25 1 [(1,.loc 1 0 0),(3,.v 3 (.int .i64 n3)),(4,.loc 4 0 0),(6,.v 3 (.int .i64 n6)),(7,.v 3 (.int .i64 n7))] [(4,.whole 76 y4),(1,.whole 29 y1)] g)
def lo25:List CutI:=[⟨4,[(1,.keep),(3,.keep)],[(1,.whole 29)]⟩,⟨10,[(1,.keep),(3,.keep),(4,.keep),(5,.keep)],[(4,.whole 76),(1,.whole 29)]⟩,⟨15,[(1,.keep),(3,.keep),(4,.keep),(6,.keep)],[(4,.whole 76),(1,.whole 29)]⟩,⟨20,[(1,.keep),(3,.keep),(4,.keep),(6,.keep),(7,.keep)],[(4,.whole 76),(1,.whole 29)]⟩]
theorem w25{x0:Dat}{g:Glob}{Qf:OGP}(h0:HasTy TT 29 x0)
 (h:Br (decide (32<(↑(elsOf (fld x0 0)).length:Int))) (Qf (.val (.d (.bool false))) g) (EvF TT 27 [x0] g (KQ Qf λv g'=>∃n,v=.d (.int .i64 n)∧Br (decide (2048<n)) (Qf (.val (.d (.bool false))) g') (L25_4 0 x0 g' Qf)))):
 EvF TT 25 [x0] g Qf:=
 sx_fun (rk:=rk) (fn:=Tryz.f25) (loops:=lo25) (joins:=[]) (n:=100000) (args:=[(29,x0)]) rfl rfl rfl rfl ⟨h0,trivial⟩ (by kernel_rfl) h
theorem w25_4{n3:Int}{y1:Dat}{g:Glob}{Qf:OGP}
 (h:Br (decide (n3<(↑(elsOf (fld y1 0)).length:Int))) (InB n3 (elsOf (fld y1 0)).length∧EvF TT 71 [.str (strOf (fld (getE (elsOf (fld y1 0)) n3) 0))] g (KQ Qf λv g'=>∃b,v=.d (.bool b)∧Br (!b) (Qf (.val (.d (.bool false))) g') (Br ((↑(elsOf (fld (getE (elsOf (fld y1 0)) n3) 2)).length:Int)==0) (Qf (.val (.d (.bool false))) g') (Br (decide (32<(↑(elsOf (fld (getE (elsOf (fld y1 0)) n3) 2)).length:Int))) (Qf (.val (.d (.bool false))) g') (Br (decide (4<(↑(elsOf (fld (getE (elsOf (fld y1 0)) n3) 1)).length:Int))) (Qf (.val (.d (.bool false))) g') (L25_10 n3 0 (getE (elsOf (fld y1 0)) n3) y1 g' Qf)))))) (EvF TT 52 [y1] g (KQ Qf λv g'=>∃n,v=.d (.int .i64 n)∧Br (n==0) (EvF TT 76 [sub y1 1 7] g' (KQ Qf λv g'=>∃b,v=.d (.bool b)∧Qf (.val (.d (.bool b))) g')) (Qf (.val (.d (.bool false))) g')))):
 L25_4 n3 y1 g Qf:=sx_cut (rk:=rk) (loops:=lo25) (joins:=[]) (n:=100000) (by kernel_rfl) h
theorem w25_10{n3:Int}{n5:Int}{y4:Dat}{y1:Dat}{g:Glob}{Qf:OGP}
 (h:Br (decide (n5<(↑(elsOf (fld y4 1)).length:Int))) (InB n5 (elsOf (fld y4 1)).length∧EvF TT 72 [.str (strOf (fld (getE (elsOf (fld y4 1)) n5) 0)),.bool true] g (KQ Qf λv g'=>∃b,v=.d (.bool b)∧Br (!b) (Qf (.val (.d (.bool false))) g') (L25_10 n3 (IntKind.i64.wrap (n5+1)) y4 y1 g' Qf))) (L25_15 n3 0 y4 y1 g Qf)):
 L25_10 n3 n5 y4 y1 g Qf:=sx_cut (rk:=rk) (loops:=lo25) (joins:=[]) (n:=100000) (by kernel_rfl) h
theorem w25_15{n3:Int}{n6:Int}{y4:Dat}{y1:Dat}{g:Glob}{Qf:OGP}
 (h:Br (decide (n6<(↑(elsOf (fld y4 2)).length:Int))) (InB n6 (elsOf (fld y4 2)).length∧EvF TT 73 [.str (strOf (fld (getE (elsOf (fld y4 2)) n6) 0))] g (KQ Qf λv g'=>∃b,v=.d (.bool b)∧Br (!b) (Qf (.val (.d (.bool false))) g') (InB n6 (elsOf (fld y4 2)).length∧Br (decide (8<(↑(elsOf (fld (getE (elsOf (fld y4 2)) n6) 1)).length:Int))) (Qf (.val (.d (.bool false))) g') (L25_20 n3 n6 0 y4 y1 g' Qf)))) (L25_4 (IntKind.i64.wrap (n3+1)) y1 g Qf)):
 L25_15 n3 n6 y4 y1 g Qf:=sx_cut (rk:=rk) (loops:=lo25) (joins:=[]) (n:=100000) (by kernel_rfl) h
theorem w25_20{n3:Int}{n6:Int}{n7:Int}{y4:Dat}{y1:Dat}{g:Glob}{Qf:OGP}
 (h:InB n6 (elsOf (fld y4 2)).length∧Br (decide (n7<(↑(elsOf (fld (getE (elsOf (fld y4 2)) n6) 1)).length:Int))) (InB n6 (elsOf (fld y4 2)).length∧InB n7 (elsOf (fld (getE (elsOf (fld y4 2)) n6) 1)).length∧EvF TT 74 [getE (elsOf (fld (getE (elsOf (fld y4 2)) n6) 1)) n7,.int .i64 256] g (KQ Qf λv g'=>∃b,v=.d (.bool b)∧Br b (Qf (.val (.d (.bool false))) g') (InB n6 (elsOf (fld y4 2)).length∧InB n7 (elsOf (fld (getE (elsOf (fld y4 2)) n6) 1)).length∧EvF TT 75 [getE (elsOf (fld (getE (elsOf (fld y4 2)) n6) 1)) n7,.int .i64 1048576] g' (KQ Qf λv g'=>∃n,v=.d (.int .i64 n)∧Br (decide (n<0)) (Qf (.val (.d (.bool false))) g') (L25_20 n3 n6 (IntKind.i64.wrap (n7+1)) y4 y1 g' Qf))))) (L25_15 n3 (IntKind.i64.wrap (n6+1)) y4 y1 g Qf)):
 L25_20 n3 n6 n7 y4 y1 g Qf:=sx_cut (rk:=rk) (loops:=lo25) (joins:=[]) (n:=100000) (by kernel_rfl) h
end Go.Proofs.YtgmapdcdmomioaaGreatDoor.Pa
namespace Go.Proofs.YtgmapdcdmomioaaGreatDoor.Pa
open Go Go.Proofs.YtgmapdcdmomioaaGreatDoor.Am
def opL:List Str:=[[43],[45],[42],[47],[37],[60],[61,61]]
def ixF(s:Str):List Str→Int→Int
 |[],_=>0
 |x::l,i=>bif x==s then i else ixF s l (i+1)
def opN(s:Str):Int:=ixF s opL 1
section
variable{s:Str}{g:Glob}{Qf:OGP}
theorem qint{a b:Int}(h:Qf (.val (.d (.int .i64 a))) g)(e:a=b):Qf (.val (.d (.int .i64 b))) g:=e▸h
theorem intsOp_ok(hs:s.length≤2^40)(hQ:Qf (.val (.d (.int .i64 (opN s)))) g):EvF TT 196 [.str s] g Qf:=by
 refine w196 hs (w220 ⟨_,?_,rfl,?_⟩)
 ·refine struct_of (tys:=[9,9,9,9,9,9,9,9]) (by kernel_rfl) (by kernel_rfl) (by kernel_rfl) ⟨?_,?_,?_,?_,?_,?_,?_,?_,trivial⟩<;>exact ty_str (by simp)
 ·simp only[opN,opL,ixF] at hQ
  refine w196_2 ?_
  refine Br_iff.2 ⟨λ_=>?_,λh=>by simp at h⟩
  simp only[show((0:Int)==7)=false from rfl,show((0:Int)==6)=false from rfl,show((0:Int)==5)=false from rfl,show((0:Int)==4)=false from rfl,show((0:Int)==3)=false from rfl,show((0:Int)==2)=false from rfl,show((0:Int)==1)=false from rfl,show((0:Int)==0)=true from rfl,Br_true,Br_false,show decide ((0:Int)<0)=false from rfl,show IntKind.i64.wrap (0+1)=1 from rfl]
  have step:∀{X:Prop} {b:Bool},X→Br b X X:=λh=>by cases ‹Bool›<;>exact h
  refine step ?_
  refine w196_2 (Br_iff.2 ⟨λ_=>?_,λh=>by simp at h⟩)
  simp only[show((1:Int)==7)=false from rfl,show((1:Int)==6)=false from rfl,show((1:Int)==5)=false from rfl,show((1:Int)==4)=false from rfl,show((1:Int)==3)=false from rfl,show((1:Int)==2)=false from rfl,show((1:Int)==1)=true from rfl,show((1:Int)==0)=false from rfl,Br_true,Br_false,show decide ((0:Int)<1)=true from rfl,show IntKind.i64.wrap (1+1)=2 from rfl]
  refine Br_iff.2 ⟨λq=>?_,λq=>?_⟩
  ·rw[show(([43]:Str)==s)=true from q] at hQ
   exact hQ
  rw[show(([43]:Str)==s)=false from q,cond_false] at hQ
  refine w196_2 (Br_iff.2 ⟨λ_=>?_,λh=>by simp at h⟩)
  simp only[show((2:Int)==7)=false from rfl,show((2:Int)==6)=false from rfl,show((2:Int)==5)=false from rfl,show((2:Int)==4)=false from rfl,show((2:Int)==3)=false from rfl,show((2:Int)==2)=true from rfl,show((2:Int)==1)=false from rfl,show((2:Int)==0)=false from rfl,Br_true,Br_false,show decide ((0:Int)<2)=true from rfl,show IntKind.i64.wrap (2+1)=3 from rfl]
  refine Br_iff.2 ⟨λq=>?_,λq=>?_⟩
  ·rw[show(([45]:Str)==s)=true from q] at hQ
   exact hQ
  rw[show(([45]:Str)==s)=false from q,cond_false] at hQ
  refine w196_2 (Br_iff.2 ⟨λ_=>?_,λh=>by simp at h⟩)
  simp only[show((3:Int)==7)=false from rfl,show((3:Int)==6)=false from rfl,show((3:Int)==5)=false from rfl,show((3:Int)==4)=false from rfl,show((3:Int)==3)=true from rfl,show((3:Int)==2)=false from rfl,show((3:Int)==1)=false from rfl,show((3:Int)==0)=false from rfl,Br_true,Br_false,show decide ((0:Int)<3)=true from rfl,show IntKind.i64.wrap (3+1)=4 from rfl]
  refine Br_iff.2 ⟨λq=>?_,λq=>?_⟩
  ·rw[show(([42]:Str)==s)=true from q] at hQ
   exact hQ
  rw[show(([42]:Str)==s)=false from q,cond_false] at hQ
  refine w196_2 (Br_iff.2 ⟨λ_=>?_,λh=>by simp at h⟩)
  simp only[show((4:Int)==7)=false from rfl,show((4:Int)==6)=false from rfl,show((4:Int)==5)=false from rfl,show((4:Int)==4)=true from rfl,show((4:Int)==3)=false from rfl,show((4:Int)==2)=false from rfl,show((4:Int)==1)=false from rfl,show((4:Int)==0)=false from rfl,Br_true,Br_false,show decide ((0:Int)<4)=true from rfl,show IntKind.i64.wrap (4+1)=5 from rfl]
  refine Br_iff.2 ⟨λq=>?_,λq=>?_⟩
  ·rw[show(([47]:Str)==s)=true from q] at hQ
   exact hQ
  rw[show(([47]:Str)==s)=false from q,cond_false] at hQ
  refine w196_2 (Br_iff.2 ⟨λ_=>?_,λh=>by simp at h⟩)
  simp only[show((5:Int)==7)=false from rfl,show((5:Int)==6)=false from rfl,show((5:Int)==5)=true from rfl,show((5:Int)==4)=false from rfl,show((5:Int)==3)=false from rfl,show((5:Int)==2)=false from rfl,show((5:Int)==1)=false from rfl,show((5:Int)==0)=false from rfl,Br_true,Br_false,show decide ((0:Int)<5)=true from rfl,show IntKind.i64.wrap (5+1)=6 from rfl]
  refine Br_iff.2 ⟨λq=>?_,λq=>?_⟩
  ·rw[show(([37]:Str)==s)=true from q] at hQ
   exact hQ
  rw[show(([37]:Str)==s)=false from q,cond_false] at hQ
  refine w196_2 (Br_iff.2 ⟨λ_=>?_,λh=>by simp at h⟩)
  simp only[show((6:Int)==7)=false from rfl,show((6:Int)==6)=true from rfl,show((6:Int)==5)=false from rfl,show((6:Int)==4)=false from rfl,show((6:Int)==3)=false from rfl,show((6:Int)==2)=false from rfl,show((6:Int)==1)=false from rfl,show((6:Int)==0)=false from rfl,Br_true,Br_false,show decide ((0:Int)<6)=true from rfl,show IntKind.i64.wrap (6+1)=7 from rfl]
  refine Br_iff.2 ⟨λq=>?_,λq=>?_⟩
  ·rw[show(([60]:Str)==s)=true from q] at hQ
   exact hQ
  rw[show(([60]:Str)==s)=false from q,cond_false] at hQ
  refine w196_2 (Br_iff.2 ⟨λ_=>?_,λh=>by simp at h⟩)
  simp only[show((7:Int)==7)=true from rfl,show((7:Int)==6)=false from rfl,show((7:Int)==5)=false from rfl,show((7:Int)==4)=false from rfl,show((7:Int)==3)=false from rfl,show((7:Int)==2)=false from rfl,show((7:Int)==1)=false from rfl,show((7:Int)==0)=false from rfl,Br_true,Br_false,show decide ((0:Int)<7)=true from rfl,show IntKind.i64.wrap (7+1)=8 from rfl]
  refine Br_iff.2 ⟨λq=>?_,λq=>?_⟩
  ·rw[show(([61,61]:Str)==s)=true from q] at hQ
   exact hQ
  rw[show(([61,61]:Str)==s)=false from q,cond_false] at hQ
  refine w196_2 (Br_iff.2 ⟨λh=>by simp at h,λ_=>hQ⟩)
theorem r10Op_ok(hs:s.length≤2^40)(hQ:Qf (.val (.d (.int .i64 (opN s)))) g):EvF TT 203 [.str s] g Qf:=by
 refine w203 hs ?_
 have hty:HasTy TT 61 (.sl 1 (([]::opL).map .str)):=ty_strs (l:=[]::opL) (by decide) (by decide) (by decide)
 have go:∀(l pre:List Str),[]::opL=pre++l→1≤pre.length→Qf (.val (.d (.int .i64 (ixF s l (pre.length:Int))))) g→L203_2 s (pre.length:Int) g Qf:=by
  intro l
  induction l with
  |nil=>
   intro pre hl h1 hQ
   refine w203_2 (w223 ⟨_,hty,rfl,?_⟩)
   have:pre.length=8:=by rw[List.append_nil] at hl;rw[←hl];rfl
   rw[this]
   exact hQ
  |cons x l ih=>
   intro pre hl h1 hQ
   have hlen:pre.length+(l.length+1)=8:=by
    have:=congrArg List.length hl
    rw[List.length_append,List.length_cons] at this
    exact this.symm
   refine w203_2 (w223 ⟨_,hty,rfl,?_⟩)
   have hg:getE (elsOf (.sl 1 (([]::opL).map .str))) (pre.length:Int)=.str x:=by
    simp only[elsOf,getE,Int.toNat_natCast,hl,List.map_append,List.map_cons]
    have:=nth_app (pre:=pre.map Dat.str) (x:=.str x) (l:=l.map .str)
    rw[List.length_map] at this
    exact this
   rw[show(elsOf (.sl 1 (([]::opL).map .str))).length=8 from rfl,Br_lt (show pre.length<8 by omega)]
   refine w223 ⟨_,hty,rfl,inB (show pre.length<8 by omega),?_⟩
   rw[hg]
   simp only[ixF] at hQ
   show Br (x==s) _ _
   cases hq:(x==s) with
   |true=>rw[hq] at hQ;exact hQ
   |false=>
    rw[hq,cond_false] at hQ
    rw[Br_false,wrap_nat (by omega)]
    have:=ih (pre++[x]) (by rw[hl,List.append_assoc];rfl) (by rw[List.length_append];omega)
    rw[List.length_append] at this
    exact this hQ
 exact go opL [[]] rfl (by simp) hQ
theorem containsPats_ok{f:FuncId}{c:List Dat}{p:Dat→Bool}{x:Dat}(hx:HasTy TT 25 x)(hf:∀y∈elsOf x,∀Q:Out→Glob→Prop,Q (.val (.d (.bool (p y)))) g→EvF TT f (y::c) g Q)(hQ:Qf (.val (.d (.bool ((elsOf x).any p)))) g):EvF TT 130 [x,.clo f c] g Qf:=by
 have exl:=len_le undPats hx
 refine w130 hx (w197 hx ?_)
 refine loopUp (len:=(elsOf x).length) (λi=>Qf (.val (.d (.bool (((elsOf x).drop i).any p)))) g→L197_2 x f c ((elsOf x).length:Int) (i:Int) g _) ?_ ?_ 0 (Nat.zero_le _) hQ
 ·intro hQ
  refine w197_2 ?_
  rw[Br_ge]
  rw[List.drop_length] at hQ
  exact⟨_,rfl,hQ⟩
 ·intro i hi ih hQ
  refine w197_2 ?_
  rw[Br_lt hi,getE_nat hi]
  rw[List.drop_eq_getElem_cons hi,List.any_cons] at hQ
  refine⟨inB hi,hf _ (List.getElem_mem hi) _ ⟨_,rfl,Br_iff.2 ⟨λq=>?_,λq=>?_⟩⟩⟩
  ·rw[q] at hQ
   refine⟨_,rfl,qcast hQ ?_⟩
   rw[Bool.true_or,decide_eq_true (by omega)]
  ·rw[q] at hQ
   rw[wrap_nat (by omega)]
   exact ih hQ
theorem containsExprs_ok{f:FuncId}{c:List Dat}{p:Dat→Bool}{x:Dat}(hx:HasTy TT 24 x)(hf:∀y∈elsOf x,∀Q:Out→Glob→Prop,Q (.val (.d (.bool (p y)))) g→EvF TT f (y::c) g Q)(hQ:Qf (.val (.d (.bool ((elsOf x).any p)))) g):EvF TT 133 [x,.clo f c] g Qf:=by
 have exl:=len_le undExprs hx
 refine w133 hx (w199 hx ?_)
 refine loopUp (len:=(elsOf x).length) (λi=>Qf (.val (.d (.bool (((elsOf x).drop i).any p)))) g→L199_2 x f c ((elsOf x).length:Int) (i:Int) g _) ?_ ?_ 0 (Nat.zero_le _) hQ
 ·intro hQ
  refine w199_2 ?_
  rw[Br_ge]
  rw[List.drop_length] at hQ
  exact⟨_,rfl,hQ⟩
 ·intro i hi ih hQ
  refine w199_2 ?_
  rw[Br_lt hi,getE_nat hi]
  rw[List.drop_eq_getElem_cons hi,List.any_cons] at hQ
  refine⟨inB hi,hf _ (List.getElem_mem hi) _ ⟨_,rfl,Br_iff.2 ⟨λq=>?_,λq=>?_⟩⟩⟩
  ·rw[q] at hQ
   refine⟨_,rfl,qcast hQ ?_⟩
   rw[Bool.true_or,decide_eq_true (by omega)]
  ·rw[q] at hQ
   rw[wrap_nat (by omega)]
   exact ih hQ
theorem containsTypes_ok{f:FuncId}{c:List Dat}{p:Dat→Bool}{x:Dat}(hx:HasTy TT 89 x)(hf:∀y∈elsOf x,∀Q:Out→Glob→Prop,Q (.val (.d (.bool (p y)))) g→EvF TT f (y::c) g Q)(hQ:Qf (.val (.d (.bool ((elsOf x).any p)))) g):EvF TT 137 [x,.clo f c] g Qf:=by
 have exl:=len_le undTypes hx
 refine w137 hx (w201 hx ?_)
 refine loopUp (len:=(elsOf x).length) (λi=>Qf (.val (.d (.bool (((elsOf x).drop i).any p)))) g→L201_2 x f c ((elsOf x).length:Int) (i:Int) g _) ?_ ?_ 0 (Nat.zero_le _) hQ
 ·intro hQ
  refine w201_2 ?_
  rw[Br_ge]
  rw[List.drop_length] at hQ
  exact⟨_,rfl,hQ⟩
 ·intro i hi ih hQ
  refine w201_2 ?_
  rw[Br_lt hi,getE_nat hi]
  rw[List.drop_eq_getElem_cons hi,List.any_cons] at hQ
  refine⟨inB hi,hf _ (List.getElem_mem hi) _ ⟨_,rfl,Br_iff.2 ⟨λq=>?_,λq=>?_⟩⟩⟩
  ·rw[q] at hQ
   refine⟨_,rfl,qcast hQ ?_⟩
   rw[Bool.true_or,decide_eq_true (by omega)]
  ·rw[q] at hQ
   rw[wrap_nat (by omega)]
   exact ih hQ
theorem containsDecls_ok{f:FuncId}{c:List Dat}{p:Dat→Bool}{x:Dat}(hx:HasTy TT 23 x)(hf:∀y∈elsOf x,∀Q:Out→Glob→Prop,Q (.val (.d (.bool (p y)))) g→EvF TT f (y::c) g Q)(hQ:Qf (.val (.d (.bool ((elsOf x).any p)))) g):EvF TT 68 [x,.clo f c] g Qf:=by
 have exl:=len_le undDecls hx
 refine w68 hx (w135 hx ?_)
 refine loopUp (len:=(elsOf x).length) (λi=>Qf (.val (.d (.bool (((elsOf x).drop i).any p)))) g→L135_2 x f c ((elsOf x).length:Int) (i:Int) g _) ?_ ?_ 0 (Nat.zero_le _) hQ
 ·intro hQ
  refine w135_2 ?_
  rw[Br_ge]
  rw[List.drop_length] at hQ
  exact⟨_,rfl,hQ⟩
 ·intro i hi ih hQ
  refine w135_2 ?_
  rw[Br_lt hi,getE_nat hi]
  rw[List.drop_eq_getElem_cons hi,List.any_cons] at hQ
  refine⟨inB hi,hf _ (List.getElem_mem hi) _ ⟨_,rfl,Br_iff.2 ⟨λq=>?_,λq=>?_⟩⟩⟩
  ·rw[q] at hQ
   refine⟨_,rfl,qcast hQ ?_⟩
   rw[Bool.true_or,decide_eq_true (by omega)]
  ·rw[q] at hQ
   rw[wrap_nat (by omega)]
   exact ih hQ
end
end Go.Proofs.YtgmapdcdmomioaaGreatDoor.Pa
namespace Go.Proofs.YtgmapdcdmomioaaGreatDoor.Pa
open Go Go.Proofs.YtgmapdcdmomioaaGreatDoor.Am
def okTy1(k:Int)(s:Str)(n:Int)(l:Int):Bool:=
 (bif k==1 then(s==[])&&(l==0) else bif k==2 then wVar s&&(l==0) else bif k==3 then(s==[])&&(l==2) else bif k==4 then wLow s&&!(s==[105,110,116]) else false)&&(n==0)
mutual
def okTy:Ty→Bool
 |.mk k s n a=>okTy1 k s n a.length&&okTys a
def okTys:List Ty→Bool
 |[]=>true
 |x::l=>okTy x&&okTys l
end
mutual
def vrTy:Ty→Bool
 |.mk _ s _ a=>decide (s.length<2^40)&&vrTys a
def vrTys:List Ty→Bool
 |[]=>true
 |x::l=>vrTy x&&vrTys l
end
def okPt1(k:Int)(s:Str)(n:Int)(l:Int):Bool:=
 bif k==1 then(s==[])&&((n==0)&&(l==0)) else bif k==2 then wLow s&&((n==0)&&(l==0)) else bif k==3 then(s==[])&&(inI n&&(l==0)) else bif k==4 then wUp s&&(n==0) else false
mutual
def okPt:Pt→Bool
 |.mk k s n a _=>okPt1 k s n a.length&&okPts a
def okPts:List Pt→Bool
 |[]=>true
 |x::l=>okPt x&&okPts l
end
def le8(n:Int):Bool:=decide (n≤8)
def gt8(n:Int):Bool:=decide (8<n)
mutual
def nwPt:Pt→Bool
 |.mk _ _ _ a _=>le8 a.length&&nwPts a
def nwPts:List Pt→Bool
 |[]=>true
 |x::l=>nwPt x&&nwPts l
end
mutual
def flPt:Pt→Bool
 |.mk k _ _ a _=>((k==4)&&gt8 a.length)||flPts a
def flPts:List Pt→Bool
 |[]=>false
 |x::l=>flPt x||flPts l
end
theorem okTys_any(xs:List Dat):xs.any (λy=>!okTy (absTy y))=!okTys (xs.map absTy):=by induction xs with
 |nil=>rfl
 |cons x xs ih=>simp[okTys,ih]
theorem okPts_any(xs:List Dat):xs.any (λy=>!okPt (absPt y))=!okPts (xs.map absPt):=by induction xs with
 |nil=>rfl
 |cons x xs ih=>simp[okPts,ih]
theorem nwPts_any(xs:List Dat):xs.any (λy=>!nwPt (absPt y))=!nwPts (xs.map absPt):=by induction xs with
 |nil=>rfl
 |cons x xs ih=>simp[nwPts,ih]
theorem vrTys_mem{l:List Ty}(h:vrTys l=true):∀t∈l,vrTy t=true:=by induction l with
 |nil=>intro t ht;cases ht
 |cons x l ih=>
  simp only[vrTys,Bool.and_eq_true] at h
  intro t ht
  rcases List.mem_cons.1 ht with rfl|ht
  ·exact h.1
  ·exact ih h.2 t ht
theorem absTyA_len(x:Dat):(absTyA x).length=(elsOf x).length:=by rw[absTyA_map,List.length_map]
theorem absPtA_len(x:Dat):(absPtA x).length=(elsOf x).length:=by rw[absPtA_map,List.length_map]
theorem absExA_len(x:Dat):(absExA x).length=(elsOf x).length:=by rw[absExA_map,List.length_map]
theorem typeOf_ok:∀(k:Nat) (x:Dat) (g:Glob),SizeOf.sizeOf x<k→HasTy TT 94 x→vrTy (absTy x)=true→∀(Qf:OGP),Qf (.val (.d (.bool (okTy (absTy x))))) g→EvF TT 139 [x] g Qf
 |0,x,g,hk,_,_=>by omega
 |k+1,x,g,hk,hx,hv=>by
  intro Qf hQ
  refine w139 hx ?_
  obtain⟨k1,s1,v1,a1,rfl,hs1,t1⟩:=type_ty hx
  simp only[absTy,okTy,absTyA_len] at hQ
  simp only[absTy,vrTy,Bool.and_eq_true,decide_eq_true_eq] at hv
  have ex:=t1.els undTypes
  have hc:=sizeOf_cell (cs:=[.int .i64 k1,.str s1,.int .i64 v1,a1]) (c:=a1) (by simp)
  simp only[fld,nth,intOf,strOf]
  have tail:Qf (.val (.d (.bool (okTys (absTyA a1))))) g→EvF TT 137 [a1,.clo 202 []] g (KQ Qf λv g'=>∃b,v=Val.d (.bool b)∧Qf (.val (.d (.bool !b))) g'):=λh=>
   containsTypes_ok (p:=λy=>!okTy (absTy y)) t1 (λy hy Q q=>by
    obtain⟨i,hi,rfl⟩:=List.getElem_of_mem hy
    have hsz:=sizeOf_el hi
    exact w202 (ex.2 _ hy) (typeOf_ok k _ g (by omega) (ex.2 _ hy) (vrTys_mem (by rw[absTyA_map] at hv;exact hv.2) _ (List.mem_map.2 ⟨_,hy,rfl⟩)) _ ⟨_,rfl,q⟩)) ⟨_,rfl,qcast h (by rw[okTys_any,Bool.not_not,absTyA_map])⟩
  repeat' (first
   |refine Br_iff.2 ⟨λq=>?_,λq=>?_⟩
   |refine wordVar_ok hv.1 ⟨_,rfl,?_⟩
   |refine wordLow_ok hs1 ⟨_,rfl,?_⟩
   |refine tail ?_)
  all_goals (refine qcast hQ ?_;simp_all[okTy1])
theorem rType_ok:∀(k:Nat) (x:Dat) (g:Glob) (l:Nat),SizeOf.sizeOf x<k→HasTy TT 94 x→ndTy (absTy x)≤l→l≤2^30→∀(Qf:OGP),Qf (.val (.d (.int .i64 (bif okTy (absTy x) then((l-ndTy (absTy x):Nat):Int) else -1)))) g→EvF TT 75 [x,.int .i64 (l:Int)] g Qf
 |0,x,g,l,hk,_,_,_=>by omega
 |k+1,x,g,l,hk,hx,hn,hl=>by
  intro Qf hQ
  refine w75 hx ?_
  obtain⟨k1,s1,v1,a1,rfl,hs1,t1⟩:=type_ty hx
  have ex:=t1.els undTypes
  have exl:=ex.1.1
  have hc:=sizeOf_cell (cs:=[.int .i64 k1,.str s1,.int .i64 v1,a1]) (c:=a1) (by simp)
  simp only[absTy,okTy,absTyA_len,ndTy] at hQ hn
  obtain⟨l,rfl⟩:∃m,l=m+1:=⟨l-1,by omega⟩
  have hw:IntKind.i64.wrap (((l+1:Nat):Int)-1)=(l:Int):=by rw[wrap_id (by omega) (by omega)];omega
  rw[hw]
  have rest:okTy1 k1 s1 v1 ((elsOf a1).length:Int)=true→L75_17 (l:Int) 0 (.agg [.int .i64 k1,.str s1,.int .i64 v1,a1]) g Qf:=by
   intro h1
   rw[h1,Bool.true_and] at hQ
   have hQ:Qf (.val (.d (.int .i64 (bif okTys (((elsOf a1).drop 0).map absTy) then((l-ndTys (((elsOf a1).drop 0).map absTy):Nat):Int) else -1)))) g:=by
    rw[List.drop_zero,←absTyA_map]
    refine qint hQ ?_
    cases okTys (absTyA a1)
    ·rfl
    ·simp only[cond_true];omega
   refine loopUp (len:=(elsOf a1).length) (λi=>∀m:Nat,m≤2^30→ndTys (((elsOf a1).drop i).map absTy)≤m→Qf (.val (.d (.int .i64 (bif okTys (((elsOf a1).drop i).map absTy) then((m-ndTys (((elsOf a1).drop i).map absTy):Nat):Int) else -1)))) g→L75_17 (m:Int) (i:Int) (.agg [.int .i64 k1,.str s1,.int .i64 v1,a1]) g Qf) ?_ ?_ 0 (Nat.zero_le _) l (by omega) (by rw[List.drop_zero,←absTyA_map];omega) hQ
   ·intro m _ _ hQ
    refine w75_17 ?_
    rw[show(fld (Dat.agg [.int .i64 k1,.str s1,.int .i64 v1,a1]) 3)=a1 from rfl,Br_ge]
    rw[List.drop_length] at hQ
    exact hQ
   ·intro i hi ih m hm hnm hQ
    refine w75_17 ?_
    rw[show(fld (Dat.agg [.int .i64 k1,.str s1,.int .i64 v1,a1]) 3)=a1 from rfl,Br_lt hi,getE_nat hi,show decide ((0:Int)≤(m:Int))=true from decide_eq_true (by omega),Br_true]
    have hsz:=sizeOf_el hi
    rw[ndTys_drop hi] at hnm hQ
    rw[List.drop_eq_getElem_cons hi,List.map_cons,okTys] at hQ
    refine⟨inB hi,rType_ok k _ g m (by omega) (ex.2 _ (List.getElem_mem hi)) (by omega) hm _ ⟨_,rfl,?_⟩⟩
    rw[wrap_nat (by omega)]
    cases ho:okTy (absTy (elsOf a1)[i]) with
    |true=>
     rw[ho] at hQ
     simp only[cond_true,Bool.true_and] at hQ⊢
     refine ih _ (by omega) (by omega) (qint hQ ?_)
     cases okTys (((elsOf a1).drop (i+1)).map absTy)
     ·rfl
     ·simp only[cond_true];omega
    |false=>
     rw[ho] at hQ
     simp only[cond_false,Bool.false_and] at hQ⊢
     refine w75_17 (Br_iff.2 ⟨λ_=>?_,λ_=>hQ⟩)
     exact hQ
  have bad:okTy1 k1 s1 v1 ((elsOf a1).length:Int)=false→Qf (.val (.d (.int .i64 (-1)))) g:=λh=>by
   rw[h] at hQ
   exact hQ
  simp only[fld,nth,intOf,strOf]
  refine Br_iff.2 ⟨λq=>absurd (of_decide_eq_true q) (by omega),λ_=>?_⟩
  repeat' (first
   |refine Br_iff.2 ⟨λq=>?_,λq=>?_⟩
   |refine r11Word_ok true hs1 ⟨_,rfl,?_⟩
   |refine r12lowWord_ok hs1 ⟨_,rfl,?_⟩)
  all_goals first
   |(refine rest ?_;simp_all[okTy1,wVar])
   |(refine bad ?_;simp_all[okTy1,wVar])
theorem patOf_ok:∀(k:Nat) (x:Dat) (g:Glob),SizeOf.sizeOf x<k→HasTy TT 127 x→∀(Qf:OGP),Qf (.val (.d (.bool (okPt (absPt x))))) g→EvF TT 132 [x] g Qf
 |0,x,g,hk,_=>by omega
 |k+1,x,g,hk,hx=>by
  intro Qf hQ
  refine w132 hx ?_
  obtain⟨k1,s1,v1,a1,p1,rfl,hs1,t1⟩:=pat_ty hx
  simp only[absPt,okPt,absPtA_len] at hQ
  have ex:=t1.els undPats
  have hc:=sizeOf_cell (cs:=[.int .i64 k1,.str s1,.int .i64 v1,a1,.int .i64 p1]) (c:=a1) (by simp)
  simp only[fld,nth,intOf,strOf]
  have tail:Qf (.val (.d (.bool (okPts (absPtA a1))))) g→EvF TT 130 [a1,.clo 198 []] g (KQ Qf λv g'=>∃b,v=Val.d (.bool b)∧Qf (.val (.d (.bool !b))) g'):=λh=>
   containsPats_ok (p:=λy=>!okPt (absPt y)) t1 (λy hy Q q=>by
    obtain⟨i,hi,rfl⟩:=List.getElem_of_mem hy
    have hsz:=sizeOf_el hi
    exact w198 (ex.2 _ hy) (patOf_ok k _ g (by omega) (ex.2 _ hy) _ ⟨_,rfl,q⟩)) ⟨_,rfl,qcast h (by rw[okPts_any,Bool.not_not,absPtA_map])⟩
  repeat' (first
   |refine Br_iff.2 ⟨λq=>?_,λq=>?_⟩
   |refine wordLow_ok hs1 ⟨_,rfl,?_⟩
   |refine wordUp_ok hs1 ⟨_,rfl,?_⟩
   |refine intsIn_ok ⟨_,rfl,?_⟩
   |refine tail ?_)
  all_goals (refine qcast hQ ?_;simp_all[okPt1])
theorem rPat_ok:∀(k:Nat) (x:Dat) (g:Glob),SizeOf.sizeOf x<k→HasTy TT 127 x→∀(Qf:OGP),Qf (.val (.d (.bool (okPt (absPt x))))) g→EvF TT 142 [x] g Qf
 |0,x,g,hk,_=>by omega
 |k+1,x,g,hk,hx=>by
  intro Qf hQ
  refine w142 hx ?_
  obtain⟨k1,s1,v1,a1,p1,rfl,hs1,t1⟩:=pat_ty hx
  simp only[absPt,okPt,absPtA_len] at hQ
  have ex:=t1.els undPats
  have exl:=ex.1.1
  have hc:=sizeOf_cell (cs:=[.int .i64 k1,.str s1,.int .i64 v1,a1,.int .i64 p1]) (c:=a1) (by simp)
  simp only[fld,nth,intOf,strOf]
  have rest:∀b:Bool,b=okPt1 k1 s1 v1 ((elsOf a1).length:Int)→L142_12 b 0 (.agg [.int .i64 k1,.str s1,.int .i64 v1,a1,.int .i64 p1]) g Qf:=by
   intro b hb
   rw[←hb,absPtA_map] at hQ
   refine loopUp (len:=(elsOf a1).length) (λi=>∀b:Bool,Qf (.val (.d (.bool (b&&okPts (((elsOf a1).drop i).map absPt))))) g→L142_12 b (i:Int) (.agg [.int .i64 k1,.str s1,.int .i64 v1,a1,.int .i64 p1]) g Qf) ?_ ?_ 0 (Nat.zero_le _) b hQ
   ·intro b hQ
    refine w142_12 ?_
    rw[show(fld (Dat.agg [.int .i64 k1,.str s1,.int .i64 v1,a1,.int .i64 p1]) 3)=a1 from rfl,Br_ge]
    rw[List.drop_length] at hQ
    exact qcast hQ (by simp[okPts])
   ·intro i hi ih b hQ
    refine w142_12 ?_
    rw[show(fld (Dat.agg [.int .i64 k1,.str s1,.int .i64 v1,a1,.int .i64 p1]) 3)=a1 from rfl,Br_lt hi,getE_nat hi]
    have hsz:=sizeOf_el hi
    rw[List.drop_eq_getElem_cons hi,List.map_cons,okPts] at hQ
    cases b with
    |false=>exact hQ
    |true=>
     refine⟨inB hi,rPat_ok k _ g (by omega) (ex.2 _ (List.getElem_mem hi)) _ ⟨_,rfl,?_⟩⟩
     rw[wrap_nat (by omega)]
     exact ih _ hQ
  repeat' (first
   |refine Br_iff.2 ⟨λq=>?_,λq=>?_⟩
   |refine r12lowWord_ok hs1 ⟨_,rfl,?_⟩
   |refine r12upWord_ok hs1 ⟨_,rfl,?_⟩
   |refine r10In_ok ⟨_,rfl,?_⟩)
  all_goals (refine rest _ ?_;simp_all[okPt1])
theorem patNarrow_ok:∀(k:Nat) (x:Dat) (g:Glob),SizeOf.sizeOf x<k→HasTy TT 127 x→∀(Qf:OGP),Qf (.val (.d (.bool (nwPt (absPt x))))) g→EvF TT 184 [x] g Qf
 |0,x,g,hk,_=>by omega
 |k+1,x,g,hk,hx=>by
  intro Qf hQ
  refine w184 hx ?_
  obtain⟨k1,s1,v1,a1,p1,rfl,hs1,t1⟩:=pat_ty hx
  simp only[absPt,nwPt,absPtA_len] at hQ
  have ex:=t1.els undPats
  have hc:=sizeOf_cell (cs:=[.int .i64 k1,.str s1,.int .i64 v1,a1,.int .i64 p1]) (c:=a1) (by simp)
  simp only[fld,nth,intOf,strOf]
  refine Br_iff.2 ⟨λq=>?_,λq=>?_⟩
  ·rw[show le8 _=true from q,Bool.true_and] at hQ
   exact containsPats_ok (p:=λy=>!nwPt (absPt y)) t1 (λy hy Q q=>by
    obtain⟨i,hi,rfl⟩:=List.getElem_of_mem hy
    have hsz:=sizeOf_el hi
    exact w215 (ex.2 _ hy) (patNarrow_ok k _ g (by omega) (ex.2 _ hy) _ ⟨_,rfl,q⟩)) ⟨_,rfl,qcast hQ (by rw[nwPts_any,Bool.not_not,absPtA_map])⟩
  ·rw[show le8 _=false from q,Bool.false_and] at hQ
   exact hQ
theorem fullPat_ok:∀(k:Nat) (x:Dat) (g:Glob),SizeOf.sizeOf x<k→HasTy TT 127 x→∀(Qf:OGP),Qf (.val (.d (.bool (flPt (absPt x))))) g→EvF TT 192 [x] g Qf
 |0,x,g,hk,_=>by omega
 |k+1,x,g,hk,hx=>by
  intro Qf hQ
  refine w192 hx ?_
  obtain⟨k1,s1,v1,a1,p1,rfl,hs1,t1⟩:=pat_ty hx
  simp only[absPt,flPt,absPtA_len] at hQ
  have ex:=t1.els undPats
  have exl:=ex.1.1
  have hc:=sizeOf_cell (cs:=[.int .i64 k1,.str s1,.int .i64 v1,a1,.int .i64 p1]) (c:=a1) (by simp)
  simp only[fld,nth,intOf,strOf]
  have rest:((k1==4)&&gt8 ((elsOf a1).length:Int))=false→L192_4 0 (.agg [.int .i64 k1,.str s1,.int .i64 v1,a1,.int .i64 p1]) g Qf:=by
   intro hb
   rw[hb,Bool.false_or,absPtA_map] at hQ
   refine loopUp (len:=(elsOf a1).length) (λi=>Qf (.val (.d (.bool (flPts (((elsOf a1).drop i).map absPt))))) g→L192_4 (i:Int) (.agg [.int .i64 k1,.str s1,.int .i64 v1,a1,.int .i64 p1]) g Qf) ?_ ?_ 0 (Nat.zero_le _) hQ
   ·intro hQ
    refine w192_4 ?_
    rw[show(fld (Dat.agg [.int .i64 k1,.str s1,.int .i64 v1,a1,.int .i64 p1]) 3)=a1 from rfl,Br_ge]
    rw[List.drop_length] at hQ
    exact hQ
   ·intro i hi ih hQ
    refine w192_4 ?_
    rw[show(fld (Dat.agg [.int .i64 k1,.str s1,.int .i64 v1,a1,.int .i64 p1]) 3)=a1 from rfl,Br_lt hi,getE_nat hi]
    have hsz:=sizeOf_el hi
    rw[List.drop_eq_getElem_cons hi,List.map_cons,flPts] at hQ
    refine⟨inB hi,fullPat_ok k _ g (by omega) (ex.2 _ (List.getElem_mem hi)) _ ⟨_,rfl,Br_iff.2 ⟨λq=>?_,λq=>?_⟩⟩⟩
    ·rw[q] at hQ;exact hQ
    ·rw[q,Bool.false_or] at hQ
     rw[wrap_nat (by omega)]
     exact ih hQ
  refine Br_iff.2 ⟨λq=>Br_iff.2 ⟨λq'=>?_,λq'=>?_⟩,λq=>?_⟩
  ·rw[q,show gt8 _=true from q'] at hQ;exact hQ
  ·exact rest (by rw[q,show gt8 _=false from q'];rfl)
  ·exact rest (by rw[q];rfl)
theorem okPt_arg{k:Int}{s:Str}{n:Int}{a:List Pt}{p:Int}(h:okPt1 k s n a.length=true):k=4∨a=[]:=by
 unfold okPt1 at h
 by_cases h4:k=4
 ·exact .inl h4
 ·refine .inr (List.eq_nil_of_length_eq_zero ?_)
  rw[show(k==4)=false by simpa using h4] at h
  cases h1:(k==1)<;>cases h2:(k==2)<;>cases h3:(k==3)<;>rw[h1,h2,h3] at h<;>simp at h<;>simp[h]
mutual
theorem nw_fl:∀x:Pt,okPt x=true→nwPt x=!flPt x
 |.mk k s n a p=>λh=>by
  simp only[okPt,Bool.and_eq_true] at h
  have ih:=nws_fls a h.2
  simp only[nwPt,flPt,ih]
  rcases okPt_arg (p:=p) h.1 with rfl|rfl
  ·rw[show(((4:Int)==4))=true from rfl,Bool.true_and,Bool.not_or]
   congr 1
   unfold le8 gt8
   by_cases hl:(a.length:Int)≤8
   ·rw[decide_eq_true hl,decide_eq_false (by omega)];rfl
   ·rw[decide_eq_false hl,decide_eq_true (by omega)];rfl
  ·simp[flPts,le8,gt8]
theorem nws_fls:∀l:List Pt,okPts l=true→nwPts l=!flPts l
 |[]=>λ_=>rfl
 |x::l=>λh=>by
  simp only[okPts,Bool.and_eq_true] at h
  simp only[nwPts,flPts,nw_fl x h.1,nws_fls l h.2,Bool.not_or]
end
end Go.Proofs.YtgmapdcdmomioaaGreatDoor.Pa
namespace Go.Proofs.YtgmapdcdmomioaaGreatDoor.Pa
open Go Go.Proofs.YtgmapdcdmomioaaGreatDoor.Am
def pos0(n:Int):Bool:=decide (0<n)
def okEx1(k:Int)(s r:Str)(n la lb:Int):Bool:=
 bif (!(k==6)&&!(r==[]))||((!(k==2)&&!(n==0))||(!(k==7)&&pos0 lb)) then false
 else bif k==1 then wLow s&&(la==0) else bif k==2 then(s==[])&&(inI n&&(la==0)) else bif k==3 then wLow s&&(la==1) else bif k==4 then(s==[])&&(la==2)
 else bif k==5 then wLow s&&(la==2) else bif k==6 then wLow s&&(wLow r&&(la==2)) else bif k==7 then(s==[])&&(pos0 lb&&(la==lb+1)) else bif k==8 then wUp s
 else bif k==9 then pos0 (opN s)&&(la==2) else bif k==10 then(s==[])&&(la==1) else false
def namedP(k:Int)(s r:Str)(n lb:Int):Bool:=
 bif k==1 then wLow s else bif k==3 then wLow s else bif k==5 then wLow s else bif k==6 then wLow s&&wLow r else bif k==2 then inI n else bif k==7 then pos0 lb else bif k==8 then wUp s else bif k==9 then pos0 (opN s) else true
mutual
def okEx:Ex'→Bool
 |.mk k s r n a b _=>okEx1 k s r n a.length b.length&&(okPts b&&okExs a)
def okExs:List Ex'→Bool
 |[]=>true
 |x::l=>okEx x&&okExs l
end
mutual
def nwEx:Ex'→Bool
 |.mk k _ _ _ a b _=>!((k==8)&&gt8 a.length)&&(nwPts b&&nwExs a)
def nwExs:List Ex'→Bool
 |[]=>true
 |x::l=>nwEx x&&nwExs l
end
mutual
def flEx:Ex'→Bool
 |.mk k _ _ _ a b _=>((k==8)&&gt8 a.length)||(flPts b||flExs a)
def flExs:List Ex'→Bool
 |[]=>false
 |x::l=>flEx x||flExs l
end
theorem okExs_any(xs:List Dat):xs.any (λy=>!okEx (absEx y))=!okExs (xs.map absEx):=by induction xs with
 |nil=>rfl
 |cons x xs ih=>simp[okExs,ih]
theorem nwExs_any(xs:List Dat):xs.any (λy=>!nwEx (absEx y))=!nwExs (xs.map absEx):=by induction xs with
 |nil=>rfl
 |cons x xs ih=>simp[nwExs,ih]
theorem opN_nonneg(s:Str):0≤opN s:=by
 have:∀(l:List Str) (i:Int),0≤i→0≤ixF s l i:=by
  intro l
  induction l with
  |nil=>intro i _;exact Int.le_refl _
  |cons x l ih=>
   intro i hi
   simp only[ixF]
   cases (x==s)
   ·exact ih _ (by omega)
   ·exact hi
 exact this _ _ (by omega)
theorem opN_ne(s:Str):(opN s !=0)=pos0 (opN s):=by
 have:=opN_nonneg s
 unfold pos0
 rw[Bool.eq_iff_iff,bne_iff_ne,decide_eq_true_eq]
 omega
theorem named_ok(x:Dat)(g:Glob)(k1 v1 p1:Int)(s1 r1:Str)(a1 b1:Dat)(hx:x=.agg [.int .i64 k1,.str s1,.str r1,.int .i64 v1,a1,b1,.int .i64 p1])(ht:HasTy TT 27 x)(hs1:s1.length≤2^40)(hr1:r1.length≤2^40)(Qf:OGP)(hQ:Qf (.val (.d (.bool (namedP k1 s1 r1 v1 ((elsOf b1).length:Int))))) g):EvF TT 129 [x] g Qf:=by
 refine w129 ht ?_
 subst hx
 simp only[fld,nth,intOf,strOf]
 repeat' (first
  |refine Br_iff.2 ⟨λq=>?_,λq=>?_⟩
  |refine wordLow_ok hs1 ⟨_,rfl,?_⟩
  |refine wordLow_ok hr1 ⟨_,rfl,?_⟩
  |refine wordUp_ok hs1 ⟨_,rfl,?_⟩
  |refine intsIn_ok ⟨_,rfl,?_⟩
  |refine intsOp_ok hs1 ⟨_,rfl,?_⟩)
 all_goals (refine qcast hQ ?_;simp_all[namedP,opN_ne];try (simp[pos0]))
theorem exprOf_ok:∀(k:Nat) (x:Dat) (g:Glob),SizeOf.sizeOf x<k→HasTy TT 27 x→∀(Qf:OGP),Qf (.val (.d (.bool (okEx (absEx x))))) g→EvF TT 67 [x] g Qf
 |0,x,g,hk,_=>by omega
 |k+1,x,g,hk,hx=>by
  intro Qf hQ
  refine w67 hx ?_
  obtain⟨k1,s1,r1,v1,a1,b1,p1,rfl,hs1,hr1,t1,u1⟩:=expr_ty hx
  simp only[absEx,okEx,absExA_len,absPtA_len] at hQ
  have ex:=t1.els undExprs
  have exl:=ex.1.1
  have eu:=u1.els undPats
  have eul:=eu.1.1
  have hc:=sizeOf_cell (cs:=[.int .i64 k1,.str s1,.str r1,.int .i64 v1,a1,b1,.int .i64 p1]) (c:=a1) (by simp)
  have hw:IntKind.i64.wrap (((elsOf b1).length:Int)+1)=((elsOf b1).length:Int)+1:=wrap_id (by omega) (by omega)
  have hl0:((([]:List Dat).length:Nat):Int)=0:=rfl
  have tail:(namedP k1 s1 r1 v1 ((elsOf b1).length:Int)=true→Qf (.val (.d (.bool (okPts (absPtA b1)&&okExs (absExA a1))))) g)→(namedP k1 s1 r1 v1 ((elsOf b1).length:Int)=false→Qf (.val (.d (.bool false))) g)→
   EvF TT 129 [.agg [.int .i64 k1,.str s1,.str r1,.int .i64 v1,a1,b1,.int .i64 p1]] g (KQ Qf λv g'=>∃b,v=Val.d (.bool b)∧Br (!b) (Qf (.val (.d (.bool false))) g') (EvF TT 130 [b1,.clo 131 []] g' (KQ Qf λv g'=>∃b,v=Val.d (.bool b)∧Br (!b) (EvF TT 133 [a1,.clo 134 []] g' (KQ Qf λv g'=>∃b,v=Val.d (.bool b)∧Qf (.val (.d (.bool !b))) g')) (Qf (.val (.d (.bool false))) g')))):=by
   intro h1 h2
   refine named_ok _ g k1 v1 p1 s1 r1 a1 b1 rfl hx hs1 hr1 _ ⟨_,rfl,Br_iff.2 ⟨λq=>h2 (by simpa using q),λq=>?_⟩⟩
   have h1:=h1 (by simpa using q)
   refine containsPats_ok (p:=λy=>!okPt (absPt y)) u1 (λy hy Q q=>w131 (eu.2 _ hy) (patOf_ok _ y g (Nat.lt_succ_self _) (eu.2 _ hy) _ ⟨_,rfl,q⟩)) ⟨_,rfl,?_⟩
   rw[okPts_any,Bool.not_not,←absPtA_map]
   refine Br_iff.2 ⟨λq=>?_,λq=>?_⟩
   ·rw[q,Bool.true_and] at h1
    exact containsExprs_ok (p:=λy=>!okEx (absEx y)) t1 (λy hy Q q=>by
     obtain⟨i,hi,rfl⟩:=List.getElem_of_mem hy
     have hsz:=sizeOf_el hi
     exact w134 (ex.2 _ hy) (exprOf_ok k _ g (by omega) (ex.2 _ hy) _ ⟨_,rfl,q⟩)) ⟨_,rfl,qcast h1 (by rw[okExs_any,Bool.not_not,absExA_map])⟩
   ·rw[q,Bool.false_and] at h1
    exact h1
  have hla:∀n:Int,n=((elsOf a1).length:Int)→¬n=-1:=λn h=>by omega
  have hlb:((elsOf b1).length:Int)=0∨0<((elsOf b1).length:Int):=by omega
  simp only[fld,nth,intOf,strOf,hw,hl0]
  generalize hA:((elsOf a1).length:Int)=A at*
  generalize hB:((elsOf b1).length:Int)=B at*
  have hA0:=hla A rfl
  clear hla hA hB hw hl0 exl eul
  repeat' (first
   |refine Br_iff.2 ⟨λq=>?_,λq=>?_⟩
   |refine tail (λh=>?_) (λh=>?_))
  all_goals (clear tail;refine qcast hQ ?_;clear hQ)
  all_goals (rcases hlb with rfl|hlb)
  all_goals first
   |(simp_all[okEx1,namedP,pos0];done)
   |(simp_all[okEx1,namedP,pos0];intro h';omega)
theorem rNamed_ok(x:Dat)(g:Glob)(k1 v1 p1:Int)(s1 r1:Str)(a1 b1:Dat)(hx:x=.agg [.int .i64 k1,.str s1,.str r1,.int .i64 v1,a1,b1,.int .i64 p1])(ht:HasTy TT 27 x)(hs1:s1.length≤2^40)(hr1:r1.length≤2^40)(hl:(elsOf b1).length≤2^40)(Qf:OGP)(hQ:Qf (.val (.d (.bool (okEx1 k1 s1 r1 v1 ((elsOf a1).length:Int) ((elsOf b1).length:Int))))) g):EvF TT 141 [x] g Qf:=by
 refine w141 ht ?_
 subst hx
 have hw:IntKind.i64.wrap (((elsOf b1).length:Int)+1)=((elsOf b1).length:Int)+1:=wrap_id (by omega) (by omega)
 simp only[fld,nth,intOf,strOf,hw]
 clear hw hl ht
 repeat' (first
  |refine Br_iff.2 ⟨λq=>?_,λq=>?_⟩
  |refine r12lowWord_ok hs1 ⟨_,rfl,?_⟩
  |refine r12lowWord_ok hr1 ⟨_,rfl,?_⟩
  |refine r12upWord_ok hs1 ⟨_,rfl,?_⟩
  |refine r10In_ok ⟨_,rfl,?_⟩
  |refine r10Op_ok hs1 ⟨_,rfl,?_⟩)
 all_goals (clear hs1 hr1;refine qcast hQ ?_;clear hQ;simp_all[okEx1,pos0];try (intro h';omega))
theorem rExpr_ok:∀(k:Nat) (x:Dat) (g:Glob),SizeOf.sizeOf x<k→HasTy TT 27 x→∀(Qf:OGP),Qf (.val (.d (.bool (okEx (absEx x))))) g→EvF TT 76 [x] g Qf
 |0,x,g,hk,_=>by omega
 |k+1,x,g,hk,hx=>by
  intro Qf hQ
  refine w76 hx ?_
  obtain⟨k1,s1,r1,v1,a1,b1,p1,rfl,hs1,hr1,t1,u1⟩:=expr_ty hx
  simp only[absEx,okEx,absExA_len,absPtA_len] at hQ
  have ex:=t1.els undExprs
  have exl:=ex.1.1
  have eu:=u1.els undPats
  have eul:=eu.1.1
  have hc:=sizeOf_cell (cs:=[.int .i64 k1,.str s1,.str r1,.int .i64 v1,a1,b1,.int .i64 p1]) (c:=a1) (by simp)
  refine rNamed_ok _ g k1 v1 p1 s1 r1 a1 b1 rfl hx hs1 hr1 eul _ ⟨_,rfl,Br_iff.2 ⟨λq=>?_,λq=>?_⟩⟩
  ·rw[show okEx1 k1 s1 r1 v1 ((elsOf a1).length:Int) ((elsOf b1).length:Int)=false by simpa using q] at hQ
   exact hQ
  ·rw[show okEx1 k1 s1 r1 v1 ((elsOf a1).length:Int) ((elsOf b1).length:Int)=true by simpa using q,Bool.true_and,absPtA_map,absExA_map] at hQ
   have args:Qf (.val (.d (.bool (okExs ((elsOf a1).map absEx))))) g→L76_9 0 (.agg [.int .i64 k1,.str s1,.str r1,.int .i64 v1,a1,b1,.int .i64 p1]) g Qf:=by
    refine loopUp (len:=(elsOf a1).length) (λi=>Qf (.val (.d (.bool (okExs (((elsOf a1).drop i).map absEx))))) g→L76_9 (i:Int) (.agg [.int .i64 k1,.str s1,.str r1,.int .i64 v1,a1,b1,.int .i64 p1]) g Qf) ?_ ?_ 0 (Nat.zero_le _)
    ·intro hQ
     refine w76_9 ?_
     rw[show(fld (Dat.agg [.int .i64 k1,.str s1,.str r1,.int .i64 v1,a1,b1,.int .i64 p1]) 4)=a1 from rfl,Br_ge]
     rw[List.drop_length] at hQ
     exact hQ
    ·intro i hi ih hQ
     refine w76_9 ?_
     rw[show(fld (Dat.agg [.int .i64 k1,.str s1,.str r1,.int .i64 v1,a1,b1,.int .i64 p1]) 4)=a1 from rfl,Br_lt hi,getE_nat hi]
     have hsz:=sizeOf_el hi
     rw[List.drop_eq_getElem_cons hi,List.map_cons,okExs] at hQ
     refine⟨inB hi,rExpr_ok k _ g (by omega) (ex.2 _ (List.getElem_mem hi)) _ ⟨_,rfl,Br_iff.2 ⟨λq=>?_,λq=>?_⟩⟩⟩
     ·rw[show okEx (absEx (elsOf a1)[i])=false by simpa using q] at hQ;exact hQ
     ·rw[show okEx (absEx (elsOf a1)[i])=true by simpa using q,Bool.true_and] at hQ
      rw[wrap_nat (by omega)]
      exact ih hQ
   refine loopUp (len:=(elsOf b1).length) (λi=>Qf (.val (.d (.bool (okPts (((elsOf b1).drop i).map absPt)&&okExs ((elsOf a1).map absEx))))) g→L76_4 (i:Int) (.agg [.int .i64 k1,.str s1,.str r1,.int .i64 v1,a1,b1,.int .i64 p1]) g Qf) ?_ ?_ 0 (Nat.zero_le _) hQ
   ·intro hQ
    refine w76_4 ?_
    rw[show(fld (Dat.agg [.int .i64 k1,.str s1,.str r1,.int .i64 v1,a1,b1,.int .i64 p1]) 5)=b1 from rfl,Br_ge]
    rw[List.drop_length] at hQ
    exact args hQ
   ·intro i hi ih hQ
    refine w76_4 ?_
    rw[show(fld (Dat.agg [.int .i64 k1,.str s1,.str r1,.int .i64 v1,a1,b1,.int .i64 p1]) 5)=b1 from rfl,Br_lt hi,getE_nat hi]
    rw[List.drop_eq_getElem_cons hi,List.map_cons,okPts] at hQ
    refine⟨inB hi,rPat_ok _ _ g (Nat.lt_succ_self _) (eu.2 _ (List.getElem_mem hi)) _ ⟨_,rfl,Br_iff.2 ⟨λq=>?_,λq=>?_⟩⟩⟩
    ·rw[show okPt (absPt (elsOf b1)[i])=false by simpa using q] at hQ;exact hQ
    ·rw[show okPt (absPt (elsOf b1)[i])=true by simpa using q,Bool.true_and] at hQ
     rw[wrap_nat (by omega)]
     exact ih hQ
theorem narrow_ok:∀(k:Nat) (x:Dat) (g:Glob),SizeOf.sizeOf x<k→HasTy TT 27 x→∀(Qf:OGP),Qf (.val (.d (.bool (nwEx (absEx x))))) g→EvF TT 103 [x] g Qf
 |0,x,g,hk,_=>by omega
 |k+1,x,g,hk,hx=>by
  intro Qf hQ
  refine w103 hx ?_
  obtain⟨k1,s1,r1,v1,a1,b1,p1,rfl,hs1,hr1,t1,u1⟩:=expr_ty hx
  simp only[absEx,nwEx,absExA_len,absPtA_len] at hQ
  have ex:=t1.els undExprs
  have eu:=u1.els undPats
  have hc:=sizeOf_cell (cs:=[.int .i64 k1,.str s1,.str r1,.int .i64 v1,a1,b1,.int .i64 p1]) (c:=a1) (by simp)
  simp only[fld,nth,intOf,strOf]
  have tail:Qf (.val (.d (.bool (nwPts (absPtA b1)&&nwExs (absExA a1))))) g→EvF TT 130 [b1,.clo 183 []] g (KQ Qf λv g'=>∃b,v=Val.d (.bool b)∧Br (!b) (EvF TT 133 [a1,.clo 185 []] g' (KQ Qf λv g'=>∃b,v=Val.d (.bool b)∧Qf (.val (.d (.bool !b))) g')) (Qf (.val (.d (.bool false))) g')):=by
   intro h1
   refine containsPats_ok (p:=λy=>!nwPt (absPt y)) u1 (λy hy Q q=>w183 (eu.2 _ hy) (patNarrow_ok _ y g (Nat.lt_succ_self _) (eu.2 _ hy) _ ⟨_,rfl,q⟩)) ⟨_,rfl,?_⟩
   rw[nwPts_any,Bool.not_not,←absPtA_map]
   refine Br_iff.2 ⟨λq=>?_,λq=>?_⟩
   ·rw[q,Bool.true_and] at h1
    exact containsExprs_ok (p:=λy=>!nwEx (absEx y)) t1 (λy hy Q q=>by
     obtain⟨i,hi,rfl⟩:=List.getElem_of_mem hy
     have hsz:=sizeOf_el hi
     exact w185 (ex.2 _ hy) (narrow_ok k _ g (by omega) (ex.2 _ hy) _ ⟨_,rfl,q⟩)) ⟨_,rfl,qcast h1 (by rw[nwExs_any,Bool.not_not,absExA_map])⟩
   ·rw[q,Bool.false_and] at h1
    exact h1
  refine Br_iff.2 ⟨λq=>Br_iff.2 ⟨λq'=>?_,λq'=>?_⟩,λq=>?_⟩
  ·rw[q,show gt8 _=true from q'] at hQ;exact hQ
  ·rw[q,show gt8 _=false from q'] at hQ;exact tail hQ
  ·rw[q] at hQ;exact tail hQ
theorem fullExpr_ok:∀(k:Nat) (x:Dat) (g:Glob),SizeOf.sizeOf x<k→HasTy TT 27 x→∀(Qf:OGP),Qf (.val (.d (.bool (flEx (absEx x))))) g→EvF TT 114 [x] g Qf
 |0,x,g,hk,_=>by omega
 |k+1,x,g,hk,hx=>by
  intro Qf hQ
  refine w114 hx ?_
  obtain⟨k1,s1,r1,v1,a1,b1,p1,rfl,hs1,hr1,t1,u1⟩:=expr_ty hx
  simp only[absEx,flEx,absExA_len,absPtA_len] at hQ
  have ex:=t1.els undExprs
  have exl:=ex.1.1
  have eu:=u1.els undPats
  have eul:=eu.1.1
  have hc:=sizeOf_cell (cs:=[.int .i64 k1,.str s1,.str r1,.int .i64 v1,a1,b1,.int .i64 p1]) (c:=a1) (by simp)
  simp only[fld,nth,intOf,strOf]
  have rest:((k1==8)&&gt8 ((elsOf a1).length:Int))=false→L114_4 0 (.agg [.int .i64 k1,.str s1,.str r1,.int .i64 v1,a1,b1,.int .i64 p1]) g Qf:=by
   intro hb
   rw[hb,Bool.false_or,absPtA_map,absExA_map] at hQ
   have args:Qf (.val (.d (.bool (flExs ((elsOf a1).map absEx))))) g→L114_9 0 (.agg [.int .i64 k1,.str s1,.str r1,.int .i64 v1,a1,b1,.int .i64 p1]) g Qf:=by
    refine loopUp (len:=(elsOf a1).length) (λi=>Qf (.val (.d (.bool (flExs (((elsOf a1).drop i).map absEx))))) g→L114_9 (i:Int) (.agg [.int .i64 k1,.str s1,.str r1,.int .i64 v1,a1,b1,.int .i64 p1]) g Qf) ?_ ?_ 0 (Nat.zero_le _)
    ·intro hQ
     refine w114_9 ?_
     rw[show(fld (Dat.agg [.int .i64 k1,.str s1,.str r1,.int .i64 v1,a1,b1,.int .i64 p1]) 4)=a1 from rfl,Br_ge]
     rw[List.drop_length] at hQ
     exact hQ
    ·intro i hi ih hQ
     refine w114_9 ?_
     rw[show(fld (Dat.agg [.int .i64 k1,.str s1,.str r1,.int .i64 v1,a1,b1,.int .i64 p1]) 4)=a1 from rfl,Br_lt hi,getE_nat hi]
     have hsz:=sizeOf_el hi
     rw[List.drop_eq_getElem_cons hi,List.map_cons,flExs] at hQ
     refine⟨inB hi,fullExpr_ok k _ g (by omega) (ex.2 _ (List.getElem_mem hi)) _ ⟨_,rfl,Br_iff.2 ⟨λq=>?_,λq=>?_⟩⟩⟩
     ·rw[q] at hQ;exact hQ
     ·rw[q,Bool.false_or] at hQ
      rw[wrap_nat (by omega)]
      exact ih hQ
   refine loopUp (len:=(elsOf b1).length) (λi=>Qf (.val (.d (.bool (flPts (((elsOf b1).drop i).map absPt)||flExs ((elsOf a1).map absEx))))) g→L114_4 (i:Int) (.agg [.int .i64 k1,.str s1,.str r1,.int .i64 v1,a1,b1,.int .i64 p1]) g Qf) ?_ ?_ 0 (Nat.zero_le _) hQ
   ·intro hQ
    refine w114_4 ?_
    rw[show(fld (Dat.agg [.int .i64 k1,.str s1,.str r1,.int .i64 v1,a1,b1,.int .i64 p1]) 5)=b1 from rfl,Br_ge]
    rw[List.drop_length] at hQ
    exact args hQ
   ·intro i hi ih hQ
    refine w114_4 ?_
    rw[show(fld (Dat.agg [.int .i64 k1,.str s1,.str r1,.int .i64 v1,a1,b1,.int .i64 p1]) 5)=b1 from rfl,Br_lt hi,getE_nat hi]
    rw[List.drop_eq_getElem_cons hi,List.map_cons,flPts,Bool.or_assoc] at hQ
    refine⟨inB hi,fullPat_ok _ _ g (Nat.lt_succ_self _) (eu.2 _ (List.getElem_mem hi)) _ ⟨_,rfl,Br_iff.2 ⟨λq=>?_,λq=>?_⟩⟩⟩
    ·rw[q] at hQ;exact hQ
    ·rw[q,Bool.false_or] at hQ
     rw[wrap_nat (by omega)]
     exact ih hQ
  refine Br_iff.2 ⟨λq=>Br_iff.2 ⟨λq'=>?_,λq'=>?_⟩,λq=>?_⟩
  ·rw[q,show gt8 _=true from q'] at hQ;exact hQ
  ·exact rest (by rw[q,show gt8 _=false from q'];rfl)
  ·exact rest (by rw[q];rfl)
mutual
theorem nw_flEx:∀x:Ex',okEx x=true→nwEx x=!flEx x
 |.mk k s r n a b p=>λh=>by
  simp only[okEx,Bool.and_eq_true] at h
  simp only[nwEx,flEx,nws_fls b h.2.1,nws_flsEx a h.2.2,Bool.not_or]
theorem nws_flsEx:∀l:List Ex',okExs l=true→nwExs l=!flExs l
 |[]=>λ_=>rfl
 |x::l=>λh=>by
  simp only[okExs,Bool.and_eq_true] at h
  simp only[nwExs,flExs,nw_flEx x h.1,nws_flsEx l h.2,Bool.not_or]
end
end Go.Proofs.YtgmapdcdmomioaaGreatDoor.Pa
