/- A word of a kind, as the program asks it, is what the document says. What functions of the program do, printed by wip/tools/sx/sx.py. Which trees may be: the program's questions. Operations' signs, functions over slices. Which types and patterns may be: the program's tests, the document's. Which expressions may be: the program's tests, the document's. -/
import Derived.Test.YtiheejdkkjfenaaGreatDoorRG
import Derived.Test.YtiheejdkkjfenaaGreatDoorRE
set_option linter.all false
set_option autoImplicit false
set_option maxRecDepth 100000
namespace Go.Proofs.YtiheejdkkjfenaaGreatDoor.Pa
open Go Go.Proofs.YtiheejdkkjfenaaGreatDoor.Am
theorem ruN(p:Int→Bool):∀r:Str,runN p r=r.length↔(r.all λc=>p c.toNat)=true
 |[]=>by simp[runN]
 |c::r=>by
  have ih:=ruN p r;have:=rul p r;unfold runN at*;rw[List.takeWhile_cons,List.all_cons];cases p c.toNat
  ·simp
  ·simp only[if_true,List.length_cons,Bool.true_and,←ih];omega
theorem woF(k:Int)(hk:k≠1)(s:Str):(wF k s).1.1=0∨(wF k s).1.1=k:=by
 unfold wF;split
 ·exact .inl rfl
 ·refine .inr ?_;show(if (k==1&&keB s)=true then(5:Int) else k)=k;rw[show(k==1)=false by simpa using hk];rfl
theorem nuk(s:Str):(nuF s).1.1=0∨(nuF s).1.1=4:=by
 unfold nuF;split
 ·exact .inr rfl
 ·exact .inl rfl
theorem toF(c:UInt8)(r:Str):(smB c.toNat=true∧tokF (c::r)=((wF 1 ((c::r).take (1+runN ptB r))).1,1+runN ptB r,(wF 1 ((c::r).take (1+runN ptB r))).2))∨
 (smB c.toNat=false∧cpB c.toNat=true∧tokF (c::r)=((wF 2 ((c::r).take (1+runN ptB r))).1,1+runN ptB r,(wF 2 ((c::r).take (1+runN ptB r))).2))∨
 (smB c.toNat=false∧cpB c.toNat=false∧((tokF (c::r)).1.1=0∨(tokF (c::r)).1.1=3∨(tokF (c::r)).1.1=4∨(tokF (c::r)).1.1=6)):=by
 cases h1:smB c.toNat with
 |true=>exact .inl ⟨rfl,by simp only[tokF];rw[if_pos h1]⟩
 |false=>
  cases h2:cpB c.toNat with
  |true=>exact .inr (.inl ⟨rfl,rfl,by simp only[tokF];rw[if_neg (by simp[h1]),if_pos h2]⟩)
  |false=>
   refine .inr (.inr ⟨rfl,rfl,?_⟩);simp only[tokF];generalize (c.toNat==39&&_)=b3;rw[if_neg (by simp[h1]),if_neg (by simp[h2])];split
   ·rcases woF 3 (by decide) (r.take (runN ptB r)) with h|h
    ·exact .inl h
    ·exact .inr (.inl h)
   ·split
    ·rcases nuk ((c::r).take (1+runN dgB r)) with h|h
     ·exact .inl h
     ·exact .inr (.inr (.inl h))
    ·split
     ·exact .inr (.inr (.inr rfl))
     ·exact .inl rfl
theorem deF{p:Prop}[Decidable p](h:¬p):decide p=false:=decide_eq_false h
theorem spB(s:Str):spe 1 s=ww s:=by
 cases s with
 |nil=>rfl
 |cons c r=>
  unfold spe;rw[show spl 1 (c::r)=c::r from rfl];simp only[reduceCtorEq,false_or,List.length_cons];unfold ww wB;simp only[cond_true];split
  ·rename_i h;rw[deF (p:=r.length<32) (by omega)];rfl
  ·rename_i h;have hm:=ruN ptB r;rcases toF c r with ⟨h1,h2⟩|⟨h1,h2,h3⟩|⟨h1,h2,h3⟩
   ·rw[h2,h1];cases ha:r.all (λc=>ptB c.toNat) with
    |false=>
     have hne:¬runN ptB r=r.length:=λe=>by rw[hm.1 e] at ha;cases ha
     simp only[Bool.and_false,Bool.false_and];refine deF λhh=>hne ?_;have:=hh.2.1;omega
    |true=>
     have he:=hm.2 ha;rw[he];have ht:(c::r).take (1+r.length)=c::r:=by rw[List.take_of_length_le];simp[Nat.add_comm]
     rw[ht];unfold wF
     by_cases hl:r.length<32
     ·rw[decide_eq_true hl,if_neg (by simp only[List.length_cons];omega)];cases hk:keB (c::r)
      ·simp;omega
      ·simp
     ·rw[deF hl,if_pos (by simp only[List.length_cons];omega)];simp
   ·rw[h1];simp only[Bool.false_and,Bool.and_false];refine deF λhh=>?_;have e:=congrArg (·.1) hh.2.2;rw[h3] at e;rcases woF 2 (by decide) ((c::r).take (1+runN ptB r)) with h|h
    ·have e:(wF 2 ((c::r).take (1+runN ptB r))).1.1=1:=e;omega
    ·have e:(wF 2 ((c::r).take (1+runN ptB r))).1.1=1:=e;omega
   ·rw[h1];simp only[Bool.false_and,Bool.and_false];refine deF λhh=>?_;have e:(tokF (c::r)).1.1=1:=congrArg (·.1) hh.2.2;omega
theorem spu(s:Str):spe 2 s=wUp s:=by
 cases s with
 |nil=>rfl
 |cons c r=>
  unfold spe;rw[show spl 2 (c::r)=c::r from rfl];simp only[reduceCtorEq,false_or,List.length_cons];unfold wUp wB;simp only[cond_false];split
  ·rename_i h;rw[deF (p:=r.length<32) (by omega)];rfl
  ·rename_i h;have hm:=ruN ptB r;rcases toF c r with ⟨h1,h2⟩|⟨h1,h2,h3⟩|⟨h1,h2,h3⟩
   ·have hc:cpB c.toNat=false:=by
     simp only[smB,Bool.and_eq_true,decide_eq_true_eq] at h1;simp only[cpB];rw[deF (p:=(c.toNat:Int)≤90) (by omega),Bool.and_false]
    rw[h2,hc];simp only[Bool.false_and,Bool.and_false];refine deF λhh=>?_;have e:=congrArg (·.1) hh.2.2;unfold wF at e;simp only at e;split at e
    ·simp at e
    ·split at e<;>simp at e
   ·rw[h3,h2];cases ha:r.all (λc=>ptB c.toNat) with
    |false=>
     have hne:¬runN ptB r=r.length:=λe=>by rw[hm.1 e] at ha;cases ha
     simp only[Bool.and_false,Bool.false_and];refine deF λhh=>hne ?_;have:=hh.2.1;omega
    |true=>
     have he:=hm.2 ha;rw[he];have ht:(c::r).take (1+r.length)=c::r:=by rw[List.take_of_length_le];simp[Nat.add_comm]
     rw[ht];unfold wF
     by_cases hl:r.length<32
     ·rw[decide_eq_true hl,if_neg (by simp only[List.length_cons];omega)];simp;omega
     ·rw[deF hl,if_pos (by simp only[List.length_cons];omega)];simp
   ·rw[h2];simp only[Bool.false_and,Bool.and_false];refine deF λhh=>?_;have e:(tokF (c::r)).1.1=2:=congrArg (·.1) hh.2.2;omega
theorem siq(s:Str):siF (39::s) sin=none:=by
 have key:∀l:List Str,(∀x∈l,∃d t,x=d::t∧d≠39)→siF (39::s) l=none:=by
  intro l
  induction l with
  |nil=>intro _;rfl
  |cons x l ih=>
   intro h;obtain⟨d,t,rfl,hd⟩:=h x List.mem_cons_self;unfold siF;rw[if_neg ?_]
   ·exact ih λy hy=>h y (List.mem_cons_of_mem _ hy)
   ·rw[List.isPrefixOf_iff_prefix];intro hp;rw[List.cons_prefix_cons] at hp;exact hd hp.1
 refine key sin λx hx=>?_;simp only[sin,List.mem_cons,List.not_mem_nil,or_false] at hx;rcases hx with rfl|rfl|rfl|rfl|rfl|rfl|rfl|rfl|rfl|rfl|rfl|rfl|rfl|rfl<;>exact⟨_,_,rfl,by decide⟩
theorem spt(s:Str):spe 3 s=wV s:=by
 unfold spe;rw[show spl 3 s=39::s from rfl];simp only[reduceCtorEq,false_or,List.length_cons];unfold wV;have e1:smB ((39:UInt8).toNat:Int)=false:=by decide
 have e2:cpB ((39:UInt8).toNat:Int)=false:=by decide
 have e3:((39:UInt8).toNat==39)=true:=by decide
 have e4:((39:UInt8).toNat==126||dgB ((39:UInt8).toNat:Int))=false:=by decide
 cases s with
 |nil=>decide
 |cons c r=>
  simp only[List.length_cons,wB,cond_true];split
  ·rename_i h;rw[deF (p:=r.length<32) (by omega)];rfl
  ·rename_i h;have hb:ptB c.toNat=true→runN ptB (c::r)=1+runN ptB r:=λhp=>by
    have:=rud ptB (s:=c::r) (i:=0) (by simp);simp only[List.drop_zero,List.getElem_cons_zero,List.drop_succ_cons] at this;rw[hp] at this;exact this
   simp only[tokF];rw[e1,e2,e3,e4,siq];simp only[Bool.false_eq_true,if_false,Bool.true_and];cases hs:smB c.toNat with
   |false=>simp
   |true=>
    have hp:ptB c.toNat=true:=by simp[ptB,hs]
    rw[hb hp];have hm:=ruN ptB r;rw[if_pos (by simp;omega)];cases ha:r.all (λc=>ptB c.toNat) with
    |false=>
     have hne:¬runN ptB r=r.length:=λe=>by rw[hm.1 e] at ha;cases ha
     simp only[Bool.and_false];refine deF λhh=>hne ?_;have:=hh.2.1;omega
    |true=>
     have he:=hm.2 ha;rw[he];have ht:(c::r).take (1+r.length)=c::r:=by rw[List.take_of_length_le];simp[Nat.add_comm]
     rw[ht];unfold wF
     by_cases hl:r.length<32
     ·rw[decide_eq_true hl,if_neg (by simp only[List.length_cons];omega)];simp;omega
     ·rw[deF hl,if_pos (by simp only[List.length_cons];omega)];simp
section
variable{s:Str}{g:Glob}{Qf:OGP}
theorem wL(hs:s.length≤2^40)(hQ:Qf (.val (.d (.bool (ww s)))) g):EvF TT 176 [.int .i64 1,.str s] g Qf:=pas (by decide) hs (λh=>absurd h (by decide)) (qca hQ (spB s).symm)
theorem wU(hs:s.length≤2^40)(hQ:Qf (.val (.d (.bool (wUp s)))) g):EvF TT 176 [.int .i64 2,.str s] g Qf:=pas (by decide) hs (λh=>absurd h (by decide)) (qca hQ (spu s).symm)
theorem wod(hs:s.length<2^40)(hQ:Qf (.val (.d (.bool (wV s)))) g):EvF TT 176 [.int .i64 3,.str s] g Qf:=pas (by decide) (by omega) (λ_=>hs) (qca hQ (spt s).symm)
end
end Go.Proofs.YtiheejdkkjfenaaGreatDoor.Pa
namespace Go.Proofs.YtiheejdkkjfenaaGreatDoor.Pa
open Go Go.Proofs.YtiheejdkkjfenaaGreatDoor.Am
variable{x0 x18 x29 x30 x47 x63 x70 x77 y1 y2 y4 y5:Dat}{f1:FuncId}{c1:List Dat}{g:Glob}{Qf:OGP}{n1 n19 n20 n3 n30 n31 n32 n4 n48 n49 n5 n6 n64 n65 n7 n71 n72 n78 n79 n8:Int}{b3:Bool}
def L123_2(x0:Dat)(f1:FuncId)(c1:List Dat)(n7 n8:Int)(g:Glob)(Qf:OGP):=LC 123 Tryz.f123 [1,0,1,0] Qf 2 [(0,.v 24 (x0)),(1,.v 78 (.clo f1 c1)),(7,iv n7),(8,iv n8)] [] g
def lo123:List CuI:=[⟨2,[K 0,K 1,K 7,K 8],[]⟩]
theorem w123(h0:Ha TT 24 x0)
 (h:L123_2 x0 f1 c1 ((elO x0).length:Int) 0 g Qf):
 EvF TT 123 [x0,.clo f1 c1] g Qf:=
 sF Tryz.f123 lo123 [(24,x0),(78,.clo f1 c1)] ⟨h0,tC rfl,trivial⟩ h
theorem w123_2
 (h:Br (decide (n8<n7)) (InB n8 (elO x0).length∧EvF TT f1 (gtE (elO x0) n8::c1) g (KQ Qf λv g'=>∃b,v=.d (.bool b)∧Br b (Qf (.val (.d (.int .i64 n8))) g') (L123_2 x0 f1 c1 n7 (IntKind.i64.wrap (n8+1)) g' Qf))) (Qf (.val (.d (.int .i64 (-1)))) g)):
 L123_2 x0 f1 c1 n7 n8 g Qf:=sC lo123 h
theorem w77(h0:Ha TT 24 x0)
 (h:EvF TT 123 [x0,.clo f1 c1] g (KQ Qf λv g'=>∃n,v=.d (.int .i64 n)∧Qf (.val (.d (.bool (decide (0≤n))))) g')):
 EvF TT 77 [x0,.clo f1 c1] g Qf:=
 sF Tryz.f77 [] [(24,x0),(78,.clo f1 c1)] ⟨h0,tC rfl,trivial⟩ h
def L209_2(x0:Dat)(f1:FuncId)(c1:List Dat)(n7 n8:Int)(g:Glob)(Qf:OGP):=LC 209 Tryz.f209 [1,0,1,0] Qf 2 [(0,.v 23 (x0)),(1,.v 69 (.clo f1 c1)),(7,iv n7),(8,iv n8)] [] g
def lo209:List CuI:=[⟨2,[K 0,K 1,K 7,K 8],[]⟩]
theorem w209(h0:Ha TT 23 x0)
 (h:L209_2 x0 f1 c1 ((elO x0).length:Int) 0 g Qf):
 EvF TT 209 [x0,.clo f1 c1] g Qf:=
 sF Tryz.f209 lo209 [(23,x0),(69,.clo f1 c1)] ⟨h0,tC rfl,trivial⟩ h
theorem w209_2
 (h:Br (decide (n8<n7)) (InB n8 (elO x0).length∧EvF TT f1 (gtE (elO x0) n8::c1) g (KQ Qf λv g'=>∃b,v=.d (.bool b)∧Br b (Qf (.val (.d (.int .i64 n8))) g') (L209_2 x0 f1 c1 n7 (IntKind.i64.wrap (n8+1)) g' Qf))) (Qf (.val (.d (.int .i64 (-1)))) g)):
 L209_2 x0 f1 c1 n7 n8 g Qf:=sC lo209 h
theorem w168(h0:Ha TT 23 x0)
 (h:EvF TT 209 [x0,.clo f1 c1] g (KQ Qf λv g'=>∃n,v=.d (.int .i64 n)∧Qf (.val (.d (.bool (decide (0≤n))))) g')):
 EvF TT 168 [x0,.clo f1 c1] g Qf:=
 sF Tryz.f168 [] [(23,x0),(69,.clo f1 c1)] ⟨h0,tC rfl,trivial⟩ h
def L213_2(x0:Dat)(f1:FuncId)(c1:List Dat)(n7 n8:Int)(g:Glob)(Qf:OGP):=LC 213 Tryz.f213 [1,0,1,0] Qf 2 [(0,.v 59 (x0)),(1,.v 65 (.clo f1 c1)),(7,iv n7),(8,iv n8)] [] g
def lo213:List CuI:=[⟨2,[K 0,K 1,K 7,K 8],[]⟩]
theorem w213(h0:Ha TT 59 x0)
 (h:L213_2 x0 f1 c1 ((elO x0).length:Int) 0 g Qf):
 EvF TT 213 [x0,.clo f1 c1] g Qf:=
 sF Tryz.f213 lo213 [(59,x0),(65,.clo f1 c1)] ⟨h0,tC rfl,trivial⟩ h
theorem w213_2
 (h:Br (decide (n8<n7)) (InB n8 (elO x0).length∧EvF TT f1 (gtE (elO x0) n8::c1) g (KQ Qf λv g'=>∃b,v=.d (.bool b)∧Br b (Qf (.val (.d (.int .i64 n8))) g') (L213_2 x0 f1 c1 n7 (IntKind.i64.wrap (n8+1)) g' Qf))) (Qf (.val (.d (.int .i64 (-1)))) g)):
 L213_2 x0 f1 c1 n7 n8 g Qf:=sC lo213 h
theorem w177(h0:Ha TT 59 x0)
 (h:EvF TT 213 [x0,.clo f1 c1] g (KQ Qf λv g'=>∃n,v=.d (.int .i64 n)∧Qf (.val (.d (.bool (decide (0≤n))))) g')):
 EvF TT 177 [x0,.clo f1 c1] g Qf:=
 sF Tryz.f177 [] [(59,x0),(65,.clo f1 c1)] ⟨h0,tC rfl,trivial⟩ h
def L175_2(x0:Dat)(f1:FuncId)(c1:List Dat)(n7 n8:Int)(g:Glob)(Qf:OGP):=LC 175 Tryz.f175 [1,0,1,0] Qf 2 [(0,.v 22 (x0)),(1,.v 164 (.clo f1 c1)),(7,iv n7),(8,iv n8)] [] g
def lo175:List CuI:=[⟨2,[K 0,K 1,K 7,K 8],[]⟩]
theorem w175(h0:Ha TT 22 x0)
 (h:L175_2 x0 f1 c1 ((elO x0).length:Int) 0 g Qf):
 EvF TT 175 [x0,.clo f1 c1] g Qf:=
 sF Tryz.f175 lo175 [(22,x0),(164,.clo f1 c1)] ⟨h0,tC rfl,trivial⟩ h
theorem w175_2
 (h:Br (decide (n8<n7)) (InB n8 (elO x0).length∧EvF TT f1 (gtE (elO x0) n8::c1) g (KQ Qf λv g'=>∃b,v=.d (.bool b)∧Br b (Qf (.val (.d (.int .i64 n8))) g') (L175_2 x0 f1 c1 n7 (IntKind.i64.wrap (n8+1)) g' Qf))) (Qf (.val (.d (.int .i64 (-1)))) g)):
 L175_2 x0 f1 c1 n7 n8 g Qf:=sC lo175 h
theorem w106(h0:Ha TT 22 x0)
 (h:EvF TT 175 [x0,.clo f1 c1] g (KQ Qf λv g'=>∃n,v=.d (.int .i64 n)∧Qf (.val (.d (.bool (decide (0≤n))))) g')):
 EvF TT 106 [x0,.clo f1 c1] g Qf:=
 sF Tryz.f106 [] [(22,x0),(164,.clo f1 c1)] ⟨h0,tC rfl,trivial⟩ h
theorem w167(h0:Ha TT 52 x0)
 (h:Br (decide (((elO (fld x0 3)).length:Int)≤8)) (EvF TT 77 [fld x0 3,.clo 208 []] g (KQ Qf λv g'=>∃b,v=.d (.bool b)∧Qf (.val (.d (.bool !b))) g')) (Qf (.val (.d (.bool false))) g)):
 EvF TT 167 [x0] g Qf:=
 sF Tryz.f167 [] [(52,x0)] ⟨h0,trivial⟩ h
theorem w208(h0:Ha TT 52 x0)
 (h:EvF TT 167 [x0] g (KQ Qf λv g'=>∃b,v=.d (.bool b)∧Qf (.val (.d (.bool !b))) g')):
 EvF TT 208 [x0] g Qf:=
 sF Tryz.f208 [] [(52,x0)] ⟨h0,trivial⟩ h
theorem w166(h0:Ha TT 52 x0)
 (h:EvF TT 167 [x0] g (KQ Qf λv g'=>∃b,v=.d (.bool b)∧Qf (.val (.d (.bool !b))) g')):
 EvF TT 166 [x0] g Qf:=
 sF Tryz.f166 [] [(52,x0)] ⟨h0,trivial⟩ h
theorem w102(h0:Ha TT 26 x0)
 (h:Br (intOf (fld x0 0)==8) (Br (decide (8<((elO (fld x0 4)).length:Int))) (Qf (.val (.d (.bool false))) g) (EvF TT 77 [fld x0 5,.clo 166 []] g (KQ Qf λv g'=>∃b,v=.d (.bool b)∧Br (!b) (EvF TT 168 [fld x0 4,.clo 169 []] g' (KQ Qf λv g'=>∃b,v=.d (.bool b)∧Qf (.val (.d (.bool !b))) g')) (Qf (.val (.d (.bool false))) g')))) (EvF TT 77 [fld x0 5,.clo 166 []] g (KQ Qf λv g'=>∃b,v=.d (.bool b)∧Br (!b) (EvF TT 168 [fld x0 4,.clo 169 []] g' (KQ Qf λv g'=>∃b,v=.d (.bool b)∧Qf (.val (.d (.bool !b))) g')) (Qf (.val (.d (.bool false))) g')))):
 EvF TT 102 [x0] g Qf:=
 sF Tryz.f102 [] [(26,x0)] ⟨h0,trivial⟩ h
theorem w169(h0:Ha TT 26 x0)
 (h:EvF TT 102 [x0] g (KQ Qf λv g'=>∃b,v=.d (.bool b)∧Qf (.val (.d (.bool !b))) g')):
 EvF TT 169 [x0] g Qf:=
 sF Tryz.f169 [] [(26,x0)] ⟨h0,trivial⟩ h
def L194_4(n3:Int)(y1:Dat)(g:Glob)(Qf:OGP):=LC 194 Tryz.f194 [1,1,0,1,0] Qf 1 [(1,.loc 1 0 0),(3,iv n3)] [(1,.whole 52 y1)] g
def lo194:List CuI:=[⟨4,[K 1,K 3],[(1,.whole 52)]⟩]
theorem w194(h0:Ha TT 52 x0)
 (h:Br (intOf (fld x0 0)==4) (Br (decide (8<((elO (fld x0 3)).length:Int))) (Qf (.val (.d (.bool true))) g) (L194_4 0 x0 g Qf)) (L194_4 0 x0 g Qf)):
 EvF TT 194 [x0] g Qf:=
 sF Tryz.f194 lo194 [(52,x0)] ⟨h0,trivial⟩ h
theorem w194_4
 (h:Br (decide (n3<((elO (fld y1 3)).length:Int))) (InB n3 (elO (fld y1 3)).length∧EvF TT 194 [gtE (elO (fld y1 3)) n3] g (KQ Qf λv g'=>∃b,v=.d (.bool b)∧Br b (Qf (.val (.d (.bool true))) g') (L194_4 (IntKind.i64.wrap (n3+1)) y1 g' Qf))) (Qf (.val (.d (.bool false))) g)):
 L194_4 n3 y1 g Qf:=sC lo194 h
def L140_4(n3:Int)(y1:Dat)(g:Glob)(Qf:OGP):=LC 140 Tryz.f140 [1,1,0,1,0] Qf 1 [(1,.loc 1 0 0),(3,iv n3)] [(1,.whole 26 y1)] g
def L140_9(n4:Int)(y1:Dat)(g:Glob)(Qf:OGP):=LC 140 Tryz.f140 [1,1,1,0,1,0] Qf 1 [(1,.loc 1 0 0),(4,iv n4)] [(1,.whole 26 y1)] g
def lo140:List CuI:=[⟨4,[K 1,K 3],[(1,.whole 26)]⟩,⟨9,[K 1,K 4],[(1,.whole 26)]⟩]
theorem w140(h0:Ha TT 26 x0)
 (h:Br (intOf (fld x0 0)==8) (Br (decide (8<((elO (fld x0 4)).length:Int))) (Qf (.val (.d (.bool true))) g) (L140_4 0 x0 g Qf)) (L140_4 0 x0 g Qf)):
 EvF TT 140 [x0] g Qf:=
 sF Tryz.f140 lo140 [(26,x0)] ⟨h0,trivial⟩ h
theorem w140_4
 (h:Br (decide (n3<((elO (fld y1 5)).length:Int))) (InB n3 (elO (fld y1 5)).length∧EvF TT 194 [gtE (elO (fld y1 5)) n3] g (KQ Qf λv g'=>∃b,v=.d (.bool b)∧Br b (Qf (.val (.d (.bool true))) g') (L140_4 (IntKind.i64.wrap (n3+1)) y1 g' Qf))) (L140_9 0 y1 g Qf)):
 L140_4 n3 y1 g Qf:=sC lo140 h
theorem w140_9
 (h:Br (decide (n4<((elO (fld y1 4)).length:Int))) (InB n4 (elO (fld y1 4)).length∧EvF TT 140 [gtE (elO (fld y1 4)) n4] g (KQ Qf λv g'=>∃b,v=.d (.bool b)∧Br b (Qf (.val (.d (.bool true))) g') (L140_9 (IntKind.i64.wrap (n4+1)) y1 g' Qf))) (Qf (.val (.d (.bool false))) g)):
 L140_9 n4 y1 g Qf:=sC lo140 h
def L62_4(x30:Dat)(n31 n32:Int)(y1:Dat)(g:Glob)(Qf:OGP):=LC 62 Tryz.f62 [1,1,0,1,0] Qf 1 [(1,.loc 1 0 0),(30,.v 22 (x30)),(31,iv n31),(32,iv n32)] [(1,.whole 28 y1)] g
def L62_9(x30:Dat)(n31 n32:Int)(x47:Dat)(n48 n49:Int)(y1:Dat)(g:Glob)(Qf:OGP):=LC 62 Tryz.f62 [1,1,0,1,0,0,1,1,0,0,1,1,1,0] Qf 1 [(1,.loc 1 0 0),(30,.v 22 (x30)),(31,iv n31),(32,iv n32),(47,.v 81 (x47)),(48,iv n48),(49,iv n49)] [(1,.whole 28 y1)] g
def L62_17(n7:Int)(x63:Dat)(n64 n65:Int)(g:Glob)(Qf:OGP):=LC 62 Tryz.f62 [1,1,1,1,0,1,0] Qf 1 [(7,iv n7),(63,.v 22 (x63)),(64,iv n64),(65,iv n65)] [] g
def L62_20(n7:Int)(x63:Dat)(n64 n65:Int)(x70:Dat)(n71 n72:Int)(g:Glob)(Qf:OGP):=LC 62 Tryz.f62 [1,1,1,1,0,1,0,0,1,1,0,0,1,1,0] Qf 1 [(7,iv n7),(63,.v 22 (x63)),(64,iv n64),(65,iv n65),(70,.v 81 (x70)),(71,iv n71),(72,iv n72)] [] g
def L62_23(n7:Int)(x63:Dat)(n64 n65:Int)(x70:Dat)(n71 n72:Int)(x77:Dat)(n78 n79:Int)(g:Glob)(Qf:OGP):=LC 62 Tryz.f62 [1,1,1,1,0,1,0,0,1,1,0,0,1,1,0,0,1,1,0,0,1,1,0] Qf 1 [(7,iv n7),(63,.v 22 (x63)),(64,iv n64),(65,iv n65),(70,.v 81 (x70)),(71,iv n71),(72,iv n72),(77,.v 59 (x77)),(78,iv n78),(79,iv n79)] [] g
def lo62:List CuI:=[⟨4,[K 1,K 30,K 31,K 32],[(1,.whole 28)]⟩,⟨9,[K 1,K 30,K 31,K 32,K 47,K 48,K 49],[(1,.whole 28)]⟩,⟨17,[K 7,K 63,K 64,K 65],[]⟩,⟨20,[K 7,K 63,K 64,K 65,K 70,K 71,K 72],[]⟩,⟨23,[K 7,K 63,K 64,K 65,K 70,K 71,K 72,K 77,K 78,K 79],[]⟩]
theorem w62(h0:Ha TT 28 x0)
 (h:Br (decide (32<((elO (fld x0 0)).length:Int))) (Qf (.val (.d (.int .i64 3))) g) (EvF TT 101 [x0] g (KQ Qf λv g'=>∃n,v=.d (.int .i64 n)∧Br (decide (2048<n)) (Qf (.val (.d (.int .i64 3))) g') (EvF TT 102 [sub x0 1 7] g' (KQ Qf λv g'=>∃b,v=.d (.bool b)∧Br (!b) (Qf (.val (.d (.int .i64 3))) g') (L62_4 (fld x0 0) ((elO (fld x0 0)).length:Int) 0 x0 g' Qf)))))):
 EvF TT 62 [x0] g Qf:=
 sF Tryz.f62 lo62 [(28,x0)] ⟨h0,trivial⟩ h
theorem w62_4
 (h:Br (decide (n32<n31)) (InB n32 (elO x30).length∧Br (decide (4<((elO (fld (gtE (elO x30) n32) 1)).length:Int))) (Qf (.val (.d (.int .i64 3))) g) (Br (decide (32<((elO (fld (gtE (elO x30) n32) 2)).length:Int))) (Qf (.val (.d (.int .i64 3))) g) (L62_9 x30 n31 n32 (fld (gtE (elO x30) n32) 2) ((elO (fld (gtE (elO x30) n32) 2)).length:Int) 0 y1 g Qf))) (EvF TT 103 [sub y1 1 7] g (KQ Qf λv g'=>∃n,v=.d (.int .i64 n)∧L62_17 n (fld y1 0) ((elO (fld y1 0)).length:Int) 0 g' Qf))):
 L62_4 x30 n31 n32 y1 g Qf:=sC lo62 h
theorem w62_9
 (h:Br (decide (n49<n48)) (InB n49 (elO x47).length∧Br (decide (8<((elO (fld (gtE (elO x47) n49) 1)).length:Int))) (Qf (.val (.d (.int .i64 3))) g) (L62_9 x30 n31 n32 x47 n48 (IntKind.i64.wrap (n49+1)) y1 g Qf)) (L62_4 x30 n31 (IntKind.i64.wrap (n32+1)) y1 g Qf)):
 L62_9 x30 n31 n32 x47 n48 n49 y1 g Qf:=sC lo62 h
theorem w62_17
 (h:Br (decide (n65<n64)) (InB n65 (elO x63).length∧L62_20 n7 x63 n64 n65 (fld (gtE (elO x63) n65) 2) ((elO (fld (gtE (elO x63) n65) 2)).length:Int) 0 g Qf) (Br (decide (256<n7)) (Qf (.val (.d (.int .i64 4))) g) (Qf (.val (.d (.int .i64 0))) g))):
 L62_17 n7 x63 n64 n65 g Qf:=sC lo62 h
theorem w62_20
 (h:Br (decide (n72<n71)) (InB n72 (elO x70).length∧L62_23 n7 x63 n64 n65 x70 n71 n72 (fld (gtE (elO x70) n72) 1) ((elO (fld (gtE (elO x70) n72) 1)).length:Int) 0 g Qf) (L62_17 n7 x63 n64 (IntKind.i64.wrap (n65+1)) g Qf)):
 L62_20 n7 x63 n64 n65 x70 n71 n72 g Qf:=sC lo62 h
theorem w62_23
 (h:Br (decide (n79<n78)) (InB n79 (elO x77).length∧EvF TT 104 [gtE (elO x77) n79] g (KQ Qf λv g'=>∃n,v=.d (.int .i64 n)∧L62_23 (maxS true n7 n) x63 n64 n65 x70 n71 n72 x77 n78 (IntKind.i64.wrap (n79+1)) g' Qf)) (L62_20 n7 x63 n64 n65 x70 n71 (IntKind.i64.wrap (n72+1)) g Qf)):
 L62_23 n7 x63 n64 n65 x70 n71 n72 x77 n78 n79 g Qf:=sC lo62 h
def L87_5(b3:Bool)(n4:Int)(y1:Dat)(g:Glob)(Qf:OGP):=LC 87 Tryz.f87 [1,1,1,0,1,0] Qf 1 [(1,.loc 1 0 0),(3,.v 4 (.bool b3)),(4,iv n4)] [(1,.whole 28 y1)] g
def L87_11(b3:Bool)(n4 n6:Int)(y5 y1:Dat)(g:Glob)(Qf:OGP):=LC 87 Tryz.f87 [1,1,1,0,1,0,0,1,0,0,1,1,1,0] Qf 1 [(1,.loc 1 0 0),(3,.v 4 (.bool b3)),(4,iv n4),(5,.loc 5 0 0),(6,iv n6)] [(5,.whole 84 y5),(1,.whole 28 y1)] g
def L87_16(b3:Bool)(n4 n6 n7:Int)(y5 y1:Dat)(g:Glob)(Qf:OGP):=LC 87 Tryz.f87 [1,1,1,0,1,0,0,1,0,0,1,1,1,0,0,1,0,0,1,1,0] Qf 1 [(1,.loc 1 0 0),(3,.v 4 (.bool b3)),(4,iv n4),(5,.loc 5 0 0),(6,iv n6),(7,iv n7)] [(5,.whole 84 y5),(1,.whole 28 y1)] g
def lo87:List CuI:=[⟨5,[K 1,K 3,K 4],[(1,.whole 28)]⟩,⟨11,[K 1,K 3,K 4,K 5,K 6],[(5,.whole 84),(1,.whole 28)]⟩,⟨16,[K 1,K 3,K 4,K 5,K 6,K 7],[(5,.whole 84),(1,.whole 28)]⟩]
theorem w87(h0:Ha TT 28 x0)
 (h:Br (decide (32<((elO (fld x0 0)).length:Int))) (Qf (.val (.d (.int .i64 3))) g) (EvF TT 8 [x0] g (KQ Qf λv g'=>∃n,v=.d (.int .i64 n)∧Br (decide (2048<n)) (Qf (.val (.d (.int .i64 3))) g') (EvF TT 140 [sub x0 1 7] g' (KQ Qf λv g'=>∃b,v=.d (.bool b)∧Br b (Qf (.val (.d (.int .i64 3))) g') (EvF TT 141 [sub x0 1 7,.int .i64 256] g' (KQ Qf λv g'=>∃b,v=.d (.bool b)∧L87_5 b 0 x0 g' Qf))))))):
 EvF TT 87 [x0] g Qf:=
 sF Tryz.f87 lo87 [(28,x0)] ⟨h0,trivial⟩ h
theorem w87_5
 (h:Br (decide (n4<((elO (fld y1 0)).length:Int))) (InB n4 (elO (fld y1 0)).length∧Br (decide (4<((elO (fld (gtE (elO (fld y1 0)) n4) 1)).length:Int))) (Qf (.val (.d (.int .i64 3))) g) (Br (decide (32<((elO (fld (gtE (elO (fld y1 0)) n4) 2)).length:Int))) (Qf (.val (.d (.int .i64 3))) g) (L87_11 b3 n4 0 (gtE (elO (fld y1 0)) n4) y1 g Qf))) (Br b3 (Qf (.val (.d (.int .i64 4))) g) (Qf (.val (.d (.int .i64 0))) g))):
 L87_5 b3 n4 y1 g Qf:=sC lo87 h
theorem w87_11
 (h:Br (decide (n6<((elO (fld y5 2)).length:Int))) (InB n6 (elO (fld y5 2)).length∧Br (decide (8<((elO (fld (gtE (elO (fld y5 2)) n6) 1)).length:Int))) (Qf (.val (.d (.int .i64 3))) g) (L87_16 b3 n4 n6 0 y5 y1 g Qf)) (L87_5 b3 (IntKind.i64.wrap (n4+1)) y1 g Qf)):
 L87_11 b3 n4 n6 y5 y1 g Qf:=sC lo87 h
theorem w87_16
 (h:InB n6 (elO (fld y5 2)).length∧Br (decide (n7<((elO (fld (gtE (elO (fld y5 2)) n6) 1)).length:Int))) (Br b3 (L87_16 true n4 n6 (IntKind.i64.wrap (n7+1)) y5 y1 g Qf) (InB n6 (elO (fld y5 2)).length∧InB n7 (elO (fld (gtE (elO (fld y5 2)) n6) 1)).length∧EvF TT 85 [gtE (elO (fld (gtE (elO (fld y5 2)) n6) 1)) n7,.int .i64 256] g (KQ Qf λv g'=>∃b,v=.d (.bool b)∧L87_16 b n4 n6 (IntKind.i64.wrap (n7+1)) y5 y1 g' Qf))) (L87_11 b3 n4 (IntKind.i64.wrap (n6+1)) y5 y1 g Qf)):
 L87_16 b3 n4 n6 n7 y5 y1 g Qf:=sC lo87 h
theorem w173(h0:Ha TT 52 x0)
 (h:Br (intOf (fld x0 0)==1) (Br (strOf (fld x0 1)==[]) (Br (intOf (fld x0 2)==0) (Br (((elO (fld x0 3)).length:Int)==0) (EvF TT 77 [fld x0 3,.clo 211 []] g (KQ Qf λv g'=>∃b,v=.d (.bool b)∧Qf (.val (.d (.bool !b))) g')) (Qf (.val (.d (.bool false))) g)) (Qf (.val (.d (.bool false))) g)) (Qf (.val (.d (.bool false))) g)) (Br (intOf (fld x0 0)==2) (EvF TT 176 [.int .i64 1,.str (strOf (fld x0 1))] g (KQ Qf λv g'=>∃b,v=.d (.bool b)∧Br b (Br (intOf (fld x0 2)==0) (Br (((elO (fld x0 3)).length:Int)==0) (EvF TT 77 [fld x0 3,.clo 211 []] g' (KQ Qf λv g'=>∃b,v=.d (.bool b)∧Qf (.val (.d (.bool !b))) g')) (Qf (.val (.d (.bool false))) g')) (Qf (.val (.d (.bool false))) g')) (Qf (.val (.d (.bool false))) g'))) (Br (intOf (fld x0 0)==3) (Br (strOf (fld x0 1)==[]) (EvF TT 202 [.int .i64 (intOf (fld x0 2))] g (KQ Qf λv g'=>∃b,v=.d (.bool b)∧Br b (Br (((elO (fld x0 3)).length:Int)==0) (EvF TT 77 [fld x0 3,.clo 211 []] g' (KQ Qf λv g'=>∃b,v=.d (.bool b)∧Qf (.val (.d (.bool !b))) g')) (Qf (.val (.d (.bool false))) g')) (Qf (.val (.d (.bool false))) g'))) (Qf (.val (.d (.bool false))) g)) (Br (intOf (fld x0 0)==4) (EvF TT 176 [.int .i64 2,.str (strOf (fld x0 1))] g (KQ Qf λv g'=>∃b,v=.d (.bool b)∧Br b (Br (intOf (fld x0 2)==0) (EvF TT 77 [fld x0 3,.clo 211 []] g' (KQ Qf λv g'=>∃b,v=.d (.bool b)∧Qf (.val (.d (.bool !b))) g')) (Qf (.val (.d (.bool false))) g')) (Qf (.val (.d (.bool false))) g'))) (Qf (.val (.d (.bool false))) g))))):
 EvF TT 173 [x0] g Qf:=
 sF Tryz.f173 [] [(52,x0)] ⟨h0,trivial⟩ h
theorem w211(h0:Ha TT 52 x0)
 (h:EvF TT 173 [x0] g (KQ Qf λv g'=>∃b,v=.d (.bool b)∧Qf (.val (.d (.bool !b))) g')):
 EvF TT 211 [x0] g Qf:=
 sF Tryz.f211 [] [(52,x0)] ⟨h0,trivial⟩ h
theorem w172(h0:Ha TT 52 x0)
 (h:EvF TT 173 [x0] g (KQ Qf λv g'=>∃b,v=.d (.bool b)∧Qf (.val (.d (.bool !b))) g')):
 EvF TT 172 [x0] g Qf:=
 sF Tryz.f172 [] [(52,x0)] ⟨h0,trivial⟩ h
theorem w179(h0:Ha TT 61 x0)
 (h:Br (intOf (fld x0 0)==1) (Br (strOf (fld x0 1)==[]) (Br (((elO (fld x0 3)).length:Int)==0) (Br (intOf (fld x0 2)==0) (EvF TT 177 [fld x0 3,.clo 214 []] g (KQ Qf λv g'=>∃b,v=.d (.bool b)∧Qf (.val (.d (.bool !b))) g')) (Qf (.val (.d (.bool false))) g)) (Qf (.val (.d (.bool false))) g)) (Qf (.val (.d (.bool false))) g)) (Br (intOf (fld x0 0)==2) (EvF TT 176 [.int .i64 3,.str (strOf (fld x0 1))] g (KQ Qf λv g'=>∃b,v=.d (.bool b)∧Br b (Br (((elO (fld x0 3)).length:Int)==0) (Br (intOf (fld x0 2)==0) (EvF TT 177 [fld x0 3,.clo 214 []] g' (KQ Qf λv g'=>∃b,v=.d (.bool b)∧Qf (.val (.d (.bool !b))) g')) (Qf (.val (.d (.bool false))) g')) (Qf (.val (.d (.bool false))) g')) (Qf (.val (.d (.bool false))) g'))) (Br (intOf (fld x0 0)==3) (Br (strOf (fld x0 1)==[]) (Br (((elO (fld x0 3)).length:Int)==2) (Br (intOf (fld x0 2)==0) (EvF TT 177 [fld x0 3,.clo 214 []] g (KQ Qf λv g'=>∃b,v=.d (.bool b)∧Qf (.val (.d (.bool !b))) g')) (Qf (.val (.d (.bool false))) g)) (Qf (.val (.d (.bool false))) g)) (Qf (.val (.d (.bool false))) g)) (Br (intOf (fld x0 0)==4) (EvF TT 176 [.int .i64 1,.str (strOf (fld x0 1))] g (KQ Qf λv g'=>∃b,v=.d (.bool b)∧Br b (Br (!strOf (fld x0 1)==[105,110,116]) (Br (intOf (fld x0 2)==0) (EvF TT 177 [fld x0 3,.clo 214 []] g' (KQ Qf λv g'=>∃b,v=.d (.bool b)∧Qf (.val (.d (.bool !b))) g')) (Qf (.val (.d (.bool false))) g')) (Qf (.val (.d (.bool false))) g')) (Qf (.val (.d (.bool false))) g'))) (Qf (.val (.d (.bool false))) g))))):
 EvF TT 179 [x0] g Qf:=
 sF Tryz.f179 [] [(61,x0)] ⟨h0,trivial⟩ h
theorem w214(h0:Ha TT 61 x0)
 (h:EvF TT 179 [x0] g (KQ Qf λv g'=>∃b,v=.d (.bool b)∧Qf (.val (.d (.bool !b))) g')):
 EvF TT 214 [x0] g Qf:=
 sF Tryz.f214 [] [(61,x0)] ⟨h0,trivial⟩ h
theorem w178(h0:Ha TT 61 x0)
 (h:EvF TT 179 [x0] g (KQ Qf λv g'=>∃b,v=.d (.bool b)∧Qf (.val (.d (.bool !b))) g')):
 EvF TT 178 [x0] g Qf:=
 sF Tryz.f178 [] [(61,x0)] ⟨h0,trivial⟩ h
theorem w171(h0:Ha TT 26 x0)
 (h:Br (intOf (fld x0 0)==1) (Br (intOf (fld x0 0)==1) (EvF TT 176 [.int .i64 1,.str (strOf (fld x0 1))] g (KQ Qf λv g'=>∃b,v=.d (.bool b)∧Qf (.val (.d (.bool b))) g')) (Br (intOf (fld x0 0)==6) (EvF TT 176 [.int .i64 1,.str (strOf (fld x0 1))] g (KQ Qf λv g'=>∃b,v=.d (.bool b)∧Br b (EvF TT 176 [.int .i64 1,.str (strOf (fld x0 2))] g' (KQ Qf λv g'=>∃b,v=.d (.bool b)∧Qf (.val (.d (.bool b))) g')) (Qf (.val (.d (.bool false))) g'))) (Br (intOf (fld x0 0)==2) (EvF TT 202 [.int .i64 (intOf (fld x0 3))] g (KQ Qf λv g'=>∃b,v=.d (.bool b)∧Qf (.val (.d (.bool b))) g')) (Br (intOf (fld x0 0)==7) (Qf (.val (.d (.bool (decide (0<((elO (fld x0 5)).length:Int)))))) g) (Br (intOf (fld x0 0)==8) (EvF TT 176 [.int .i64 2,.str (strOf (fld x0 1))] g (KQ Qf λv g'=>∃b,v=.d (.bool b)∧Qf (.val (.d (.bool b))) g')) (Br (intOf (fld x0 0)==9) (EvF TT 210 [.str (strOf (fld x0 1))] g (KQ Qf λv g'=>∃n,v=.d (.int .i64 n)∧Qf (.val (.d (.bool (n !=0)))) g')) (Qf (.val (.d (.bool true))) g)))))))
 (Br (intOf (fld x0 0)==3) (Br (intOf (fld x0 0)==3) (EvF TT 176 [.int .i64 1,.str (strOf (fld x0 1))] g (KQ Qf λv g'=>∃b,v=.d (.bool b)∧Qf (.val (.d (.bool b))) g')) (Br (intOf (fld x0 0)==6) (EvF TT 176 [.int .i64 1,.str (strOf (fld x0 1))] g (KQ Qf λv g'=>∃b,v=.d (.bool b)∧Br b (EvF TT 176 [.int .i64 1,.str (strOf (fld x0 2))] g' (KQ Qf λv g'=>∃b,v=.d (.bool b)∧Qf (.val (.d (.bool b))) g')) (Qf (.val (.d (.bool false))) g'))) (Br (intOf (fld x0 0)==2) (EvF TT 202 [.int .i64 (intOf (fld x0 3))] g (KQ Qf λv g'=>∃b,v=.d (.bool b)∧Qf (.val (.d (.bool b))) g')) (Br (intOf (fld x0 0)==7) (Qf (.val (.d (.bool (decide (0<((elO (fld x0 5)).length:Int)))))) g) (Br (intOf (fld x0 0)==8) (EvF TT 176 [.int .i64 2,.str (strOf (fld x0 1))] g (KQ Qf λv g'=>∃b,v=.d (.bool b)∧Qf (.val (.d (.bool b))) g')) (Br (intOf (fld x0 0)==9) (EvF TT 210 [.str (strOf (fld x0 1))] g (KQ Qf λv g'=>∃n,v=.d (.int .i64 n)∧Qf (.val (.d (.bool (n !=0)))) g')) (Qf (.val (.d (.bool true))) g))))))) (Br (intOf (fld x0 0)==5) (EvF TT 176 [.int .i64 1,.str (strOf (fld x0 1))] g (KQ Qf λv g'=>∃b,v=.d (.bool b)∧Qf (.val (.d (.bool b))) g')) (Br (intOf (fld x0 0)==6) (EvF TT 176 [.int .i64 1,.str (strOf (fld x0 1))] g (KQ Qf λv g'=>∃b,v=.d (.bool b)∧Br b (EvF TT 176 [.int .i64 1,.str (strOf (fld x0 2))] g' (KQ Qf λv g'=>∃b,v=.d (.bool b)∧Qf (.val (.d (.bool b))) g')) (Qf (.val (.d (.bool false))) g'))) (Br (intOf (fld x0 0)==2) (EvF TT 202 [.int .i64 (intOf (fld x0 3))] g (KQ Qf λv g'=>∃b,v=.d (.bool b)∧Qf (.val (.d (.bool b))) g')) (Br (intOf (fld x0 0)==7) (Qf (.val (.d (.bool (decide (0<((elO (fld x0 5)).length:Int)))))) g) (Br (intOf (fld x0 0)==8) (EvF TT 176 [.int .i64 2,.str (strOf (fld x0 1))] g (KQ Qf λv g'=>∃b,v=.d (.bool b)∧Qf (.val (.d (.bool b))) g')) (Br (intOf (fld x0 0)==9) (EvF TT 210 [.str (strOf (fld x0 1))] g (KQ Qf λv g'=>∃n,v=.d (.int .i64 n)∧Qf (.val (.d (.bool (n !=0)))) g')) (Qf (.val (.d (.bool true))) g))))))))):
  EvF TT 171 [x0] g Qf:=
 sF Tryz.f171 [] [(26,x0)] ⟨h0,trivial⟩ h
theorem w105(h0:Ha TT 26 x0)
 (h:Br (intOf (fld x0 0)==1) (Br (((elO (fld x0 4)).length:Int)!=0) (Qf (.val (.d (.bool false))) g) (Br (!strOf (fld x0 1)==strOf (fld x0 1)) (Qf (.val (.d (.bool false))) g) (Br (!strOf (fld x0 2)==[]) (Qf (.val (.d (.bool false))) g) (Br (intOf (fld x0 3)!=intOf (.int .i64 0)) (Qf (.val (.d (.bool false))) g) (Br (((elO (fld x0 5)).length:Int)!=(([]:List Dat).length:Int)) (Qf (.val (.d (.bool false))) g) (EvF TT 171 [x0] g (KQ Qf λv g'=>∃b,v=.d (.bool b)∧Br (!b) (Qf (.val (.d (.bool false))) g') (EvF TT 77 [fld x0 5,.clo 172 []] g' (KQ Qf λv g'=>∃b,v=.d (.bool b)∧Br (!b) (EvF TT 168 [fld x0 4,.clo 174 []] g' (KQ Qf λv g'=>∃b,v=.d (.bool b)∧Qf (.val (.d (.bool !b))) g')) (Qf (.val (.d (.bool false))) g'))))))))))
 (Br (intOf (fld x0 0)==2) (Br (((elO (fld x0 4)).length:Int)!=0) (Qf (.val (.d (.bool false))) g) (Br (!strOf (fld x0 1)==[]) (Qf (.val (.d (.bool false))) g) (Br (!strOf (fld x0 2)==[]) (Qf (.val (.d (.bool false))) g) (Br (intOf (fld x0 3)!=intOf (fld x0 3)) (Qf (.val (.d (.bool false))) g) (Br (((elO (fld x0 5)).length:Int)!=(([]:List Dat).length:Int)) (Qf (.val (.d (.bool false))) g) (EvF TT 171 [x0] g (KQ Qf λv g'=>∃b,v=.d (.bool b)∧Br (!b) (Qf (.val (.d (.bool false))) g') (EvF TT 77 [fld x0 5,.clo 172 []] g' (KQ Qf λv g'=>∃b,v=.d (.bool b)∧Br (!b) (EvF TT 168 [fld x0 4,.clo 174 []] g' (KQ Qf λv g'=>∃b,v=.d (.bool b)∧Qf (.val (.d (.bool !b))) g')) (Qf (.val (.d (.bool false))) g'))))))))))
  (Br (intOf (fld x0 0)==3) (Br (((elO (fld x0 4)).length:Int)!=1) (Qf (.val (.d (.bool false))) g) (Br (!strOf (fld x0 1)==strOf (fld x0 1)) (Qf (.val (.d (.bool false))) g) (Br (!strOf (fld x0 2)==[]) (Qf (.val (.d (.bool false))) g) (Br (intOf (fld x0 3)!=intOf (.int .i64 0)) (Qf (.val (.d (.bool false))) g) (Br (((elO (fld x0 5)).length:Int)!=(([]:List Dat).length:Int)) (Qf (.val (.d (.bool false))) g) (EvF TT 171 [x0] g (KQ Qf λv g'=>∃b,v=.d (.bool b)∧Br (!b) (Qf (.val (.d (.bool false))) g') (EvF TT 77 [fld x0 5,.clo 172 []] g' (KQ Qf λv g'=>∃b,v=.d (.bool b)∧Br (!b) (EvF TT 168 [fld x0 4,.clo 174 []] g' (KQ Qf λv g'=>∃b,v=.d (.bool b)∧Qf (.val (.d (.bool !b))) g')) (Qf (.val (.d (.bool false))) g'))))))))))
   (Br (intOf (fld x0 0)==4) (Br (((elO (fld x0 4)).length:Int)!=2) (Qf (.val (.d (.bool false))) g) (Br (!strOf (fld x0 1)==[]) (Qf (.val (.d (.bool false))) g) (Br (!strOf (fld x0 2)==[]) (Qf (.val (.d (.bool false))) g) (Br (intOf (fld x0 3)!=intOf (.int .i64 0)) (Qf (.val (.d (.bool false))) g) (Br (((elO (fld x0 5)).length:Int)!=(([]:List Dat).length:Int)) (Qf (.val (.d (.bool false))) g) (EvF TT 171 [x0] g (KQ Qf λv g'=>∃b,v=.d (.bool b)∧Br (!b) (Qf (.val (.d (.bool false))) g') (EvF TT 77 [fld x0 5,.clo 172 []] g' (KQ Qf λv g'=>∃b,v=.d (.bool b)∧Br (!b) (EvF TT 168 [fld x0 4,.clo 174 []] g' (KQ Qf λv g'=>∃b,v=.d (.bool b)∧Qf (.val (.d (.bool !b))) g')) (Qf (.val (.d (.bool false))) g'))))))))))
    (Br (intOf (fld x0 0)==5) (Br (((elO (fld x0 4)).length:Int)!=2) (Qf (.val (.d (.bool false))) g) (Br (!strOf (fld x0 1)==strOf (fld x0 1)) (Qf (.val (.d (.bool false))) g) (Br (!strOf (fld x0 2)==[]) (Qf (.val (.d (.bool false))) g) (Br (intOf (fld x0 3)!=intOf (.int .i64 0)) (Qf (.val (.d (.bool false))) g) (Br (((elO (fld x0 5)).length:Int)!=(([]:List Dat).length:Int)) (Qf (.val (.d (.bool false))) g) (EvF TT 171 [x0] g (KQ Qf λv g'=>∃b,v=.d (.bool b)∧Br (!b) (Qf (.val (.d (.bool false))) g') (EvF TT 77 [fld x0 5,.clo 172 []] g' (KQ Qf λv g'=>∃b,v=.d (.bool b)∧Br (!b) (EvF TT 168 [fld x0 4,.clo 174 []] g' (KQ Qf λv g'=>∃b,v=.d (.bool b)∧Qf (.val (.d (.bool !b))) g')) (Qf (.val (.d (.bool false))) g'))))))))))
     (Br (intOf (fld x0 0)==6) (Br (((elO (fld x0 4)).length:Int)!=2) (Qf (.val (.d (.bool false))) g) (Br (!strOf (fld x0 1)==strOf (fld x0 1)) (Qf (.val (.d (.bool false))) g) (Br (!strOf (fld x0 2)==strOf (fld x0 2)) (Qf (.val (.d (.bool false))) g) (Br (intOf (fld x0 3)!=intOf (.int .i64 0)) (Qf (.val (.d (.bool false))) g) (Br (((elO (fld x0 5)).length:Int)!=(([]:List Dat).length:Int)) (Qf (.val (.d (.bool false))) g) (EvF TT 171 [x0] g (KQ Qf λv g'=>∃b,v=.d (.bool b)∧Br (!b) (Qf (.val (.d (.bool false))) g') (EvF TT 77 [fld x0 5,.clo 172 []] g' (KQ Qf λv g'=>∃b,v=.d (.bool b)∧Br (!b) (EvF TT 168 [fld x0 4,.clo 174 []] g' (KQ Qf λv g'=>∃b,v=.d (.bool b)∧Qf (.val (.d (.bool !b))) g')) (Qf (.val (.d (.bool false))) g'))))))))))
      (Br (intOf (fld x0 0)==7) (Br (((elO (fld x0 4)).length:Int)!=IntKind.i64.wrap (((elO (fld x0 5)).length:Int)+1)) (Qf (.val (.d (.bool false))) g) (Br (!strOf (fld x0 1)==[]) (Qf (.val (.d (.bool false))) g) (Br (!strOf (fld x0 2)==[]) (Qf (.val (.d (.bool false))) g) (Br (intOf (fld x0 3)!=intOf (.int .i64 0)) (Qf (.val (.d (.bool false))) g) (Br (((elO (fld x0 5)).length:Int)!=((elO (fld x0 5)).length:Int)) (Qf (.val (.d (.bool false))) g) (EvF TT 171 [x0] g (KQ Qf λv g'=>∃b,v=.d (.bool b)∧Br (!b) (Qf (.val (.d (.bool false))) g') (EvF TT 77 [fld x0 5,.clo 172 []] g' (KQ Qf λv g'=>∃b,v=.d (.bool b)∧Br (!b) (EvF TT 168 [fld x0 4,.clo 174 []] g' (KQ Qf λv g'=>∃b,v=.d (.bool b)∧Qf (.val (.d (.bool !b))) g')) (Qf (.val (.d (.bool false))) g'))))))))))
       (Br (intOf (fld x0 0)==8) (Br (((elO (fld x0 4)).length:Int)!=((elO (fld x0 4)).length:Int)) (Qf (.val (.d (.bool false))) g) (Br (!strOf (fld x0 1)==strOf (fld x0 1)) (Qf (.val (.d (.bool false))) g) (Br (!strOf (fld x0 2)==[]) (Qf (.val (.d (.bool false))) g) (Br (intOf (fld x0 3)!=intOf (.int .i64 0)) (Qf (.val (.d (.bool false))) g) (Br (((elO (fld x0 5)).length:Int)!=(([]:List Dat).length:Int)) (Qf (.val (.d (.bool false))) g) (EvF TT 171 [x0] g (KQ Qf λv g'=>∃b,v=.d (.bool b)∧Br (!b) (Qf (.val (.d (.bool false))) g') (EvF TT 77 [fld x0 5,.clo 172 []] g' (KQ Qf λv g'=>∃b,v=.d (.bool b)∧Br (!b) (EvF TT 168 [fld x0 4,.clo 174 []] g' (KQ Qf λv g'=>∃b,v=.d (.bool b)∧Qf (.val (.d (.bool !b))) g')) (Qf (.val (.d (.bool false))) g')))))))))) (Br (intOf (fld x0 0)==9) (Br (((elO (fld x0 4)).length:Int)!=2) (Qf (.val (.d (.bool false))) g) (Br (!strOf (fld x0 1)==strOf (fld x0 1)) (Qf (.val (.d (.bool false))) g) (Br (!strOf (fld x0 2)==[]) (Qf (.val (.d (.bool false))) g) (Br (intOf (fld x0 3)!=intOf (.int .i64 0)) (Qf (.val (.d (.bool false))) g) (Br (((elO (fld x0 5)).length:Int)!=(([]:List Dat).length:Int)) (Qf (.val (.d (.bool false))) g) (EvF TT 171 [x0] g (KQ Qf λv g'=>∃b,v=.d (.bool b)∧Br (!b) (Qf (.val (.d (.bool false))) g') (EvF TT 77 [fld x0 5,.clo 172 []] g' (KQ Qf λv g'=>∃b,v=.d (.bool b)∧Br (!b) (EvF TT 168 [fld x0 4,.clo 174 []] g' (KQ Qf λv g'=>∃b,v=.d (.bool b)∧Qf (.val (.d (.bool !b))) g')) (Qf (.val (.d (.bool false))) g')))))))))) (Br (intOf (fld x0 0)==10) (Br (((elO (fld x0 4)).length:Int)!=1) (Qf (.val (.d (.bool false))) g) (Br (!strOf (fld x0 1)==[]) (Qf (.val (.d (.bool false))) g) (Br (!strOf (fld x0 2)==[]) (Qf (.val (.d (.bool false))) g) (Br (intOf (fld x0 3)!=intOf (.int .i64 0)) (Qf (.val (.d (.bool false))) g) (Br (((elO (fld x0 5)).length:Int)!=(([]:List Dat).length:Int)) (Qf (.val (.d (.bool false))) g) (EvF TT 171 [x0] g (KQ Qf λv g'=>∃b,v=.d (.bool b)∧Br (!b) (Qf (.val (.d (.bool false))) g') (EvF TT 77 [fld x0 5,.clo 172 []] g' (KQ Qf λv g'=>∃b,v=.d (.bool b)∧Br (!b) (EvF TT 168 [fld x0 4,.clo 174 []] g' (KQ Qf λv g'=>∃b,v=.d (.bool b)∧Qf (.val (.d (.bool !b))) g')) (Qf (.val (.d (.bool false))) g')))))))))) (Qf (.val (.d (.bool false))) g))))))))))):
  EvF TT 105 [x0] g Qf:=
 sF Tryz.f105 [] [(26,x0)] ⟨h0,trivial⟩ h
theorem w174(h0:Ha TT 26 x0)
 (h:EvF TT 105 [x0] g (KQ Qf λv g'=>∃b,v=.d (.bool b)∧Qf (.val (.d (.bool !b))) g')):
 EvF TT 174 [x0] g Qf:=
 sF Tryz.f174 [] [(26,x0)] ⟨h0,trivial⟩ h
def L108_4(x18:Dat)(n19 n20:Int)(y1:Dat)(g:Glob)(Qf:OGP):=LC 108 Tryz.f108 [1,1,0,1,0] Qf 1 [(1,.loc 1 0 0),(18,.v 82 (x18)),(19,iv n19),(20,iv n20)] [(1,.whole 84 y1)] g
def L108_10(x29:Dat)(n30 n31:Int)(g:Glob)(Qf:OGP):=LC 108 Tryz.f108 [1,1,1,0,1,0] Qf 1 [(29,.v 81 (x29)),(30,iv n30),(31,iv n31)] [] g
def lo108:List CuI:=[⟨4,[K 1,K 18,K 19,K 20],[(1,.whole 84)]⟩,⟨10,[K 29,K 30,K 31],[]⟩]
theorem w108(h0:Ha TT 84 x0)
 (h:EvF TT 176 [.int .i64 1,.str (strOf (fld x0 0))] g (KQ Qf λv g'=>∃b,v=.d (.bool b)∧Br (!b) (Qf (.val (.d (.bool false))) g') (Br (((elO (fld x0 2)).length:Int)==0) (Qf (.val (.d (.bool false))) g') (L108_4 (fld x0 1) ((elO (fld x0 1)).length:Int) 0 x0 g' Qf)))):
 EvF TT 108 [x0] g Qf:=
 sF Tryz.f108 lo108 [(84,x0)] ⟨h0,trivial⟩ h
theorem w108_4
 (h:Br (decide (n20<n19)) (InB n20 (elO x18).length∧EvF TT 176 [.int .i64 3,.str (strOf (fld (gtE (elO x18) n20) 0))] g (KQ Qf λv g'=>∃b,v=.d (.bool b)∧Br (!b) (Qf (.val (.d (.bool false))) g') (L108_4 x18 n19 (IntKind.i64.wrap (n20+1)) y1 g' Qf))) (L108_10 (fld y1 2) ((elO (fld y1 2)).length:Int) 0 g Qf)):
 L108_4 x18 n19 n20 y1 g Qf:=sC lo108 h
theorem w108_10
 (h:Br (decide (n31<n30)) (InB n31 (elO x29).length∧EvF TT 176 [.int .i64 2,.str (strOf (fld (gtE (elO x29) n31) 0))] g (KQ Qf λv g'=>∃b,v=.d (.bool b)∧Br (!b) (Qf (.val (.d (.bool false))) g') (EvF TT 177 [fld (gtE (elO x29) n31) 1,.clo 178 []] g' (KQ Qf λv g'=>∃b,v=.d (.bool b)∧Br b (Qf (.val (.d (.bool false))) g') (L108_10 x29 n30 (IntKind.i64.wrap (n31+1)) g' Qf))))) (Qf (.val (.d (.bool true))) g)):
 L108_10 x29 n30 n31 g Qf:=sC lo108 h
theorem w107(h0:Ha TT 84 x0)
 (h:EvF TT 108 [x0] g (KQ Qf λv g'=>∃b,v=.d (.bool b)∧Qf (.val (.d (.bool !b))) g')):
 EvF TT 107 [x0] g Qf:=
 sF Tryz.f107 [] [(84,x0)] ⟨h0,trivial⟩ h
theorem w63(h0:Ha TT 28 x0)
 (h:EvF TT 62 [x0] g (KQ Qf λv g'=>∃n,v=.d (.int .i64 n)∧Br (n !=0) (Qf (.val (.d (.bool false))) g') (EvF TT 105 [sub x0 1 7] g' (KQ Qf λv g'=>∃b,v=.d (.bool b)∧Br (!b) (Qf (.val (.d (.bool false))) g') (EvF TT 106 [fld x0 0,.clo 107 []] g' (KQ Qf λv g'=>∃b,v=.d (.bool b)∧Qf (.val (.d (.bool !b))) g')))))):
 EvF TT 63 [x0] g Qf:=
 sF Tryz.f63 [] [(28,x0)] ⟨h0,trivial⟩ h
def L143_12(b3:Bool)(n4:Int)(y1:Dat)(g:Glob)(Qf:OGP):=LC 143 Tryz.f143 [1,1,1,0,1,0] Qf 1 [(1,.loc 1 0 0),(3,.v 4 (.bool b3)),(4,iv n4)] [(1,.whole 52 y1)] g
def lo143:List CuI:=[⟨12,[K 1,K 3,K 4],[(1,.whole 52)]⟩]
theorem w143(h0:Ha TT 52 x0)
 (h:Br (intOf (fld x0 0)==1) (Br (strOf (fld x0 1)==[]) (Br (intOf (fld x0 2)==0) (L143_12 (((elO (fld x0 3)).length:Int)==0) 0 x0 g Qf) (L143_12 false 0 x0 g Qf)) (L143_12 false 0 x0 g Qf)) (Br (intOf (fld x0 0)==2) (EvF TT 82 [.str (strOf (fld x0 1))] g (KQ Qf λv g'=>∃b,v=.d (.bool b)∧Br b (Br (intOf (fld x0 2)==0) (L143_12 (((elO (fld x0 3)).length:Int)==0) 0 x0 g' Qf) (L143_12 false 0 x0 g' Qf)) (L143_12 false 0 x0 g' Qf))) (Br (intOf (fld x0 0)==3) (Br (strOf (fld x0 1)==[]) (EvF TT 196 [.int .i64 (intOf (fld x0 2))] g (KQ Qf λv g'=>∃b,v=.d (.bool b)∧Br b (L143_12 (((elO (fld x0 3)).length:Int)==0) 0 x0 g' Qf) (L143_12 false 0 x0 g' Qf))) (L143_12 false 0 x0 g Qf)) (Br (intOf (fld x0 0)==4) (EvF TT 84 [.str (strOf (fld x0 1))] g (KQ Qf λv g'=>∃b,v=.d (.bool b)∧Br b (L143_12 (intOf (fld x0 2)==0) 0 x0 g' Qf) (L143_12 false 0 x0 g' Qf))) (L143_12 false 0 x0 g Qf))))):
 EvF TT 143 [x0] g Qf:=
 sF Tryz.f143 lo143 [(52,x0)] ⟨h0,trivial⟩ h
theorem w143_12
 (h:Br (decide (n4<((elO (fld y1 3)).length:Int))) (Br b3 (InB n4 (elO (fld y1 3)).length∧EvF TT 143 [gtE (elO (fld y1 3)) n4] g (KQ Qf λv g'=>∃b,v=.d (.bool b)∧L143_12 b (IntKind.i64.wrap (n4+1)) y1 g' Qf)) (Qf (.val (.d (.bool b3))) g)) (Qf (.val (.d (.bool b3))) g)):
 L143_12 b3 n4 y1 g Qf:=sC lo143 h
theorem w142(h0:Ha TT 26 x0)
 (h:Br (intOf (fld x0 0)!=6)
 (Br (!strOf (fld x0 2)==[]) (Qf (.val (.d (.bool false))) g)
  (Br (intOf (fld x0 0)!=2)
   (Br (intOf (fld x0 3)!=0) (Qf (.val (.d (.bool false))) g)
    (Br (intOf (fld x0 0)!=7) (Br (decide (0<((elO (fld x0 5)).length:Int))) (Qf (.val (.d (.bool false))) g) (Br (intOf (fld x0 0)==1) (EvF TT 82 [.str (strOf (fld x0 1))] g (KQ Qf λv g'=>∃b,v=.d (.bool b)∧Br b (Qf (.val (.d (.bool (((elO (fld x0 4)).length:Int)==0)))) g') (Qf (.val (.d (.bool false))) g'))) (Br (intOf (fld x0 0)==2) (Br (strOf (fld x0 1)==[]) (EvF TT 196 [.int .i64 (intOf (fld x0 3))] g (KQ Qf λv g'=>∃b,v=.d (.bool b)∧Br b (Qf (.val (.d (.bool (((elO (fld x0 4)).length:Int)==0)))) g') (Qf (.val (.d (.bool false))) g'))) (Qf (.val (.d (.bool false))) g)) (Br (intOf (fld x0 0)==3) (EvF TT 82 [.str (strOf (fld x0 1))] g (KQ Qf λv g'=>∃b,v=.d (.bool b)∧Br b (Qf (.val (.d (.bool (((elO (fld x0 4)).length:Int)==1)))) g') (Qf (.val (.d (.bool false))) g'))) (Br (intOf (fld x0 0)==4) (Br (strOf (fld x0 1)==[]) (Qf (.val (.d (.bool (((elO (fld x0 4)).length:Int)==2)))) g) (Qf (.val (.d (.bool false))) g)) (Br (intOf (fld x0 0)==5) (EvF TT 82 [.str (strOf (fld x0 1))] g (KQ Qf λv g'=>∃b,v=.d (.bool b)∧Br b (Qf (.val (.d (.bool (((elO (fld x0 4)).length:Int)==2)))) g') (Qf (.val (.d (.bool false))) g'))) (Br (intOf (fld x0 0)==6) (EvF TT 82 [.str (strOf (fld x0 1))] g (KQ Qf λv g'=>∃b,v=.d (.bool b)∧Br b (EvF TT 82 [.str (strOf (fld x0 2))] g' (KQ Qf λv g'=>∃b,v=.d (.bool b)∧Br b (Qf (.val (.d (.bool (((elO (fld x0 4)).length:Int)==2)))) g') (Qf (.val (.d (.bool false))) g'))) (Qf (.val (.d (.bool false))) g'))) (Br (intOf (fld x0 0)==7) (Br (strOf (fld x0 1)==[]) (Br (decide (0<((elO (fld x0 5)).length:Int))) (Qf (.val (.d (.bool (((elO (fld x0 4)).length:Int)==IntKind.i64.wrap (((elO (fld x0 5)).length:Int)+1))))) g) (Qf (.val (.d (.bool false))) g)) (Qf (.val (.d (.bool false))) g)) (Br (intOf (fld x0 0)==8) (EvF TT 84 [.str (strOf (fld x0 1))] g (KQ Qf λv g'=>∃b,v=.d (.bool b)∧Qf (.val (.d (.bool b))) g')) (Br (intOf (fld x0 0)==9) (EvF TT 197 [.str (strOf (fld x0 1))] g (KQ Qf λv g'=>∃n,v=.d (.int .i64 n)∧Br (decide (0<n)) (Qf (.val (.d (.bool (((elO (fld x0 4)).length:Int)==2)))) g') (Qf (.val (.d (.bool false))) g'))) (Br (intOf (fld x0 0)==10) (Br (strOf (fld x0 1)==[]) (Qf (.val (.d (.bool (((elO (fld x0 4)).length:Int)==1)))) g) (Qf (.val (.d (.bool false))) g)) (Qf (.val (.d (.bool false))) g))))))))))))
     (Br (intOf (fld x0 0)==1) (EvF TT 82 [.str (strOf (fld x0 1))] g (KQ Qf λv g'=>∃b,v=.d (.bool b)∧Br b (Qf (.val (.d (.bool (((elO (fld x0 4)).length:Int)==0)))) g') (Qf (.val (.d (.bool false))) g'))) (Br (intOf (fld x0 0)==2) (Br (strOf (fld x0 1)==[]) (EvF TT 196 [.int .i64 (intOf (fld x0 3))] g (KQ Qf λv g'=>∃b,v=.d (.bool b)∧Br b (Qf (.val (.d (.bool (((elO (fld x0 4)).length:Int)==0)))) g') (Qf (.val (.d (.bool false))) g'))) (Qf (.val (.d (.bool false))) g)) (Br (intOf (fld x0 0)==3) (EvF TT 82 [.str (strOf (fld x0 1))] g (KQ Qf λv g'=>∃b,v=.d (.bool b)∧Br b (Qf (.val (.d (.bool (((elO (fld x0 4)).length:Int)==1)))) g') (Qf (.val (.d (.bool false))) g'))) (Br (intOf (fld x0 0)==4) (Br (strOf (fld x0 1)==[]) (Qf (.val (.d (.bool (((elO (fld x0 4)).length:Int)==2)))) g) (Qf (.val (.d (.bool false))) g)) (Br (intOf (fld x0 0)==5) (EvF TT 82 [.str (strOf (fld x0 1))] g (KQ Qf λv g'=>∃b,v=.d (.bool b)∧Br b (Qf (.val (.d (.bool (((elO (fld x0 4)).length:Int)==2)))) g') (Qf (.val (.d (.bool false))) g'))) (Br (intOf (fld x0 0)==6) (EvF TT 82 [.str (strOf (fld x0 1))] g (KQ Qf λv g'=>∃b,v=.d (.bool b)∧Br b (EvF TT 82 [.str (strOf (fld x0 2))] g' (KQ Qf λv g'=>∃b,v=.d (.bool b)∧Br b (Qf (.val (.d (.bool (((elO (fld x0 4)).length:Int)==2)))) g') (Qf (.val (.d (.bool false))) g'))) (Qf (.val (.d (.bool false))) g'))) (Br (intOf (fld x0 0)==7) (Br (strOf (fld x0 1)==[]) (Br (decide (0<((elO (fld x0 5)).length:Int))) (Qf (.val (.d (.bool (((elO (fld x0 4)).length:Int)==IntKind.i64.wrap (((elO (fld x0 5)).length:Int)+1))))) g) (Qf (.val (.d (.bool false))) g)) (Qf (.val (.d (.bool false))) g)) (Br (intOf (fld x0 0)==8) (EvF TT 84 [.str (strOf (fld x0 1))] g (KQ Qf λv g'=>∃b,v=.d (.bool b)∧Qf (.val (.d (.bool b))) g')) (Br (intOf (fld x0 0)==9) (EvF TT 197 [.str (strOf (fld x0 1))] g (KQ Qf λv g'=>∃n,v=.d (.int .i64 n)∧Br (decide (0<n)) (Qf (.val (.d (.bool (((elO (fld x0 4)).length:Int)==2)))) g') (Qf (.val (.d (.bool false))) g'))) (Br (intOf (fld x0 0)==10) (Br (strOf (fld x0 1)==[]) (Qf (.val (.d (.bool (((elO (fld x0 4)).length:Int)==1)))) g) (Qf (.val (.d (.bool false))) g)) (Qf (.val (.d (.bool false))) g)))))))))))))
   (Br (intOf (fld x0 0)!=7) (Br (decide (0<((elO (fld x0 5)).length:Int))) (Qf (.val (.d (.bool false))) g) (Br (intOf (fld x0 0)==1) (EvF TT 82 [.str (strOf (fld x0 1))] g (KQ Qf λv g'=>∃b,v=.d (.bool b)∧Br b (Qf (.val (.d (.bool (((elO (fld x0 4)).length:Int)==0)))) g') (Qf (.val (.d (.bool false))) g'))) (Br (intOf (fld x0 0)==2) (Br (strOf (fld x0 1)==[]) (EvF TT 196 [.int .i64 (intOf (fld x0 3))] g (KQ Qf λv g'=>∃b,v=.d (.bool b)∧Br b (Qf (.val (.d (.bool (((elO (fld x0 4)).length:Int)==0)))) g') (Qf (.val (.d (.bool false))) g'))) (Qf (.val (.d (.bool false))) g)) (Br (intOf (fld x0 0)==3) (EvF TT 82 [.str (strOf (fld x0 1))] g (KQ Qf λv g'=>∃b,v=.d (.bool b)∧Br b (Qf (.val (.d (.bool (((elO (fld x0 4)).length:Int)==1)))) g') (Qf (.val (.d (.bool false))) g'))) (Br (intOf (fld x0 0)==4) (Br (strOf (fld x0 1)==[]) (Qf (.val (.d (.bool (((elO (fld x0 4)).length:Int)==2)))) g) (Qf (.val (.d (.bool false))) g)) (Br (intOf (fld x0 0)==5) (EvF TT 82 [.str (strOf (fld x0 1))] g (KQ Qf λv g'=>∃b,v=.d (.bool b)∧Br b (Qf (.val (.d (.bool (((elO (fld x0 4)).length:Int)==2)))) g') (Qf (.val (.d (.bool false))) g'))) (Br (intOf (fld x0 0)==6) (EvF TT 82 [.str (strOf (fld x0 1))] g (KQ Qf λv g'=>∃b,v=.d (.bool b)∧Br b (EvF TT 82 [.str (strOf (fld x0 2))] g' (KQ Qf λv g'=>∃b,v=.d (.bool b)∧Br b (Qf (.val (.d (.bool (((elO (fld x0 4)).length:Int)==2)))) g') (Qf (.val (.d (.bool false))) g'))) (Qf (.val (.d (.bool false))) g'))) (Br (intOf (fld x0 0)==7) (Br (strOf (fld x0 1)==[]) (Br (decide (0<((elO (fld x0 5)).length:Int))) (Qf (.val (.d (.bool (((elO (fld x0 4)).length:Int)==IntKind.i64.wrap (((elO (fld x0 5)).length:Int)+1))))) g) (Qf (.val (.d (.bool false))) g)) (Qf (.val (.d (.bool false))) g)) (Br (intOf (fld x0 0)==8) (EvF TT 84 [.str (strOf (fld x0 1))] g (KQ Qf λv g'=>∃b,v=.d (.bool b)∧Qf (.val (.d (.bool b))) g')) (Br (intOf (fld x0 0)==9) (EvF TT 197 [.str (strOf (fld x0 1))] g (KQ Qf λv g'=>∃n,v=.d (.int .i64 n)∧Br (decide (0<n)) (Qf (.val (.d (.bool (((elO (fld x0 4)).length:Int)==2)))) g') (Qf (.val (.d (.bool false))) g'))) (Br (intOf (fld x0 0)==10) (Br (strOf (fld x0 1)==[]) (Qf (.val (.d (.bool (((elO (fld x0 4)).length:Int)==1)))) g) (Qf (.val (.d (.bool false))) g)) (Qf (.val (.d (.bool false))) g))))))))))))
    (Br (intOf (fld x0 0)==1) (EvF TT 82 [.str (strOf (fld x0 1))] g (KQ Qf λv g'=>∃b,v=.d (.bool b)∧Br b (Qf (.val (.d (.bool (((elO (fld x0 4)).length:Int)==0)))) g') (Qf (.val (.d (.bool false))) g'))) (Br (intOf (fld x0 0)==2) (Br (strOf (fld x0 1)==[]) (EvF TT 196 [.int .i64 (intOf (fld x0 3))] g (KQ Qf λv g'=>∃b,v=.d (.bool b)∧Br b (Qf (.val (.d (.bool (((elO (fld x0 4)).length:Int)==0)))) g') (Qf (.val (.d (.bool false))) g'))) (Qf (.val (.d (.bool false))) g)) (Br (intOf (fld x0 0)==3) (EvF TT 82 [.str (strOf (fld x0 1))] g (KQ Qf λv g'=>∃b,v=.d (.bool b)∧Br b (Qf (.val (.d (.bool (((elO (fld x0 4)).length:Int)==1)))) g') (Qf (.val (.d (.bool false))) g'))) (Br (intOf (fld x0 0)==4) (Br (strOf (fld x0 1)==[]) (Qf (.val (.d (.bool (((elO (fld x0 4)).length:Int)==2)))) g) (Qf (.val (.d (.bool false))) g)) (Br (intOf (fld x0 0)==5) (EvF TT 82 [.str (strOf (fld x0 1))] g (KQ Qf λv g'=>∃b,v=.d (.bool b)∧Br b (Qf (.val (.d (.bool (((elO (fld x0 4)).length:Int)==2)))) g') (Qf (.val (.d (.bool false))) g'))) (Br (intOf (fld x0 0)==6) (EvF TT 82 [.str (strOf (fld x0 1))] g (KQ Qf λv g'=>∃b,v=.d (.bool b)∧Br b (EvF TT 82 [.str (strOf (fld x0 2))] g' (KQ Qf λv g'=>∃b,v=.d (.bool b)∧Br b (Qf (.val (.d (.bool (((elO (fld x0 4)).length:Int)==2)))) g') (Qf (.val (.d (.bool false))) g'))) (Qf (.val (.d (.bool false))) g'))) (Br (intOf (fld x0 0)==7) (Br (strOf (fld x0 1)==[]) (Br (decide (0<((elO (fld x0 5)).length:Int))) (Qf (.val (.d (.bool (((elO (fld x0 4)).length:Int)==IntKind.i64.wrap (((elO (fld x0 5)).length:Int)+1))))) g) (Qf (.val (.d (.bool false))) g)) (Qf (.val (.d (.bool false))) g)) (Br (intOf (fld x0 0)==8) (EvF TT 84 [.str (strOf (fld x0 1))] g (KQ Qf λv g'=>∃b,v=.d (.bool b)∧Qf (.val (.d (.bool b))) g')) (Br (intOf (fld x0 0)==9) (EvF TT 197 [.str (strOf (fld x0 1))] g (KQ Qf λv g'=>∃n,v=.d (.int .i64 n)∧Br (decide (0<n)) (Qf (.val (.d (.bool (((elO (fld x0 4)).length:Int)==2)))) g') (Qf (.val (.d (.bool false))) g'))) (Br (intOf (fld x0 0)==10) (Br (strOf (fld x0 1)==[]) (Qf (.val (.d (.bool (((elO (fld x0 4)).length:Int)==1)))) g) (Qf (.val (.d (.bool false))) g)) (Qf (.val (.d (.bool false))) g))))))))))))))
 (Br (intOf (fld x0 0)!=2)
  (Br (intOf (fld x0 3)!=0) (Qf (.val (.d (.bool false))) g)
   (Br (intOf (fld x0 0)!=7) (Br (decide (0<((elO (fld x0 5)).length:Int))) (Qf (.val (.d (.bool false))) g) (Br (intOf (fld x0 0)==1) (EvF TT 82 [.str (strOf (fld x0 1))] g (KQ Qf λv g'=>∃b,v=.d (.bool b)∧Br b (Qf (.val (.d (.bool (((elO (fld x0 4)).length:Int)==0)))) g') (Qf (.val (.d (.bool false))) g'))) (Br (intOf (fld x0 0)==2) (Br (strOf (fld x0 1)==[]) (EvF TT 196 [.int .i64 (intOf (fld x0 3))] g (KQ Qf λv g'=>∃b,v=.d (.bool b)∧Br b (Qf (.val (.d (.bool (((elO (fld x0 4)).length:Int)==0)))) g') (Qf (.val (.d (.bool false))) g'))) (Qf (.val (.d (.bool false))) g)) (Br (intOf (fld x0 0)==3) (EvF TT 82 [.str (strOf (fld x0 1))] g (KQ Qf λv g'=>∃b,v=.d (.bool b)∧Br b (Qf (.val (.d (.bool (((elO (fld x0 4)).length:Int)==1)))) g') (Qf (.val (.d (.bool false))) g'))) (Br (intOf (fld x0 0)==4) (Br (strOf (fld x0 1)==[]) (Qf (.val (.d (.bool (((elO (fld x0 4)).length:Int)==2)))) g) (Qf (.val (.d (.bool false))) g)) (Br (intOf (fld x0 0)==5) (EvF TT 82 [.str (strOf (fld x0 1))] g (KQ Qf λv g'=>∃b,v=.d (.bool b)∧Br b (Qf (.val (.d (.bool (((elO (fld x0 4)).length:Int)==2)))) g') (Qf (.val (.d (.bool false))) g'))) (Br (intOf (fld x0 0)==6) (EvF TT 82 [.str (strOf (fld x0 1))] g (KQ Qf λv g'=>∃b,v=.d (.bool b)∧Br b (EvF TT 82 [.str (strOf (fld x0 2))] g' (KQ Qf λv g'=>∃b,v=.d (.bool b)∧Br b (Qf (.val (.d (.bool (((elO (fld x0 4)).length:Int)==2)))) g') (Qf (.val (.d (.bool false))) g'))) (Qf (.val (.d (.bool false))) g'))) (Br (intOf (fld x0 0)==7) (Br (strOf (fld x0 1)==[]) (Br (decide (0<((elO (fld x0 5)).length:Int))) (Qf (.val (.d (.bool (((elO (fld x0 4)).length:Int)==IntKind.i64.wrap (((elO (fld x0 5)).length:Int)+1))))) g) (Qf (.val (.d (.bool false))) g)) (Qf (.val (.d (.bool false))) g)) (Br (intOf (fld x0 0)==8) (EvF TT 84 [.str (strOf (fld x0 1))] g (KQ Qf λv g'=>∃b,v=.d (.bool b)∧Qf (.val (.d (.bool b))) g')) (Br (intOf (fld x0 0)==9) (EvF TT 197 [.str (strOf (fld x0 1))] g (KQ Qf λv g'=>∃n,v=.d (.int .i64 n)∧Br (decide (0<n)) (Qf (.val (.d (.bool (((elO (fld x0 4)).length:Int)==2)))) g') (Qf (.val (.d (.bool false))) g'))) (Br (intOf (fld x0 0)==10) (Br (strOf (fld x0 1)==[]) (Qf (.val (.d (.bool (((elO (fld x0 4)).length:Int)==1)))) g) (Qf (.val (.d (.bool false))) g)) (Qf (.val (.d (.bool false))) g))))))))))))
    (Br (intOf (fld x0 0)==1) (EvF TT 82 [.str (strOf (fld x0 1))] g (KQ Qf λv g'=>∃b,v=.d (.bool b)∧Br b (Qf (.val (.d (.bool (((elO (fld x0 4)).length:Int)==0)))) g') (Qf (.val (.d (.bool false))) g'))) (Br (intOf (fld x0 0)==2) (Br (strOf (fld x0 1)==[]) (EvF TT 196 [.int .i64 (intOf (fld x0 3))] g (KQ Qf λv g'=>∃b,v=.d (.bool b)∧Br b (Qf (.val (.d (.bool (((elO (fld x0 4)).length:Int)==0)))) g') (Qf (.val (.d (.bool false))) g'))) (Qf (.val (.d (.bool false))) g)) (Br (intOf (fld x0 0)==3) (EvF TT 82 [.str (strOf (fld x0 1))] g (KQ Qf λv g'=>∃b,v=.d (.bool b)∧Br b (Qf (.val (.d (.bool (((elO (fld x0 4)).length:Int)==1)))) g') (Qf (.val (.d (.bool false))) g'))) (Br (intOf (fld x0 0)==4) (Br (strOf (fld x0 1)==[]) (Qf (.val (.d (.bool (((elO (fld x0 4)).length:Int)==2)))) g) (Qf (.val (.d (.bool false))) g)) (Br (intOf (fld x0 0)==5) (EvF TT 82 [.str (strOf (fld x0 1))] g (KQ Qf λv g'=>∃b,v=.d (.bool b)∧Br b (Qf (.val (.d (.bool (((elO (fld x0 4)).length:Int)==2)))) g') (Qf (.val (.d (.bool false))) g'))) (Br (intOf (fld x0 0)==6) (EvF TT 82 [.str (strOf (fld x0 1))] g (KQ Qf λv g'=>∃b,v=.d (.bool b)∧Br b (EvF TT 82 [.str (strOf (fld x0 2))] g' (KQ Qf λv g'=>∃b,v=.d (.bool b)∧Br b (Qf (.val (.d (.bool (((elO (fld x0 4)).length:Int)==2)))) g') (Qf (.val (.d (.bool false))) g'))) (Qf (.val (.d (.bool false))) g'))) (Br (intOf (fld x0 0)==7) (Br (strOf (fld x0 1)==[]) (Br (decide (0<((elO (fld x0 5)).length:Int))) (Qf (.val (.d (.bool (((elO (fld x0 4)).length:Int)==IntKind.i64.wrap (((elO (fld x0 5)).length:Int)+1))))) g) (Qf (.val (.d (.bool false))) g)) (Qf (.val (.d (.bool false))) g)) (Br (intOf (fld x0 0)==8) (EvF TT 84 [.str (strOf (fld x0 1))] g (KQ Qf λv g'=>∃b,v=.d (.bool b)∧Qf (.val (.d (.bool b))) g')) (Br (intOf (fld x0 0)==9) (EvF TT 197 [.str (strOf (fld x0 1))] g (KQ Qf λv g'=>∃n,v=.d (.int .i64 n)∧Br (decide (0<n)) (Qf (.val (.d (.bool (((elO (fld x0 4)).length:Int)==2)))) g') (Qf (.val (.d (.bool false))) g'))) (Br (intOf (fld x0 0)==10) (Br (strOf (fld x0 1)==[]) (Qf (.val (.d (.bool (((elO (fld x0 4)).length:Int)==1)))) g) (Qf (.val (.d (.bool false))) g)) (Qf (.val (.d (.bool false))) g)))))))))))))
  (Br (intOf (fld x0 0)!=7) (Br (decide (0<((elO (fld x0 5)).length:Int))) (Qf (.val (.d (.bool false))) g) (Br (intOf (fld x0 0)==1) (EvF TT 82 [.str (strOf (fld x0 1))] g (KQ Qf λv g'=>∃b,v=.d (.bool b)∧Br b (Qf (.val (.d (.bool (((elO (fld x0 4)).length:Int)==0)))) g') (Qf (.val (.d (.bool false))) g'))) (Br (intOf (fld x0 0)==2) (Br (strOf (fld x0 1)==[]) (EvF TT 196 [.int .i64 (intOf (fld x0 3))] g (KQ Qf λv g'=>∃b,v=.d (.bool b)∧Br b (Qf (.val (.d (.bool (((elO (fld x0 4)).length:Int)==0)))) g') (Qf (.val (.d (.bool false))) g'))) (Qf (.val (.d (.bool false))) g)) (Br (intOf (fld x0 0)==3) (EvF TT 82 [.str (strOf (fld x0 1))] g (KQ Qf λv g'=>∃b,v=.d (.bool b)∧Br b (Qf (.val (.d (.bool (((elO (fld x0 4)).length:Int)==1)))) g') (Qf (.val (.d (.bool false))) g'))) (Br (intOf (fld x0 0)==4) (Br (strOf (fld x0 1)==[]) (Qf (.val (.d (.bool (((elO (fld x0 4)).length:Int)==2)))) g) (Qf (.val (.d (.bool false))) g)) (Br (intOf (fld x0 0)==5) (EvF TT 82 [.str (strOf (fld x0 1))] g (KQ Qf λv g'=>∃b,v=.d (.bool b)∧Br b (Qf (.val (.d (.bool (((elO (fld x0 4)).length:Int)==2)))) g') (Qf (.val (.d (.bool false))) g'))) (Br (intOf (fld x0 0)==6) (EvF TT 82 [.str (strOf (fld x0 1))] g (KQ Qf λv g'=>∃b,v=.d (.bool b)∧Br b (EvF TT 82 [.str (strOf (fld x0 2))] g' (KQ Qf λv g'=>∃b,v=.d (.bool b)∧Br b (Qf (.val (.d (.bool (((elO (fld x0 4)).length:Int)==2)))) g') (Qf (.val (.d (.bool false))) g'))) (Qf (.val (.d (.bool false))) g'))) (Br (intOf (fld x0 0)==7) (Br (strOf (fld x0 1)==[]) (Br (decide (0<((elO (fld x0 5)).length:Int))) (Qf (.val (.d (.bool (((elO (fld x0 4)).length:Int)==IntKind.i64.wrap (((elO (fld x0 5)).length:Int)+1))))) g) (Qf (.val (.d (.bool false))) g)) (Qf (.val (.d (.bool false))) g)) (Br (intOf (fld x0 0)==8) (EvF TT 84 [.str (strOf (fld x0 1))] g (KQ Qf λv g'=>∃b,v=.d (.bool b)∧Qf (.val (.d (.bool b))) g')) (Br (intOf (fld x0 0)==9) (EvF TT 197 [.str (strOf (fld x0 1))] g (KQ Qf λv g'=>∃n,v=.d (.int .i64 n)∧Br (decide (0<n)) (Qf (.val (.d (.bool (((elO (fld x0 4)).length:Int)==2)))) g') (Qf (.val (.d (.bool false))) g'))) (Br (intOf (fld x0 0)==10) (Br (strOf (fld x0 1)==[]) (Qf (.val (.d (.bool (((elO (fld x0 4)).length:Int)==1)))) g) (Qf (.val (.d (.bool false))) g)) (Qf (.val (.d (.bool false))) g))))))))))))
   (Br (intOf (fld x0 0)==1) (EvF TT 82 [.str (strOf (fld x0 1))] g (KQ Qf λv g'=>∃b,v=.d (.bool b)∧Br b (Qf (.val (.d (.bool (((elO (fld x0 4)).length:Int)==0)))) g') (Qf (.val (.d (.bool false))) g'))) (Br (intOf (fld x0 0)==2) (Br (strOf (fld x0 1)==[]) (EvF TT 196 [.int .i64 (intOf (fld x0 3))] g (KQ Qf λv g'=>∃b,v=.d (.bool b)∧Br b (Qf (.val (.d (.bool (((elO (fld x0 4)).length:Int)==0)))) g') (Qf (.val (.d (.bool false))) g'))) (Qf (.val (.d (.bool false))) g)) (Br (intOf (fld x0 0)==3) (EvF TT 82 [.str (strOf (fld x0 1))] g (KQ Qf λv g'=>∃b,v=.d (.bool b)∧Br b (Qf (.val (.d (.bool (((elO (fld x0 4)).length:Int)==1)))) g') (Qf (.val (.d (.bool false))) g'))) (Br (intOf (fld x0 0)==4) (Br (strOf (fld x0 1)==[]) (Qf (.val (.d (.bool (((elO (fld x0 4)).length:Int)==2)))) g) (Qf (.val (.d (.bool false))) g)) (Br (intOf (fld x0 0)==5) (EvF TT 82 [.str (strOf (fld x0 1))] g (KQ Qf λv g'=>∃b,v=.d (.bool b)∧Br b (Qf (.val (.d (.bool (((elO (fld x0 4)).length:Int)==2)))) g') (Qf (.val (.d (.bool false))) g'))) (Br (intOf (fld x0 0)==6) (EvF TT 82 [.str (strOf (fld x0 1))] g (KQ Qf λv g'=>∃b,v=.d (.bool b)∧Br b (EvF TT 82 [.str (strOf (fld x0 2))] g' (KQ Qf λv g'=>∃b,v=.d (.bool b)∧Br b (Qf (.val (.d (.bool (((elO (fld x0 4)).length:Int)==2)))) g') (Qf (.val (.d (.bool false))) g'))) (Qf (.val (.d (.bool false))) g'))) (Br (intOf (fld x0 0)==7) (Br (strOf (fld x0 1)==[]) (Br (decide (0<((elO (fld x0 5)).length:Int))) (Qf (.val (.d (.bool (((elO (fld x0 4)).length:Int)==IntKind.i64.wrap (((elO (fld x0 5)).length:Int)+1))))) g) (Qf (.val (.d (.bool false))) g)) (Qf (.val (.d (.bool false))) g)) (Br (intOf (fld x0 0)==8) (EvF TT 84 [.str (strOf (fld x0 1))] g (KQ Qf λv g'=>∃b,v=.d (.bool b)∧Qf (.val (.d (.bool b))) g')) (Br (intOf (fld x0 0)==9) (EvF TT 197 [.str (strOf (fld x0 1))] g (KQ Qf λv g'=>∃n,v=.d (.int .i64 n)∧Br (decide (0<n)) (Qf (.val (.d (.bool (((elO (fld x0 4)).length:Int)==2)))) g') (Qf (.val (.d (.bool false))) g'))) (Br (intOf (fld x0 0)==10) (Br (strOf (fld x0 1)==[]) (Qf (.val (.d (.bool (((elO (fld x0 4)).length:Int)==1)))) g) (Qf (.val (.d (.bool false))) g)) (Qf (.val (.d (.bool false))) g)))))))))))))):
  EvF TT 142 [x0] g Qf:=
 sF Tryz.f142 [] [(26,x0)] ⟨h0,trivial⟩ h
def L86_17(n1 n6:Int)(y2:Dat)(g:Glob)(Qf:OGP):=LC 86 Tryz.f86 [1,1,1,1,1,1,0,1,0] Qf 2 [(1,iv n1),(2,.loc 2 0 0),(6,iv n6)] [(2,.whole 61 y2)] g
def lo86:List CuI:=[⟨17,[K 1,K 2,K 6],[(2,.whole 61)]⟩]
theorem w86(h0:Ha TT 61 x0)
 (h:Br (decide (n1<1)) (Qf (.val (.d (.int .i64 (-1)))) g) (Br (intOf (fld x0 2)!=0) (Qf (.val (.d (.int .i64 (-1)))) g) (Br (intOf (fld x0 0)==1) (Br (strOf (fld x0 1)==[]) (Br (!((elO (fld x0 3)).length:Int)==0) (Qf (.val (.d (.int .i64 (-1)))) g) (L86_17 (IntKind.i64.wrap (n1-1)) 0 x0 g Qf)) (Qf (.val (.d (.int .i64 (-1)))) g)) (Br (intOf (fld x0 0)==2) (EvF TT 83 [.str (strOf (fld x0 1)),.bool true] g (KQ Qf λv g'=>∃b,v=.d (.bool b)∧Br b (Br (!((elO (fld x0 3)).length:Int)==0) (Qf (.val (.d (.int .i64 (-1)))) g') (L86_17 (IntKind.i64.wrap (n1-1)) 0 x0 g' Qf)) (Qf (.val (.d (.int .i64 (-1)))) g'))) (Br (intOf (fld x0 0)==3) (Br (strOf (fld x0 1)==[]) (Br (!((elO (fld x0 3)).length:Int)==2) (Qf (.val (.d (.int .i64 (-1)))) g) (L86_17 (IntKind.i64.wrap (n1-1)) 0 x0 g Qf)) (Qf (.val (.d (.int .i64 (-1)))) g)) (Br (intOf (fld x0 0)==4) (EvF TT 82 [.str (strOf (fld x0 1))] g (KQ Qf λv g'=>∃b,v=.d (.bool b)∧Br b (Br (!!strOf (fld x0 1)==[105,110,116]) (Qf (.val (.d (.int .i64 (-1)))) g') (L86_17 (IntKind.i64.wrap (n1-1)) 0 x0 g' Qf)) (Qf (.val (.d (.int .i64 (-1)))) g'))) (Qf (.val (.d (.int .i64 (-1)))) g))))))):
 EvF TT 86 [x0,.int .i64 n1] g Qf:=
 sF Tryz.f86 lo86 [(61,x0),(3,.int .i64 n1)] ⟨h0,tyI rfl,trivial⟩ h
theorem w86_17
 (h:Br (decide (n6<((elO (fld y2 3)).length:Int))) (Br (decide (0≤n1)) (InB n6 (elO (fld y2 3)).length∧EvF TT 86 [gtE (elO (fld y2 3)) n6,.int .i64 n1] g (KQ Qf λv g'=>∃n,v=.d (.int .i64 n)∧L86_17 n (IntKind.i64.wrap (n6+1)) y2 g' Qf)) (Qf (.val (.d (.int .i64 n1))) g)) (Qf (.val (.d (.int .i64 n1))) g)):
 L86_17 n1 n6 y2 g Qf:=sC lo86 h
def L88_4(n3:Int)(y1:Dat)(g:Glob)(Qf:OGP):=LC 88 Tryz.f88 [1,1,0,1,0] Qf 1 [(1,.loc 1 0 0),(3,iv n3)] [(1,.whole 26 y1)] g
def L88_9(n4:Int)(y1:Dat)(g:Glob)(Qf:OGP):=LC 88 Tryz.f88 [1,1,1,0,1,0] Qf 1 [(1,.loc 1 0 0),(4,iv n4)] [(1,.whole 26 y1)] g
def lo88:List CuI:=[⟨4,[K 1,K 3],[(1,.whole 26)]⟩,⟨9,[K 1,K 4],[(1,.whole 26)]⟩]
theorem w88(h0:Ha TT 26 x0)
 (h:EvF TT 142 [x0] g (KQ Qf λv g'=>∃b,v=.d (.bool b)∧Br (!b) (Qf (.val (.d (.bool false))) g') (L88_4 0 x0 g' Qf))):
 EvF TT 88 [x0] g Qf:=
 sF Tryz.f88 lo88 [(26,x0)] ⟨h0,trivial⟩ h
theorem w88_4
 (h:Br (decide (n3<((elO (fld y1 5)).length:Int))) (InB n3 (elO (fld y1 5)).length∧EvF TT 143 [gtE (elO (fld y1 5)) n3] g (KQ Qf λv g'=>∃b,v=.d (.bool b)∧Br (!b) (Qf (.val (.d (.bool false))) g') (L88_4 (IntKind.i64.wrap (n3+1)) y1 g' Qf))) (L88_9 0 y1 g Qf)):
 L88_4 n3 y1 g Qf:=sC lo88 h
theorem w88_9
 (h:Br (decide (n4<((elO (fld y1 4)).length:Int))) (InB n4 (elO (fld y1 4)).length∧EvF TT 88 [gtE (elO (fld y1 4)) n4] g (KQ Qf λv g'=>∃b,v=.d (.bool b)∧Br (!b) (Qf (.val (.d (.bool false))) g') (L88_9 (IntKind.i64.wrap (n4+1)) y1 g' Qf))) (Qf (.val (.d (.bool true))) g)):
 L88_9 n4 y1 g Qf:=sC lo88 h
def L52_4(n3:Int)(y1:Dat)(g:Glob)(Qf:OGP):=LC 52 Tryz.f52 [1,1,0,1,0] Qf 1 [(1,.loc 1 0 0),(3,iv n3)] [(1,.whole 28 y1)] g
def L52_10(n3 n5:Int)(y4 y1:Dat)(g:Glob)(Qf:OGP):=LC 52 Tryz.f52 [1,1,0,1,0,0,1,0,0,1,1,0,1,0] Qf 1 [(1,.loc 1 0 0),(3,iv n3),(4,.loc 4 0 0),(5,iv n5)] [(4,.whole 84 y4),(1,.whole 28 y1)] g
def L52_15(n3 n6:Int)(y4 y1:Dat)(g:Glob)(Qf:OGP):=LC 52 Tryz.f52 [1,1,0,1,0,0,1,0,0,1,1,1,1,0] Qf 1 [(1,.loc 1 0 0),(3,iv n3),(4,.loc 4 0 0),(6,iv n6)] [(4,.whole 84 y4),(1,.whole 28 y1)] g
def L52_20(n3 n6 n7:Int)(y4 y1:Dat)(g:Glob)(Qf:OGP):=LC 52 Tryz.f52 [1,1,0,1,0,0,1,0,0,1,1,1,1,0,0,1,0,0,1,1,0] Qf 1 [(1,.loc 1 0 0),(3,iv n3),(4,.loc 4 0 0),(6,iv n6),(7,iv n7)] [(4,.whole 84 y4),(1,.whole 28 y1)] g
def lo52:List CuI:=[⟨4,[K 1,K 3],[(1,.whole 28)]⟩,⟨10,[K 1,K 3,K 4,K 5],[(4,.whole 84),(1,.whole 28)]⟩,⟨15,[K 1,K 3,K 4,K 6],[(4,.whole 84),(1,.whole 28)]⟩,⟨20,[K 1,K 3,K 4,K 6,K 7],[(4,.whole 84),(1,.whole 28)]⟩]
theorem w52(h0:Ha TT 28 x0)
 (h:Br (decide (32<((elO (fld x0 0)).length:Int))) (Qf (.val (.d (.bool false))) g) (EvF TT 8 [x0] g (KQ Qf λv g'=>∃n,v=.d (.int .i64 n)∧Br (decide (2048<n)) (Qf (.val (.d (.bool false))) g') (L52_4 0 x0 g' Qf)))):
 EvF TT 52 [x0] g Qf:=
 sF Tryz.f52 lo52 [(28,x0)] ⟨h0,trivial⟩ h
theorem w52_4
 (h:Br (decide (n3<((elO (fld y1 0)).length:Int))) (InB n3 (elO (fld y1 0)).length∧EvF TT 82 [.str (strOf (fld (gtE (elO (fld y1 0)) n3) 0))] g (KQ Qf λv g'=>∃b,v=.d (.bool b)∧Br (!b) (Qf (.val (.d (.bool false))) g') (Br (((elO (fld (gtE (elO (fld y1 0)) n3) 2)).length:Int)==0) (Qf (.val (.d (.bool false))) g') (Br (decide (32<((elO (fld (gtE (elO (fld y1 0)) n3) 2)).length:Int))) (Qf (.val (.d (.bool false))) g') (Br (decide (4<((elO (fld (gtE (elO (fld y1 0)) n3) 1)).length:Int))) (Qf (.val (.d (.bool false))) g') (L52_10 n3 0 (gtE (elO (fld y1 0)) n3) y1 g' Qf)))))) (EvF TT 87 [y1] g (KQ Qf λv g'=>∃n,v=.d (.int .i64 n)∧Br (n==0) (EvF TT 88 [sub y1 1 7] g' (KQ Qf λv g'=>∃b,v=.d (.bool b)∧Qf (.val (.d (.bool b))) g')) (Qf (.val (.d (.bool false))) g')))):
 L52_4 n3 y1 g Qf:=sC lo52 h
theorem w52_10
 (h:Br (decide (n5<((elO (fld y4 1)).length:Int))) (InB n5 (elO (fld y4 1)).length∧EvF TT 83 [.str (strOf (fld (gtE (elO (fld y4 1)) n5) 0)),.bool true] g (KQ Qf λv g'=>∃b,v=.d (.bool b)∧Br (!b) (Qf (.val (.d (.bool false))) g') (L52_10 n3 (IntKind.i64.wrap (n5+1)) y4 y1 g' Qf))) (L52_15 n3 0 y4 y1 g Qf)):
 L52_10 n3 n5 y4 y1 g Qf:=sC lo52 h
theorem w52_15
 (h:Br (decide (n6<((elO (fld y4 2)).length:Int))) (InB n6 (elO (fld y4 2)).length∧EvF TT 84 [.str (strOf (fld (gtE (elO (fld y4 2)) n6) 0))] g (KQ Qf λv g'=>∃b,v=.d (.bool b)∧Br (!b) (Qf (.val (.d (.bool false))) g') (InB n6 (elO (fld y4 2)).length∧Br (decide (8<((elO (fld (gtE (elO (fld y4 2)) n6) 1)).length:Int))) (Qf (.val (.d (.bool false))) g') (L52_20 n3 n6 0 y4 y1 g' Qf)))) (L52_4 (IntKind.i64.wrap (n3+1)) y1 g Qf)):
 L52_15 n3 n6 y4 y1 g Qf:=sC lo52 h
theorem w52_20
 (h:InB n6 (elO (fld y4 2)).length∧Br (decide (n7<((elO (fld (gtE (elO (fld y4 2)) n6) 1)).length:Int))) (InB n6 (elO (fld y4 2)).length∧InB n7 (elO (fld (gtE (elO (fld y4 2)) n6) 1)).length∧EvF TT 85 [gtE (elO (fld (gtE (elO (fld y4 2)) n6) 1)) n7,.int .i64 256] g (KQ Qf λv g'=>∃b,v=.d (.bool b)∧Br b (Qf (.val (.d (.bool false))) g') (InB n6 (elO (fld y4 2)).length∧InB n7 (elO (fld (gtE (elO (fld y4 2)) n6) 1)).length∧EvF TT 86 [gtE (elO (fld (gtE (elO (fld y4 2)) n6) 1)) n7,.int .i64 1048576] g' (KQ Qf λv g'=>∃n,v=.d (.int .i64 n)∧Br (decide (n<0)) (Qf (.val (.d (.bool false))) g') (L52_20 n3 n6 (IntKind.i64.wrap (n7+1)) y4 y1 g' Qf))))) (L52_15 n3 (IntKind.i64.wrap (n6+1)) y4 y1 g Qf)):
 L52_20 n3 n6 n7 y4 y1 g Qf:=sC lo52 h
end Go.Proofs.YtiheejdkkjfenaaGreatDoor.Pa
namespace Go.Proofs.YtiheejdkkjfenaaGreatDoor.Pa
open Go Go.Proofs.YtiheejdkkjfenaaGreatDoor.Am
def opL:List Str:=[[43],[45],[42],[47],[37],[60],[61,61]]
def ixF(s:Str):List Str→Int→Int
 |[],_=>0
 |x::l,i=>bif x==s then i else ixF s l (i+1)
def opN(s:Str):Int:=ixF s opL 1
section
variable{s:Str}{g:Glob}{Qf:OGP}
theorem qi{a b:Int}(h:Qf (.val (.d (.int .i64 a))) g)(e:a=b):Qf (.val (.d (.int .i64 b))) g:=e▸h
theorem iO(hs:s.length≤2^40)(hQ:Qf (.val (.d (.int .i64 (opN s)))) g):EvF TT 210 [.str s] g Qf:=by
 refine w210 hs (w231 ⟨_,?_,rfl,?_⟩)
 ·refine stu (tys:=[9,9,9,9,9,9,9,9]) (by kernel_rfl) (by kernel_rfl) (by kernel_rfl) ⟨?_,?_,?_,?_,?_,?_,?_,?_,trivial⟩<;>exact tsr (by simp)
 ·simp only[opN,opL,ixF] at hQ;refine w210_2 ?_;refine Bi.2 ⟨λ_=>?_,λh=>by simp at h⟩;simp only[show((0:Int)==7)=false from rfl,show((0:Int)==6)=false from rfl,show((0:Int)==5)=false from rfl,show((0:Int)==4)=false from rfl,show((0:Int)==3)=false from rfl,show((0:Int)==2)=false from rfl,show((0:Int)==1)=false from rfl,show((0:Int)==0)=true from rfl,Be,Bf,show decide ((0:Int)<0)=false from rfl,show IntKind.i64.wrap (0+1)=1 from rfl];have step:∀{X:Prop} {b:Bool},X→Br b X X:=λh=>by cases ‹Bool›<;>exact h
  refine step ?_;refine w210_2 (Bi.2 ⟨λ_=>?_,λh=>by simp at h⟩);simp only[show((1:Int)==7)=false from rfl,show((1:Int)==6)=false from rfl,show((1:Int)==5)=false from rfl,show((1:Int)==4)=false from rfl,show((1:Int)==3)=false from rfl,show((1:Int)==2)=false from rfl,show((1:Int)==1)=true from rfl,show((1:Int)==0)=false from rfl,Be,Bf,show decide ((0:Int)<1)=true from rfl,show IntKind.i64.wrap (1+1)=2 from rfl];refine Bi.2 ⟨λq=>?_,λq=>?_⟩
  ·rw[show(([43]:Str)==s)=true from q] at hQ;exact hQ
  rw[show(([43]:Str)==s)=false from q,cond_false] at hQ;refine w210_2 (Bi.2 ⟨λ_=>?_,λh=>by simp at h⟩);simp only[show((2:Int)==7)=false from rfl,show((2:Int)==6)=false from rfl,show((2:Int)==5)=false from rfl,show((2:Int)==4)=false from rfl,show((2:Int)==3)=false from rfl,show((2:Int)==2)=true from rfl,show((2:Int)==1)=false from rfl,show((2:Int)==0)=false from rfl,Be,Bf,show decide ((0:Int)<2)=true from rfl,show IntKind.i64.wrap (2+1)=3 from rfl];refine Bi.2 ⟨λq=>?_,λq=>?_⟩
  ·rw[show(([45]:Str)==s)=true from q] at hQ;exact hQ
  rw[show(([45]:Str)==s)=false from q,cond_false] at hQ;refine w210_2 (Bi.2 ⟨λ_=>?_,λh=>by simp at h⟩);simp only[show((3:Int)==7)=false from rfl,show((3:Int)==6)=false from rfl,show((3:Int)==5)=false from rfl,show((3:Int)==4)=false from rfl,show((3:Int)==3)=true from rfl,show((3:Int)==2)=false from rfl,show((3:Int)==1)=false from rfl,show((3:Int)==0)=false from rfl,Be,Bf,show decide ((0:Int)<3)=true from rfl,show IntKind.i64.wrap (3+1)=4 from rfl];refine Bi.2 ⟨λq=>?_,λq=>?_⟩
  ·rw[show(([42]:Str)==s)=true from q] at hQ;exact hQ
  rw[show(([42]:Str)==s)=false from q,cond_false] at hQ;refine w210_2 (Bi.2 ⟨λ_=>?_,λh=>by simp at h⟩);simp only[show((4:Int)==7)=false from rfl,show((4:Int)==6)=false from rfl,show((4:Int)==5)=false from rfl,show((4:Int)==4)=true from rfl,show((4:Int)==3)=false from rfl,show((4:Int)==2)=false from rfl,show((4:Int)==1)=false from rfl,show((4:Int)==0)=false from rfl,Be,Bf,show decide ((0:Int)<4)=true from rfl,show IntKind.i64.wrap (4+1)=5 from rfl];refine Bi.2 ⟨λq=>?_,λq=>?_⟩
  ·rw[show(([47]:Str)==s)=true from q] at hQ;exact hQ
  rw[show(([47]:Str)==s)=false from q,cond_false] at hQ;refine w210_2 (Bi.2 ⟨λ_=>?_,λh=>by simp at h⟩);simp only[show((5:Int)==7)=false from rfl,show((5:Int)==6)=false from rfl,show((5:Int)==5)=true from rfl,show((5:Int)==4)=false from rfl,show((5:Int)==3)=false from rfl,show((5:Int)==2)=false from rfl,show((5:Int)==1)=false from rfl,show((5:Int)==0)=false from rfl,Be,Bf,show decide ((0:Int)<5)=true from rfl,show IntKind.i64.wrap (5+1)=6 from rfl];refine Bi.2 ⟨λq=>?_,λq=>?_⟩
  ·rw[show(([37]:Str)==s)=true from q] at hQ;exact hQ
  rw[show(([37]:Str)==s)=false from q,cond_false] at hQ;refine w210_2 (Bi.2 ⟨λ_=>?_,λh=>by simp at h⟩);simp only[show((6:Int)==7)=false from rfl,show((6:Int)==6)=true from rfl,show((6:Int)==5)=false from rfl,show((6:Int)==4)=false from rfl,show((6:Int)==3)=false from rfl,show((6:Int)==2)=false from rfl,show((6:Int)==1)=false from rfl,show((6:Int)==0)=false from rfl,Be,Bf,show decide ((0:Int)<6)=true from rfl,show IntKind.i64.wrap (6+1)=7 from rfl];refine Bi.2 ⟨λq=>?_,λq=>?_⟩
  ·rw[show(([60]:Str)==s)=true from q] at hQ;exact hQ
  rw[show(([60]:Str)==s)=false from q,cond_false] at hQ;refine w210_2 (Bi.2 ⟨λ_=>?_,λh=>by simp at h⟩);simp only[show((7:Int)==7)=true from rfl,show((7:Int)==6)=false from rfl,show((7:Int)==5)=false from rfl,show((7:Int)==4)=false from rfl,show((7:Int)==3)=false from rfl,show((7:Int)==2)=false from rfl,show((7:Int)==1)=false from rfl,show((7:Int)==0)=false from rfl,Be,Bf,show decide ((0:Int)<7)=true from rfl,show IntKind.i64.wrap (7+1)=8 from rfl];refine Bi.2 ⟨λq=>?_,λq=>?_⟩
  ·rw[show(([61,61]:Str)==s)=true from q] at hQ;exact hQ
  rw[show(([61,61]:Str)==s)=false from q,cond_false] at hQ;refine w210_2 (Bi.2 ⟨λh=>by simp at h,λ_=>hQ⟩)
theorem rOp(hs:s.length≤2^40)(hQ:Qf (.val (.d (.int .i64 (opN s)))) g):EvF TT 197 [.str s] g Qf:=by
 refine w197 hs ?_;have hty:Ha TT 82 (.sl 1 (([]::opL).map .str)):=tss (l:=[]::opL) (by decide) (by decide) (by decide);have go:∀(l pre:List Str),[]::opL=pre++l→1≤pre.length→Qf (.val (.d (.int .i64 (ixF s l (pre.length:Int))))) g→L197_2 s (pre.length:Int) g Qf:=by
  intro l
  induction l with
  |nil=>
   intro pre hl h1 hQ;refine w197_2 (w220 ⟨_,hty,rfl,?_⟩);have:pre.length=8:=by rw[List.append_nil] at hl;rw[←hl];rfl
   rw[this];exact hQ
  |cons x l ih=>
   intro pre hl h1 hQ;have hlen:pre.length+(l.length+1)=8:=by
    have:=congrArg List.length hl;rw[List.length_append,List.length_cons] at this;exact this.symm
   refine w197_2 (w220 ⟨_,hty,rfl,?_⟩);have hg:gtE (elO (.sl 1 (([]::opL).map .str))) (pre.length:Int)=.str x:=by
    simp only[elO,gtE,Int.toNat_natCast,hl,List.map_append,List.map_cons];have:=nta (pre:=pre.map Dat.str) (x:=.str x) (l:=l.map .str);rw[List.length_map] at this;exact this
   rw[show(elO (.sl 1 (([]::opL).map .str))).length=8 from rfl,Bl (show pre.length<8 by omega)];refine w220 ⟨_,hty,rfl,inB (show pre.length<8 by omega),?_⟩;rw[hg];simp only[ixF] at hQ;show Br (x==s) _ _;cases hq:(x==s) with
   |true=>rw[hq] at hQ;exact hQ
   |false=>
    rw[hq,cond_false] at hQ;rw[Bf,wra (by omega)];have:=ih (pre++[x]) (by rw[hl,List.append_assoc];rfl) (by rw[List.length_append];omega);rw[List.length_append] at this;exact this hQ
 exact go opL [[]] rfl (by simp) hQ
theorem coa{f:FuncId}{c:List Dat}{p:Dat→Bool}{x:Dat}(hx:Ha TT 24 x)(hf:∀y∈elO x,∀Q:Out→Glob→Prop,Q (.val (.d (.bool (p y)))) g→EvF TT f (y::c) g Q)(hQ:Qf (.val (.d (.bool ((elO x).any p)))) g):EvF TT 77 [x,.clo f c] g Qf:=by
 have exl:=lel uP hx;refine w77 hx (w123 hx ?_);refine lU (len:=(elO x).length) (λi=>Qf (.val (.d (.bool (((elO x).drop i).any p)))) g→L123_2 x f c ((elO x).length:Int) (i:Int) g _) ?_ ?_ 0 (Nat.zero_le _) hQ
 ·intro hQ;refine w123_2 ?_;rw[Bg];rw[List.drop_length] at hQ;exact⟨_,rfl,hQ⟩
 ·intro i hi ih hQ;refine w123_2 ?_;rw[Bl hi,geE hi];rw[List.drop_eq_getElem_cons hi,List.any_cons] at hQ;refine⟨inB hi,hf _ (List.getElem_mem hi) _ ⟨_,rfl,Bi.2 ⟨λq=>?_,λq=>?_⟩⟩⟩
  ·rw[q] at hQ;refine⟨_,rfl,qca hQ ?_⟩;rw[Bool.true_or,decide_eq_true (by omega)]
  ·rw[q] at hQ;rw[wra (by omega)];exact ih hQ
theorem coE{f:FuncId}{c:List Dat}{p:Dat→Bool}{x:Dat}(hx:Ha TT 23 x)(hf:∀y∈elO x,∀Q:Out→Glob→Prop,Q (.val (.d (.bool (p y)))) g→EvF TT f (y::c) g Q)(hQ:Qf (.val (.d (.bool ((elO x).any p)))) g):EvF TT 168 [x,.clo f c] g Qf:=by
 have exl:=lel unE hx;refine w168 hx (w209 hx ?_);refine lU (len:=(elO x).length) (λi=>Qf (.val (.d (.bool (((elO x).drop i).any p)))) g→L209_2 x f c ((elO x).length:Int) (i:Int) g _) ?_ ?_ 0 (Nat.zero_le _) hQ
 ·intro hQ;refine w209_2 ?_;rw[Bg];rw[List.drop_length] at hQ;exact⟨_,rfl,hQ⟩
 ·intro i hi ih hQ;refine w209_2 ?_;rw[Bl hi,geE hi];rw[List.drop_eq_getElem_cons hi,List.any_cons] at hQ;refine⟨inB hi,hf _ (List.getElem_mem hi) _ ⟨_,rfl,Bi.2 ⟨λq=>?_,λq=>?_⟩⟩⟩
  ·rw[q] at hQ;refine⟨_,rfl,qca hQ ?_⟩;rw[Bool.true_or,decide_eq_true (by omega)]
  ·rw[q] at hQ;rw[wra (by omega)];exact ih hQ
theorem coi{f:FuncId}{c:List Dat}{p:Dat→Bool}{x:Dat}(hx:Ha TT 59 x)(hf:∀y∈elO x,∀Q:Out→Glob→Prop,Q (.val (.d (.bool (p y)))) g→EvF TT f (y::c) g Q)(hQ:Qf (.val (.d (.bool ((elO x).any p)))) g):EvF TT 177 [x,.clo f c] g Qf:=by
 have exl:=lel uT hx;refine w177 hx (w213 hx ?_);refine lU (len:=(elO x).length) (λi=>Qf (.val (.d (.bool (((elO x).drop i).any p)))) g→L213_2 x f c ((elO x).length:Int) (i:Int) g _) ?_ ?_ 0 (Nat.zero_le _) hQ
 ·intro hQ;refine w213_2 ?_;rw[Bg];rw[List.drop_length] at hQ;exact⟨_,rfl,hQ⟩
 ·intro i hi ih hQ;refine w213_2 ?_;rw[Bl hi,geE hi];rw[List.drop_eq_getElem_cons hi,List.any_cons] at hQ;refine⟨inB hi,hf _ (List.getElem_mem hi) _ ⟨_,rfl,Bi.2 ⟨λq=>?_,λq=>?_⟩⟩⟩
  ·rw[q] at hQ;refine⟨_,rfl,qca hQ ?_⟩;rw[Bool.true_or,decide_eq_true (by omega)]
  ·rw[q] at hQ;rw[wra (by omega)];exact ih hQ
theorem cna{f:FuncId}{c:List Dat}{p:Dat→Bool}{x:Dat}(hx:Ha TT 22 x)(hf:∀y∈elO x,∀Q:Out→Glob→Prop,Q (.val (.d (.bool (p y)))) g→EvF TT f (y::c) g Q)(hQ:Qf (.val (.d (.bool ((elO x).any p)))) g):EvF TT 106 [x,.clo f c] g Qf:=by
 have exl:=lel uD hx;refine w106 hx (w175 hx ?_);refine lU (len:=(elO x).length) (λi=>Qf (.val (.d (.bool (((elO x).drop i).any p)))) g→L175_2 x f c ((elO x).length:Int) (i:Int) g _) ?_ ?_ 0 (Nat.zero_le _) hQ
 ·intro hQ;refine w175_2 ?_;rw[Bg];rw[List.drop_length] at hQ;exact⟨_,rfl,hQ⟩
 ·intro i hi ih hQ;refine w175_2 ?_;rw[Bl hi,geE hi];rw[List.drop_eq_getElem_cons hi,List.any_cons] at hQ;refine⟨inB hi,hf _ (List.getElem_mem hi) _ ⟨_,rfl,Bi.2 ⟨λq=>?_,λq=>?_⟩⟩⟩
  ·rw[q] at hQ;refine⟨_,rfl,qca hQ ?_⟩;rw[Bool.true_or,decide_eq_true (by omega)]
  ·rw[q] at hQ;rw[wra (by omega)];exact ih hQ
end
end Go.Proofs.YtiheejdkkjfenaaGreatDoor.Pa
namespace Go.Proofs.YtiheejdkkjfenaaGreatDoor.Pa
open Go Go.Proofs.YtiheejdkkjfenaaGreatDoor.Am
def oTy(k:Int)(s:Str)(n:Int)(l:Int):Bool:=
 (bif k==1 then(s==[])&&(l==0) else bif k==2 then wV s&&(l==0) else bif k==3 then(s==[])&&(l==2) else bif k==4 then ww s&&!(s==[105,110,116]) else false)&&(n==0)
mutual
def oky:Ty→Bool
 |.mk k s n a=>oTy k s n a.length&&okT a
def okT:List Ty→Bool
 |[]=>true
 |x::l=>oky x&&okT l
end
mutual
def vrT:Ty→Bool
 |.mk _ s _ a=>decide (s.length<2^40)&&vT a
def vT:List Ty→Bool
 |[]=>true
 |x::l=>vrT x&&vT l
end
def oPt(k:Int)(s:Str)(n:Int)(l:Int):Bool:=
 bif k==1 then(s==[])&&((n==0)&&(l==0)) else bif k==2 then ww s&&((n==0)&&(l==0)) else bif k==3 then(s==[])&&(inI n&&(l==0)) else bif k==4 then wUp s&&(n==0) else false
mutual
def okt:Pt→Bool
 |.mk k s n a _=>oPt k s n a.length&&oP a
def oP:List Pt→Bool
 |[]=>true
 |x::l=>okt x&&oP l
end
def le8(n:Int):Bool:=decide (n≤8)
def gt8(n:Int):Bool:=decide (8<n)
mutual
def nPt:Pt→Bool
 |.mk _ _ _ a _=>le8 a.length&&nwP a
def nwP:List Pt→Bool
 |[]=>true
 |x::l=>nPt x&&nwP l
end
mutual
def flP:Pt→Bool
 |.mk k _ _ a _=>((k==4)&&gt8 a.length)||fP a
def fP:List Pt→Bool
 |[]=>false
 |x::l=>flP x||fP l
end
theorem oka(xs:List Dat):xs.any (λy=>!oky (aT y))=!okT (xs.map aT):=by induction xs with
 |nil=>rfl
 |cons x xs ih=>simp[okT,ih]
theorem okn(xs:List Dat):xs.any (λy=>!okt (aP y))=!oP (xs.map aP):=by induction xs with
 |nil=>rfl
 |cons x xs ih=>simp[oP,ih]
theorem nwt(xs:List Dat):xs.any (λy=>!nPt (aP y))=!nwP (xs.map aP):=by induction xs with
 |nil=>rfl
 |cons x xs ih=>simp[nwP,ih]
theorem vry{l:List Ty}(h:vT l=true):∀t∈l,vrT t=true:=by induction l with
 |nil=>intro t ht;cases ht
 |cons x l ih=>
  simp only[vT,Bool.and_eq_true] at h;intro t ht;rcases List.mem_cons.1 ht with rfl|ht
  ·exact h.1
  ·exact ih h.2 t ht
theorem aby(x:Dat):(abT x).length=(elO x).length:=by rw[ay,List.length_map]
theorem ae(x:Dat):(abt x).length=(elO x).length:=by rw[abP,List.length_map]
theorem abA(x:Dat):(abx x).length=(elO x).length:=by rw[abE,List.length_map]
theorem tyO:∀(k:Nat) (x:Dat) (g:Glob),SizeOf.sizeOf x<k→Ha TT 61 x→vrT (aT x)=true→∀(Qf:OGP),Qf (.val (.d (.bool (oky (aT x))))) g→EvF TT 179 [x] g Qf
 |0,x,g,hk,_,_=>by omega
 |k+1,x,g,hk,hx,hv=>by
  intro Qf hQ;refine w179 hx ?_;obtain⟨k1,s1,v1,a1,rfl,hs1,t1⟩:=tpe hx;simp only[aT,oky,aby] at hQ;simp only[aT,vrT,Bool.and_eq_true,decide_eq_true_eq] at hv;have ex:=t1.els uT;have hc:=sO (cs:=[.int .i64 k1,.str s1,.int .i64 v1,a1]) (c:=a1) (by simp);simp only[fld,nth,intOf,strOf];have tail:Qf (.val (.d (.bool (okT (abT a1))))) g→EvF TT 177 [a1,.clo 214 []] g (KQ Qf λv g'=>∃b,v=Val.d (.bool b)∧Qf (.val (.d (.bool !b))) g'):=λh=>
   coi (p:=λy=>!oky (aT y)) t1 (λy hy Q q=>by
    obtain⟨i,hi,rfl⟩:=List.getElem_of_mem hy;have hsz:=siz hi;exact w214 (ex.2 _ hy) (tyO k _ g (by omega) (ex.2 _ hy) (vry (by rw[ay] at hv;exact hv.2) _ (List.mem_map.2 ⟨_,hy,rfl⟩)) _ ⟨_,rfl,q⟩)) ⟨_,rfl,qca h (by rw[oka,Bool.not_not,ay])⟩
  repeat' (first
   |refine Bi.2 ⟨λq=>?_,λq=>?_⟩
   |refine wod hv.1 ⟨_,rfl,?_⟩
   |refine wL hs1 ⟨_,rfl,?_⟩
   |refine tail ?_)
  all_goals (refine qca hQ ?_;simp_all[oTy])
theorem rTy:∀(k:Nat) (x:Dat) (g:Glob) (l:Nat),SizeOf.sizeOf x<k→Ha TT 61 x→ndy (aT x)≤l→l≤2^30→∀(Qf:OGP),Qf (.val (.d (.int .i64 (bif oky (aT x) then((l-ndy (aT x):Nat):Int) else -1)))) g→EvF TT 86 [x,.int .i64 (l:Int)] g Qf
 |0,x,g,l,hk,_,_,_=>by omega
 |k+1,x,g,l,hk,hx,hn,hl=>by
  intro Qf hQ;refine w86 hx ?_;obtain⟨k1,s1,v1,a1,rfl,hs1,t1⟩:=tpe hx;have ex:=t1.els uT;have exl:=ex.1.1;have hc:=sO (cs:=[.int .i64 k1,.str s1,.int .i64 v1,a1]) (c:=a1) (by simp);simp only[aT,oky,aby,ndy] at hQ hn;obtain⟨l,rfl⟩:∃m,l=m+1:=⟨l-1,by omega⟩
  have hw:IntKind.i64.wrap (((l+1:Nat):Int)-1)=(l:Int):=by rw[wrp (by omega) (by omega)];omega
  rw[hw];have rest:oTy k1 s1 v1 ((elO a1).length:Int)=true→L86_17 (l:Int) 0 (.agg [.int .i64 k1,.str s1,.int .i64 v1,a1]) g Qf:=by
   intro h1;rw[h1,Bool.true_and] at hQ;have hQ:Qf (.val (.d (.int .i64 (bif okT (((elO a1).drop 0).map aT) then((l-ny (((elO a1).drop 0).map aT):Nat):Int) else -1)))) g:=by
    rw[List.drop_zero,←ay];refine qi hQ ?_;cases okT (abT a1)
    ·rfl
    ·simp only[cond_true];omega
   refine lU (len:=(elO a1).length) (λi=>∀m:Nat,m≤2^30→ny (((elO a1).drop i).map aT)≤m→Qf (.val (.d (.int .i64 (bif okT (((elO a1).drop i).map aT) then((m-ny (((elO a1).drop i).map aT):Nat):Int) else -1)))) g→L86_17 (m:Int) (i:Int) (.agg [.int .i64 k1,.str s1,.int .i64 v1,a1]) g Qf) ?_ ?_ 0 (Nat.zero_le _) l (by omega) (by rw[List.drop_zero,←ay];omega) hQ
   ·intro m _ _ hQ;refine w86_17 ?_;rw[show(fld (Dat.agg [.int .i64 k1,.str s1,.int .i64 v1,a1]) 3)=a1 from rfl,Bg];rw[List.drop_length] at hQ;exact hQ
   ·intro i hi ih m hm hnm hQ;refine w86_17 ?_;rw[show(fld (Dat.agg [.int .i64 k1,.str s1,.int .i64 v1,a1]) 3)=a1 from rfl,Bl hi,geE hi,show decide ((0:Int)≤(m:Int))=true from decide_eq_true (by omega),Be];have hsz:=siz hi;rw[ndT hi] at hnm hQ;rw[List.drop_eq_getElem_cons hi,List.map_cons,okT] at hQ;refine⟨inB hi,rTy k _ g m (by omega) (ex.2 _ (List.getElem_mem hi)) (by omega) hm _ ⟨_,rfl,?_⟩⟩;rw[wra (by omega)];cases ho:oky (aT (elO a1)[i]) with
    |true=>
     rw[ho] at hQ;simp only[cond_true,Bool.true_and] at hQ⊢;refine ih _ (by omega) (by omega) (qi hQ ?_);cases okT (((elO a1).drop (i+1)).map aT)
     ·rfl
     ·simp only[cond_true];omega
    |false=>
     rw[ho] at hQ;simp only[cond_false,Bool.false_and] at hQ⊢;refine w86_17 (Bi.2 ⟨λ_=>?_,λ_=>hQ⟩);exact hQ
  have bad:oTy k1 s1 v1 ((elO a1).length:Int)=false→Qf (.val (.d (.int .i64 (-1)))) g:=λh=>by
   rw[h] at hQ;exact hQ
  simp only[fld,nth,intOf,strOf];refine Bi.2 ⟨λq=>absurd (of_decide_eq_true q) (by omega),λ_=>?_⟩
  repeat' (first
   |refine Bi.2 ⟨λq=>?_,λq=>?_⟩
   |refine rWo true hs1 ⟨_,rfl,?_⟩
   |refine rW hs1 ⟨_,rfl,?_⟩)
  all_goals first
   |(refine rest ?_;simp_all[oTy,wV])
   |(refine bad ?_;simp_all[oTy,wV])
theorem paO:∀(k:Nat) (x:Dat) (g:Glob),SizeOf.sizeOf x<k→Ha TT 52 x→∀(Qf:OGP),Qf (.val (.d (.bool (okt (aP x))))) g→EvF TT 173 [x] g Qf
 |0,x,g,hk,_=>by omega
 |k+1,x,g,hk,hx=>by
  intro Qf hQ;refine w173 hx ?_;obtain⟨k1,s1,v1,a1,p1,rfl,hs1,t1⟩:=ptt hx;simp only[aP,okt,ae] at hQ;have ex:=t1.els uP;have hc:=sO (cs:=[.int .i64 k1,.str s1,.int .i64 v1,a1,.int .i64 p1]) (c:=a1) (by simp);simp only[fld,nth,intOf,strOf];have tail:Qf (.val (.d (.bool (oP (abt a1))))) g→EvF TT 77 [a1,.clo 211 []] g (KQ Qf λv g'=>∃b,v=Val.d (.bool b)∧Qf (.val (.d (.bool !b))) g'):=λh=>
   coa (p:=λy=>!okt (aP y)) t1 (λy hy Q q=>by
    obtain⟨i,hi,rfl⟩:=List.getElem_of_mem hy;have hsz:=siz hi;exact w211 (ex.2 _ hy) (paO k _ g (by omega) (ex.2 _ hy) _ ⟨_,rfl,q⟩)) ⟨_,rfl,qca h (by rw[okn,Bool.not_not,abP])⟩
  repeat' (first
   |refine Bi.2 ⟨λq=>?_,λq=>?_⟩
   |refine wL hs1 ⟨_,rfl,?_⟩
   |refine wU hs1 ⟨_,rfl,?_⟩
   |refine ik ⟨_,rfl,?_⟩
   |refine tail ?_)
  all_goals (refine qca hQ ?_;simp_all[oPt])
theorem rP:∀(k:Nat) (x:Dat) (g:Glob),SizeOf.sizeOf x<k→Ha TT 52 x→∀(Qf:OGP),Qf (.val (.d (.bool (okt (aP x))))) g→EvF TT 143 [x] g Qf
 |0,x,g,hk,_=>by omega
 |k+1,x,g,hk,hx=>by
  intro Qf hQ;refine w143 hx ?_;obtain⟨k1,s1,v1,a1,p1,rfl,hs1,t1⟩:=ptt hx;simp only[aP,okt,ae] at hQ;have ex:=t1.els uP;have exl:=ex.1.1;have hc:=sO (cs:=[.int .i64 k1,.str s1,.int .i64 v1,a1,.int .i64 p1]) (c:=a1) (by simp);simp only[fld,nth,intOf,strOf];have rest:∀b:Bool,b=oPt k1 s1 v1 ((elO a1).length:Int)→L143_12 b 0 (.agg [.int .i64 k1,.str s1,.int .i64 v1,a1,.int .i64 p1]) g Qf:=by
   intro b hb;rw[←hb,abP] at hQ;refine lU (len:=(elO a1).length) (λi=>∀b:Bool,Qf (.val (.d (.bool (b&&oP (((elO a1).drop i).map aP))))) g→L143_12 b (i:Int) (.agg [.int .i64 k1,.str s1,.int .i64 v1,a1,.int .i64 p1]) g Qf) ?_ ?_ 0 (Nat.zero_le _) b hQ
   ·intro b hQ;refine w143_12 ?_;rw[show(fld (Dat.agg [.int .i64 k1,.str s1,.int .i64 v1,a1,.int .i64 p1]) 3)=a1 from rfl,Bg];rw[List.drop_length] at hQ;exact qca hQ (by simp[oP])
   ·intro i hi ih b hQ;refine w143_12 ?_;rw[show(fld (Dat.agg [.int .i64 k1,.str s1,.int .i64 v1,a1,.int .i64 p1]) 3)=a1 from rfl,Bl hi,geE hi];have hsz:=siz hi;rw[List.drop_eq_getElem_cons hi,List.map_cons,oP] at hQ;cases b with
    |false=>exact hQ
    |true=>
     refine⟨inB hi,rP k _ g (by omega) (ex.2 _ (List.getElem_mem hi)) _ ⟨_,rfl,?_⟩⟩;rw[wra (by omega)];exact ih _ hQ
  repeat' (first
   |refine Bi.2 ⟨λq=>?_,λq=>?_⟩
   |refine rW hs1 ⟨_,rfl,?_⟩
   |refine rup hs1 ⟨_,rfl,?_⟩
   |refine rIn ⟨_,rfl,?_⟩)
  all_goals (refine rest _ ?_;simp_all[oPt])
theorem paN:∀(k:Nat) (x:Dat) (g:Glob),SizeOf.sizeOf x<k→Ha TT 52 x→∀(Qf:OGP),Qf (.val (.d (.bool (nPt (aP x))))) g→EvF TT 167 [x] g Qf
 |0,x,g,hk,_=>by omega
 |k+1,x,g,hk,hx=>by
  intro Qf hQ;refine w167 hx ?_;obtain⟨k1,s1,v1,a1,p1,rfl,hs1,t1⟩:=ptt hx;simp only[aP,nPt,ae] at hQ;have ex:=t1.els uP;have hc:=sO (cs:=[.int .i64 k1,.str s1,.int .i64 v1,a1,.int .i64 p1]) (c:=a1) (by simp);simp only[fld,nth,intOf,strOf];refine Bi.2 ⟨λq=>?_,λq=>?_⟩
  ·rw[show le8 _=true from q,Bool.true_and] at hQ;exact coa (p:=λy=>!nPt (aP y)) t1 (λy hy Q q=>by
    obtain⟨i,hi,rfl⟩:=List.getElem_of_mem hy;have hsz:=siz hi;exact w208 (ex.2 _ hy) (paN k _ g (by omega) (ex.2 _ hy) _ ⟨_,rfl,q⟩)) ⟨_,rfl,qca hQ (by rw[nwt,Bool.not_not,abP])⟩
  ·rw[show le8 _=false from q,Bool.false_and] at hQ;exact hQ
theorem ful:∀(k:Nat) (x:Dat) (g:Glob),SizeOf.sizeOf x<k→Ha TT 52 x→∀(Qf:OGP),Qf (.val (.d (.bool (flP (aP x))))) g→EvF TT 194 [x] g Qf
 |0,x,g,hk,_=>by omega
 |k+1,x,g,hk,hx=>by
  intro Qf hQ;refine w194 hx ?_;obtain⟨k1,s1,v1,a1,p1,rfl,hs1,t1⟩:=ptt hx;simp only[aP,flP,ae] at hQ;have ex:=t1.els uP;have exl:=ex.1.1;have hc:=sO (cs:=[.int .i64 k1,.str s1,.int .i64 v1,a1,.int .i64 p1]) (c:=a1) (by simp);simp only[fld,nth,intOf,strOf];have rest:((k1==4)&&gt8 ((elO a1).length:Int))=false→L194_4 0 (.agg [.int .i64 k1,.str s1,.int .i64 v1,a1,.int .i64 p1]) g Qf:=by
   intro hb;rw[hb,Bool.false_or,abP] at hQ;refine lU (len:=(elO a1).length) (λi=>Qf (.val (.d (.bool (fP (((elO a1).drop i).map aP))))) g→L194_4 (i:Int) (.agg [.int .i64 k1,.str s1,.int .i64 v1,a1,.int .i64 p1]) g Qf) ?_ ?_ 0 (Nat.zero_le _) hQ
   ·intro hQ;refine w194_4 ?_;rw[show(fld (Dat.agg [.int .i64 k1,.str s1,.int .i64 v1,a1,.int .i64 p1]) 3)=a1 from rfl,Bg];rw[List.drop_length] at hQ;exact hQ
   ·intro i hi ih hQ;refine w194_4 ?_;rw[show(fld (Dat.agg [.int .i64 k1,.str s1,.int .i64 v1,a1,.int .i64 p1]) 3)=a1 from rfl,Bl hi,geE hi];have hsz:=siz hi;rw[List.drop_eq_getElem_cons hi,List.map_cons,fP] at hQ;refine⟨inB hi,ful k _ g (by omega) (ex.2 _ (List.getElem_mem hi)) _ ⟨_,rfl,Bi.2 ⟨λq=>?_,λq=>?_⟩⟩⟩
    ·rw[q] at hQ;exact hQ
    ·rw[q,Bool.false_or] at hQ;rw[wra (by omega)];exact ih hQ
  refine Bi.2 ⟨λq=>Bi.2 ⟨λq'=>?_,λq'=>?_⟩,λq=>?_⟩
  ·rw[q,show gt8 _=true from q'] at hQ;exact hQ
  ·exact rest (by rw[q,show gt8 _=false from q'];rfl)
  ·exact rest (by rw[q];rfl)
theorem oPr{k:Int}{s:Str}{n:Int}{a:List Pt}{p:Int}(h:oPt k s n a.length=true):k=4∨a=[]:=by
 unfold oPt at h
 by_cases h4:k=4
 ·exact .inl h4
 ·refine .inr (List.eq_nil_of_length_eq_zero ?_);rw[show(k==4)=false by simpa using h4] at h;cases h1:(k==1)<;>cases h2:(k==2)<;>cases h3:(k==3)<;>rw[h1,h2,h3] at h<;>simp at h<;>simp[h]
mutual
theorem nA0:∀x:Pt,okt x=true→nPt x=!flP x
 |.mk k s n a p=>λh=>by
  simp only[okt,Bool.and_eq_true] at h;have ih:=nwl a h.2;simp only[nPt,flP,ih];rcases oPr (p:=p) h.1 with rfl|rfl
  ·rw[show(((4:Int)==4))=true from rfl,Bool.true_and,Bool.not_or];congr 1;unfold le8 gt8
   by_cases hl:(a.length:Int)≤8
   ·rw[decide_eq_true hl,decide_eq_false (by omega)];rfl
   ·rw[decide_eq_false hl,decide_eq_true (by omega)];rfl
  ·simp[fP,le8,gt8]
theorem nwl:∀l:List Pt,oP l=true→nwP l=!fP l
 |[]=>λ_=>rfl
 |x::l=>λh=>by
  simp only[oP,Bool.and_eq_true] at h;simp only[nwP,fP,nA0 x h.1,nwl l h.2,Bool.not_or]
end
end Go.Proofs.YtiheejdkkjfenaaGreatDoor.Pa
namespace Go.Proofs.YtiheejdkkjfenaaGreatDoor.Pa
open Go Go.Proofs.YtiheejdkkjfenaaGreatDoor.Am
def pA0(n:Int):Bool:=decide (0<n)
def oEx(k:Int)(s r:Str)(n la lb:Int):Bool:=
 bif (!(k==6)&&!(r==[]))||((!(k==2)&&!(n==0))||(!(k==7)&&pA0 lb)) then false
 else bif k==1 then ww s&&(la==0) else bif k==2 then(s==[])&&(inI n&&(la==0)) else bif k==3 then ww s&&(la==1) else bif k==4 then(s==[])&&(la==2)
 else bif k==5 then ww s&&(la==2) else bif k==6 then ww s&&(ww r&&(la==2)) else bif k==7 then(s==[])&&(pA0 lb&&(la==lb+1)) else bif k==8 then wUp s
 else bif k==9 then pA0 (opN s)&&(la==2) else bif k==10 then(s==[])&&(la==1) else false
def nad(k:Int)(s r:Str)(n lb:Int):Bool:=
 bif k==1 then ww s else bif k==3 then ww s else bif k==5 then ww s else bif k==6 then ww s&&ww r else bif k==2 then inI n else bif k==7 then pA0 lb else bif k==8 then wUp s else bif k==9 then pA0 (opN s) else true
mutual
def okE:Ex'→Bool
 |.mk k s r n a b _=>oEx k s r n a.length b.length&&(oP b&&okx a)
def okx:List Ex'→Bool
 |[]=>true
 |x::l=>okE x&&okx l
end
mutual
def nwx:Ex'→Bool
 |.mk k _ _ _ a b _=>!((k==8)&&gt8 a.length)&&(nwP b&&nwE a)
def nwE:List Ex'→Bool
 |[]=>true
 |x::l=>nwx x&&nwE l
end
mutual
def flx:Ex'→Bool
 |.mk k _ _ _ a b _=>((k==8)&&gt8 a.length)||(fP b||flE a)
def flE:List Ex'→Bool
 |[]=>false
 |x::l=>flx x||flE l
end
theorem oEs(xs:List Dat):xs.any (λy=>!okE (ax y))=!okx (xs.map ax):=by induction xs with
 |nil=>rfl
 |cons x xs ih=>simp[okx,ih]
theorem nwa(xs:List Dat):xs.any (λy=>!nwx (ax y))=!nwE (xs.map ax):=by induction xs with
 |nil=>rfl
 |cons x xs ih=>simp[nwE,ih]
theorem oN(s:Str):0≤opN s:=by
 have:∀(l:List Str) (i:Int),0≤i→0≤ixF s l i:=by
  intro l
  induction l with
  |nil=>intro i _;exact Int.le_refl _
  |cons x l ih=>
   intro i hi;simp only[ixF];cases (x==s)
   ·exact ih _ (by omega)
   ·exact hi
 exact this _ _ (by omega)
theorem oNn(s:Str):(opN s !=0)=pA0 (opN s):=by
 have:=oN s;unfold pA0;rw[Bool.eq_iff_iff,bne_iff_ne,decide_eq_true_eq];omega
theorem named_ok(x:Dat)(g:Glob)(k1 v1 p1:Int)(s1 r1:Str)(a1 b1:Dat)(hx:x=.agg [.int .i64 k1,.str s1,.str r1,.int .i64 v1,a1,b1,.int .i64 p1])(ht:Ha TT 26 x)(hs1:s1.length≤2^40)(hr1:r1.length≤2^40)(Qf:OGP)(hQ:Qf (.val (.d (.bool (nad k1 s1 r1 v1 ((elO b1).length:Int))))) g):EvF TT 171 [x] g Qf:=by
 refine w171 ht ?_;subst hx;simp only[fld,nth,intOf,strOf]
 repeat' (first
  |refine Bi.2 ⟨λq=>?_,λq=>?_⟩
  |refine wL hs1 ⟨_,rfl,?_⟩
  |refine wL hr1 ⟨_,rfl,?_⟩
  |refine wU hs1 ⟨_,rfl,?_⟩
  |refine ik ⟨_,rfl,?_⟩
  |refine iO hs1 ⟨_,rfl,?_⟩)
 all_goals (refine qca hQ ?_;simp_all[nad,oNn];try (simp[pA0]))
theorem exO:∀(k:Nat) (x:Dat) (g:Glob),SizeOf.sizeOf x<k→Ha TT 26 x→∀(Qf:OGP),Qf (.val (.d (.bool (okE (ax x))))) g→EvF TT 105 [x] g Qf
 |0,x,g,hk,_=>by omega
 |k+1,x,g,hk,hx=>by
  intro Qf hQ;refine w105 hx ?_;obtain⟨k1,s1,r1,v1,a1,b1,p1,rfl,hs1,hr1,t1,u1⟩:=exr hx;simp only[ax,okE,abA,ae] at hQ;have ex:=t1.els unE;have exl:=ex.1.1;have eu:=u1.els uP;have eul:=eu.1.1;have hc:=sO (cs:=[.int .i64 k1,.str s1,.str r1,.int .i64 v1,a1,b1,.int .i64 p1]) (c:=a1) (by simp);have hw:IntKind.i64.wrap (((elO b1).length:Int)+1)=((elO b1).length:Int)+1:=wrp (by omega) (by omega);have hl0:((([]:List Dat).length:Nat):Int)=0:=rfl;have tail:(nad k1 s1 r1 v1 ((elO b1).length:Int)=true→Qf (.val (.d (.bool (oP (abt b1)&&okx (abx a1))))) g)→(nad k1 s1 r1 v1 ((elO b1).length:Int)=false→Qf (.val (.d (.bool false))) g)→
   EvF TT 171 [.agg [.int .i64 k1,.str s1,.str r1,.int .i64 v1,a1,b1,.int .i64 p1]] g (KQ Qf λv g'=>∃b,v=Val.d (.bool b)∧Br (!b) (Qf (.val (.d (.bool false))) g') (EvF TT 77 [b1,.clo 172 []] g' (KQ Qf λv g'=>∃b,v=Val.d (.bool b)∧Br (!b) (EvF TT 168 [a1,.clo 174 []] g' (KQ Qf λv g'=>∃b,v=Val.d (.bool b)∧Qf (.val (.d (.bool !b))) g')) (Qf (.val (.d (.bool false))) g')))):=by
   intro h1 h2;refine named_ok _ g k1 v1 p1 s1 r1 a1 b1 rfl hx hs1 hr1 _ ⟨_,rfl,Bi.2 ⟨λq=>h2 (by simpa using q),λq=>?_⟩⟩;have h1:=h1 (by simpa using q);refine coa (p:=λy=>!okt (aP y)) u1 (λy hy Q q=>w172 (eu.2 _ hy) (paO _ y g (Nat.lt_succ_self _) (eu.2 _ hy) _ ⟨_,rfl,q⟩)) ⟨_,rfl,?_⟩;rw[okn,Bool.not_not,←abP];refine Bi.2 ⟨λq=>?_,λq=>?_⟩
   ·rw[q,Bool.true_and] at h1;exact coE (p:=λy=>!okE (ax y)) t1 (λy hy Q q=>by
     obtain⟨i,hi,rfl⟩:=List.getElem_of_mem hy;have hsz:=siz hi;exact w174 (ex.2 _ hy) (exO k _ g (by omega) (ex.2 _ hy) _ ⟨_,rfl,q⟩)) ⟨_,rfl,qca h1 (by rw[oEs,Bool.not_not,abE])⟩
   ·rw[q,Bool.false_and] at h1;exact h1
  have hla:∀n:Int,n=((elO a1).length:Int)→¬n=-1:=λn h=>by omega
  have hlb:((elO b1).length:Int)=0∨0<((elO b1).length:Int):=by omega
  simp only[fld,nth,intOf,strOf,hw,hl0];generalize hA:((elO a1).length:Int)=A at*;generalize hB:((elO b1).length:Int)=B at*;have hA0:=hla A rfl;clear hla hA hB hw hl0 exl eul
  repeat' (first
   |refine Bi.2 ⟨λq=>?_,λq=>?_⟩
   |refine tail (λh=>?_) (λh=>?_))
  all_goals (clear tail;refine qca hQ ?_;clear hQ)
  all_goals (rcases hlb with rfl|hlb)
  all_goals first
   |(simp_all[oEx,nad,pA0];done)
   |(simp_all[oEx,nad,pA0];intro h';omega)
theorem rNa(x:Dat)(g:Glob)(k1 v1 p1:Int)(s1 r1:Str)(a1 b1:Dat)(hx:x=.agg [.int .i64 k1,.str s1,.str r1,.int .i64 v1,a1,b1,.int .i64 p1])(ht:Ha TT 26 x)(hs1:s1.length≤2^40)(hr1:r1.length≤2^40)(hl:(elO b1).length≤2^40)(Qf:OGP)(hQ:Qf (.val (.d (.bool (oEx k1 s1 r1 v1 ((elO a1).length:Int) ((elO b1).length:Int))))) g):EvF TT 142 [x] g Qf:=by
 refine w142 ht ?_;subst hx;have hw:IntKind.i64.wrap (((elO b1).length:Int)+1)=((elO b1).length:Int)+1:=wrp (by omega) (by omega);simp only[fld,nth,intOf,strOf,hw];clear hw hl ht
 repeat' (first
  |refine Bi.2 ⟨λq=>?_,λq=>?_⟩
  |refine rW hs1 ⟨_,rfl,?_⟩
  |refine rW hr1 ⟨_,rfl,?_⟩
  |refine rup hs1 ⟨_,rfl,?_⟩
  |refine rIn ⟨_,rfl,?_⟩
  |refine rOp hs1 ⟨_,rfl,?_⟩)
 all_goals (clear hs1 hr1;refine qca hQ ?_;clear hQ;simp_all[oEx,pA0];try (intro h';omega))
theorem rE:∀(k:Nat) (x:Dat) (g:Glob),SizeOf.sizeOf x<k→Ha TT 26 x→∀(Qf:OGP),Qf (.val (.d (.bool (okE (ax x))))) g→EvF TT 88 [x] g Qf
 |0,x,g,hk,_=>by omega
 |k+1,x,g,hk,hx=>by
  intro Qf hQ;refine w88 hx ?_;obtain⟨k1,s1,r1,v1,a1,b1,p1,rfl,hs1,hr1,t1,u1⟩:=exr hx;simp only[ax,okE,abA,ae] at hQ;have ex:=t1.els unE;have exl:=ex.1.1;have eu:=u1.els uP;have eul:=eu.1.1;have hc:=sO (cs:=[.int .i64 k1,.str s1,.str r1,.int .i64 v1,a1,b1,.int .i64 p1]) (c:=a1) (by simp);refine rNa _ g k1 v1 p1 s1 r1 a1 b1 rfl hx hs1 hr1 eul _ ⟨_,rfl,Bi.2 ⟨λq=>?_,λq=>?_⟩⟩
  ·rw[show oEx k1 s1 r1 v1 ((elO a1).length:Int) ((elO b1).length:Int)=false by simpa using q] at hQ;exact hQ
  ·rw[show oEx k1 s1 r1 v1 ((elO a1).length:Int) ((elO b1).length:Int)=true by simpa using q,Bool.true_and,abP,abE] at hQ;have args:Qf (.val (.d (.bool (okx ((elO a1).map ax))))) g→L88_9 0 (.agg [.int .i64 k1,.str s1,.str r1,.int .i64 v1,a1,b1,.int .i64 p1]) g Qf:=by
    refine lU (len:=(elO a1).length) (λi=>Qf (.val (.d (.bool (okx (((elO a1).drop i).map ax))))) g→L88_9 (i:Int) (.agg [.int .i64 k1,.str s1,.str r1,.int .i64 v1,a1,b1,.int .i64 p1]) g Qf) ?_ ?_ 0 (Nat.zero_le _)
    ·intro hQ;refine w88_9 ?_;rw[show(fld (Dat.agg [.int .i64 k1,.str s1,.str r1,.int .i64 v1,a1,b1,.int .i64 p1]) 4)=a1 from rfl,Bg];rw[List.drop_length] at hQ;exact hQ
    ·intro i hi ih hQ;refine w88_9 ?_;rw[show(fld (Dat.agg [.int .i64 k1,.str s1,.str r1,.int .i64 v1,a1,b1,.int .i64 p1]) 4)=a1 from rfl,Bl hi,geE hi];have hsz:=siz hi;rw[List.drop_eq_getElem_cons hi,List.map_cons,okx] at hQ;refine⟨inB hi,rE k _ g (by omega) (ex.2 _ (List.getElem_mem hi)) _ ⟨_,rfl,Bi.2 ⟨λq=>?_,λq=>?_⟩⟩⟩
     ·rw[show okE (ax (elO a1)[i])=false by simpa using q] at hQ;exact hQ
     ·rw[show okE (ax (elO a1)[i])=true by simpa using q,Bool.true_and] at hQ;rw[wra (by omega)];exact ih hQ
   refine lU (len:=(elO b1).length) (λi=>Qf (.val (.d (.bool (oP (((elO b1).drop i).map aP)&&okx ((elO a1).map ax))))) g→L88_4 (i:Int) (.agg [.int .i64 k1,.str s1,.str r1,.int .i64 v1,a1,b1,.int .i64 p1]) g Qf) ?_ ?_ 0 (Nat.zero_le _) hQ
   ·intro hQ;refine w88_4 ?_;rw[show(fld (Dat.agg [.int .i64 k1,.str s1,.str r1,.int .i64 v1,a1,b1,.int .i64 p1]) 5)=b1 from rfl,Bg];rw[List.drop_length] at hQ;exact args hQ
   ·intro i hi ih hQ;refine w88_4 ?_;rw[show(fld (Dat.agg [.int .i64 k1,.str s1,.str r1,.int .i64 v1,a1,b1,.int .i64 p1]) 5)=b1 from rfl,Bl hi,geE hi];rw[List.drop_eq_getElem_cons hi,List.map_cons,oP] at hQ;refine⟨inB hi,rP _ _ g (Nat.lt_succ_self _) (eu.2 _ (List.getElem_mem hi)) _ ⟨_,rfl,Bi.2 ⟨λq=>?_,λq=>?_⟩⟩⟩
    ·rw[show okt (aP (elO b1)[i])=false by simpa using q] at hQ;exact hQ
    ·rw[show okt (aP (elO b1)[i])=true by simpa using q,Bool.true_and] at hQ;rw[wra (by omega)];exact ih hQ
theorem nar:∀(k:Nat) (x:Dat) (g:Glob),SizeOf.sizeOf x<k→Ha TT 26 x→∀(Qf:OGP),Qf (.val (.d (.bool (nwx (ax x))))) g→EvF TT 102 [x] g Qf
 |0,x,g,hk,_=>by omega
 |k+1,x,g,hk,hx=>by
  intro Qf hQ;refine w102 hx ?_;obtain⟨k1,s1,r1,v1,a1,b1,p1,rfl,hs1,hr1,t1,u1⟩:=exr hx;simp only[ax,nwx,abA,ae] at hQ;have ex:=t1.els unE;have eu:=u1.els uP;have hc:=sO (cs:=[.int .i64 k1,.str s1,.str r1,.int .i64 v1,a1,b1,.int .i64 p1]) (c:=a1) (by simp);simp only[fld,nth,intOf,strOf];have tail:Qf (.val (.d (.bool (nwP (abt b1)&&nwE (abx a1))))) g→EvF TT 77 [b1,.clo 166 []] g (KQ Qf λv g'=>∃b,v=Val.d (.bool b)∧Br (!b) (EvF TT 168 [a1,.clo 169 []] g' (KQ Qf λv g'=>∃b,v=Val.d (.bool b)∧Qf (.val (.d (.bool !b))) g')) (Qf (.val (.d (.bool false))) g')):=by
   intro h1;refine coa (p:=λy=>!nPt (aP y)) u1 (λy hy Q q=>w166 (eu.2 _ hy) (paN _ y g (Nat.lt_succ_self _) (eu.2 _ hy) _ ⟨_,rfl,q⟩)) ⟨_,rfl,?_⟩;rw[nwt,Bool.not_not,←abP];refine Bi.2 ⟨λq=>?_,λq=>?_⟩
   ·rw[q,Bool.true_and] at h1;exact coE (p:=λy=>!nwx (ax y)) t1 (λy hy Q q=>by
     obtain⟨i,hi,rfl⟩:=List.getElem_of_mem hy;have hsz:=siz hi;exact w169 (ex.2 _ hy) (nar k _ g (by omega) (ex.2 _ hy) _ ⟨_,rfl,q⟩)) ⟨_,rfl,qca h1 (by rw[nwa,Bool.not_not,abE])⟩
   ·rw[q,Bool.false_and] at h1;exact h1
  refine Bi.2 ⟨λq=>Bi.2 ⟨λq'=>?_,λq'=>?_⟩,λq=>?_⟩
  ·rw[q,show gt8 _=true from q'] at hQ;exact hQ
  ·rw[q,show gt8 _=false from q'] at hQ;exact tail hQ
  ·rw[q] at hQ;exact tail hQ
theorem fE:∀(k:Nat) (x:Dat) (g:Glob),SizeOf.sizeOf x<k→Ha TT 26 x→∀(Qf:OGP),Qf (.val (.d (.bool (flx (ax x))))) g→EvF TT 140 [x] g Qf
 |0,x,g,hk,_=>by omega
 |k+1,x,g,hk,hx=>by
  intro Qf hQ;refine w140 hx ?_;obtain⟨k1,s1,r1,v1,a1,b1,p1,rfl,hs1,hr1,t1,u1⟩:=exr hx;simp only[ax,flx,abA,ae] at hQ;have ex:=t1.els unE;have exl:=ex.1.1;have eu:=u1.els uP;have eul:=eu.1.1;have hc:=sO (cs:=[.int .i64 k1,.str s1,.str r1,.int .i64 v1,a1,b1,.int .i64 p1]) (c:=a1) (by simp);simp only[fld,nth,intOf,strOf];have rest:((k1==8)&&gt8 ((elO a1).length:Int))=false→L140_4 0 (.agg [.int .i64 k1,.str s1,.str r1,.int .i64 v1,a1,b1,.int .i64 p1]) g Qf:=by
   intro hb;rw[hb,Bool.false_or,abP,abE] at hQ;have args:Qf (.val (.d (.bool (flE ((elO a1).map ax))))) g→L140_9 0 (.agg [.int .i64 k1,.str s1,.str r1,.int .i64 v1,a1,b1,.int .i64 p1]) g Qf:=by
    refine lU (len:=(elO a1).length) (λi=>Qf (.val (.d (.bool (flE (((elO a1).drop i).map ax))))) g→L140_9 (i:Int) (.agg [.int .i64 k1,.str s1,.str r1,.int .i64 v1,a1,b1,.int .i64 p1]) g Qf) ?_ ?_ 0 (Nat.zero_le _)
    ·intro hQ;refine w140_9 ?_;rw[show(fld (Dat.agg [.int .i64 k1,.str s1,.str r1,.int .i64 v1,a1,b1,.int .i64 p1]) 4)=a1 from rfl,Bg];rw[List.drop_length] at hQ;exact hQ
    ·intro i hi ih hQ;refine w140_9 ?_;rw[show(fld (Dat.agg [.int .i64 k1,.str s1,.str r1,.int .i64 v1,a1,b1,.int .i64 p1]) 4)=a1 from rfl,Bl hi,geE hi];have hsz:=siz hi;rw[List.drop_eq_getElem_cons hi,List.map_cons,flE] at hQ;refine⟨inB hi,fE k _ g (by omega) (ex.2 _ (List.getElem_mem hi)) _ ⟨_,rfl,Bi.2 ⟨λq=>?_,λq=>?_⟩⟩⟩
     ·rw[q] at hQ;exact hQ
     ·rw[q,Bool.false_or] at hQ;rw[wra (by omega)];exact ih hQ
   refine lU (len:=(elO b1).length) (λi=>Qf (.val (.d (.bool (fP (((elO b1).drop i).map aP)||flE ((elO a1).map ax))))) g→L140_4 (i:Int) (.agg [.int .i64 k1,.str s1,.str r1,.int .i64 v1,a1,b1,.int .i64 p1]) g Qf) ?_ ?_ 0 (Nat.zero_le _) hQ
   ·intro hQ;refine w140_4 ?_;rw[show(fld (Dat.agg [.int .i64 k1,.str s1,.str r1,.int .i64 v1,a1,b1,.int .i64 p1]) 5)=b1 from rfl,Bg];rw[List.drop_length] at hQ;exact args hQ
   ·intro i hi ih hQ;refine w140_4 ?_;rw[show(fld (Dat.agg [.int .i64 k1,.str s1,.str r1,.int .i64 v1,a1,b1,.int .i64 p1]) 5)=b1 from rfl,Bl hi,geE hi];rw[List.drop_eq_getElem_cons hi,List.map_cons,fP,Bool.or_assoc] at hQ;refine⟨inB hi,ful _ _ g (Nat.lt_succ_self _) (eu.2 _ (List.getElem_mem hi)) _ ⟨_,rfl,Bi.2 ⟨λq=>?_,λq=>?_⟩⟩⟩
    ·rw[q] at hQ;exact hQ
    ·rw[q,Bool.false_or] at hQ;rw[wra (by omega)];exact ih hQ
  refine Bi.2 ⟨λq=>Bi.2 ⟨λq'=>?_,λq'=>?_⟩,λq=>?_⟩
  ·rw[q,show gt8 _=true from q'] at hQ;exact hQ
  ·exact rest (by rw[q,show gt8 _=false from q'];rfl)
  ·exact rest (by rw[q];rfl)
mutual
theorem nfl:∀x:Ex',okE x=true→nwx x=!flx x
 |.mk k s r n a b p=>λh=>by
  simp only[okE,Bool.and_eq_true] at h;simp only[nwx,flx,nwl b h.2.1,nws a h.2.2,Bool.not_or]
theorem nws:∀l:List Ex',okx l=true→nwE l=!flE l
 |[]=>λ_=>rfl
 |x::l=>λh=>by
  simp only[okx,Bool.and_eq_true] at h;simp only[nwE,flE,nfl x h.1,nws l h.2,Bool.not_or]
end
end Go.Proofs.YtiheejdkkjfenaaGreatDoor.Pa
