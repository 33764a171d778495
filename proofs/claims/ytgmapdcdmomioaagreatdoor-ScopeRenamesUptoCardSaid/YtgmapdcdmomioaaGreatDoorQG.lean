/- What the symbolic operations say is what the plain machine does: fields, elements, arithmetic. What the symbolic operations say is what the plain machine does: arithmetic, structs, slices. What the symbolic operations say is what the plain machine does: structs, slices, the rest. What the symbolic operations say is what the plain machine does: append; every operation. Maps that are numbered. Every symbolic operation; calls; regions in the text's order and drawn ones. -/
import Derived.Test.YtgmapdcdmomioaaGreatDoorQF
set_option linter.all false
set_option autoImplicit false
namespace Go.Proofs.YtgmapdcdmomioaaGreatDoor.Am
open Go
variable{T:Tb}{t u ty:TypeId}{x d:Dat}{v:Val}{s s':SSt}{st st':St}{o:Oper}{K:SFeet→SSt→Prop}
variable{bc tc bc' tc':Mp Nat}{B B':Mp (Nat×Box)}{C C':Mp (Nat×Option (Nat×Nat))}
theorem sFieldAddr_ok{p:SV}{y:Val}{sty:TypeId}{f:Nat}(h:sFieldAddr T s o.dst sty p f K)(hc:Conc T s st)(hp:ConcV T s.bc s.tc st.boxes st.toks p y)
 (hd:∀R,doing T R st.esc (Am.ev st.regs) o=doFieldAddr T sty y f):OpOk T o st K:=by
 unfold sFieldAddr at h
 split at h
 ·exact h.elim
 ·rename_i fd hf
  split at h
  ·exact h.elim
  ·rename_i n hn
   split at h
   ·exact h.elim
   ·rename_i h0
    have h0:¬n=0:=by simpa using h0
    split at h
    ·rename_i k c off
     obtain⟨h1,g,rfl,h2⟩:=hp
     exact ok_ret hc (λR=>by rw[hd];simp only[doFieldAddr,hf,hn,h0,if_false]) (sv:=.loc k c (off+fd.offset)) ⟨h1,g,rfl,h2⟩ h
    ·rename_i t x off
     obtain⟨rfl,h1⟩:=hp
     exact ok_ret (v:=.imm (x.cells.drop (off+fd.offset))) hc (λR=>by rw[hd];simp only[doFieldAddr,hf,hn,h0,if_false,List.drop_drop]) (sv:=.imm t x (off+fd.offset)) ⟨rfl,h1⟩ h
    ·rename_i t i off
     obtain⟨h1,h2,h3⟩:=hp
     have:=toD_plain h1 rfl
     subst this
     exact ok_ret hc (λR=>by rw[hd];simp only[doFieldAddr,hf,hn,h0,if_false]) (concV_d (by cases h3 with|ptr _ _ h=>exact .ptr _ _ h)) h
    ·exact h.elim
theorem sField_ok{sv:SV}{y:Val}{sty:TypeId}{f:Nat}(h:sField T s o.dst sty sv f K)(hc:Conc T s st)(hp:ConcV T s.bc s.tc st.boxes st.toks sv y)
 (hd:∀R,doing T R st.esc (Am.ev st.regs) o=doField T sty y f):OpOk T o st K:=by
 unfold sField at h
 split at h
 ·rename_i fd t d hf
  split at h
  ·rename_i hcc
   simp only[Bool.and_eq_true,beq_iff_eq] at hcc
   obtain⟨rfl,ha⟩:=hcc
   split at h
   ·rename_i sv' hs
    obtain⟨h1,h2,ht⟩:=hp
    have ht':=ht
    obtain⟨tys,ds,rfl,hl,hn,k1,hx⟩:=ht.agg_inv ha
    rcases toD_agg h1 with rfl|⟨vs,rfl,ho⟩
    ·obtain⟨y,e1,e2⟩:=part_imm (bc:=s.bc) (tc:=s.tc) (B:=st.boxes) (K:=st.toks) ht' hs
     exact ok_ret hc (λR=>by rw[hd];simp only[doField,hf];rw[show(ds.drop fd.offset)=(Dat.agg ds).cells.drop fd.offset from rfl,e1];rfl) e2 h
    ·obtain⟨o1,o2⟩:=optAll_get? ho
     obtain⟨w,e1,e2⟩:=part_loadV (bc:=s.bc) (tc:=s.tc) (B:=st.boxes) (K:=st.toks) (x:=.agg ds) (vs:=vs) hl hn k1 hx o1 (λi w c hw hc=>o2 i w c hw hc) rfl (λo c hc=>nth_get hc) (λn _=>rfl) (λ_ _=>rfl) hs
     exact ok_ret hc (λR=>by rw[hd];simp only[doField,hf,e1];rfl) e2 h
   ·exact h.elim
  ·exact h.elim
 ·exact h.elim
theorem InB.get{xs:List Dat}{n:Int}(h:InB n xs.length):0≤n∧xs[n.toNat]?=some (getE xs n):=by
 have hlt:n.toNat<xs.length:=by have:=h.1;have:=h.2;omega
 refine⟨h.1,?_⟩
 have:=List.getElem?_eq_getElem hlt
 rw[this,getE,nth_get this]
theorem sIndexAddr_ok{sv:SV}{y iv:Val}{i:Option Int}(h:sIndexAddr T s o.dst t sv i K)(hc:Conc T s st)(hp:ConcV T s.bc s.tc st.boxes st.toks sv y)(hi:∀n,i=some n→∃k,iv=.d (.int k n))
 (hd:∀R,doing T R st.esc (Am.ev st.regs) o=doIndexAddr T t y iv):OpOk T o st K:=by
 unfold sIndexAddr at h
 split at h
 ·rename_i e m xs n e' he hu
  split at h
  ·rename_i hee
   have hee:e'=e:=by simpa using hee
   subst hee
   obtain⟨hb,hk⟩:=h
   obtain⟨m',h1,h2,h3,h4,h5⟩:=concV_els hp he
   obtain⟨k,rfl⟩:=hi n rfl
   obtain⟨g1,g2⟩:=hb.get
   have hm:m'=m:=h2 (λe=>by rw[e] at g2;simp at g2)
   exact ok_ret (v:=.imm (getE xs n).cells) hc (λR=>by rw[hd];simp only[doIndexAddr,hu,h1,h3,hm,g1,g2,and_self,if_true]) (sv:=.imm e' (getE xs n) 0) ⟨by rw[List.drop_zero],h5 _ (List.mem_of_getElem? g2)⟩ hk
  ·exact h.elim
 ·exact h.elim
theorem pickN_inv{i:Int}{F:Nat→Prop}:∀{n:Nat},pickN i F n→∃j:Nat,j<n∧i=(j:Int)∧F j
 |0,h=>h.elim
 |n+1,h=>by
  unfold pickN at h
  cases hq:(i==(n:Int)) with
  |true=>
   rw[hq] at h
   exact⟨n,Nat.lt_succ_self _,by simpa using hq,h⟩
  |false=>
   rw[hq] at h
   obtain⟨j,h1,h2,h3⟩:=pickN_inv (n:=n) h
   exact⟨j,by omega,h2,h3⟩
theorem sIndex_ok{sv:SV}{y iv:Val}{i:Option Int}(h:sIndex T s o.dst t ty sv i K)(hc:Conc T s st)(hp:ConcV T s.bc s.tc st.boxes st.toks sv y)(hi:∀n,i=some n→∃k,iv=.d (.int k n))
 (hd:∀R,doing T R st.esc (Am.ev st.regs) o=doIndex T t y iv):OpOk T o st K:=by
 unfold sIndex at h
 split at h
 ·rename_i t' b n hu hty
  obtain⟨hb,hk⟩:=h
  obtain⟨k,rfl⟩:=hi n rfl
  have:=toD_plain hp.1 rfl
  subst this
  have hlt:n.toNat<b.length:=by have:=hb.1;have:=hb.2;omega
  have hg:=List.getElem?_eq_getElem hlt
  exact ok_ret (v:=.d (.int .u8 ((b[n.toNat]).toNat:Int))) hc (λR=>by rw[hd];simp only[doIndex,hu,hb.1,hg,if_true]) (by
   have:byteAt b n=((b[n.toNat]).toNat:Int):=by simp[byteAt,hg]
   rw[this]
   exact concV_d (.int _ _ _ (isI0_of hty))) hk
 ·rename_i k e t1 d n hu
  split at h
  ·rename_i htt
   have htt:t1=t:=by simpa using htt
   subst htt
   split at h
   ·rename_i m hm
    obtain⟨j,hj,hj2,h5⟩:=pickN_inv h
    subst hj2
    clear h
    split at h5
    ·rename_i sv' hs
     obtain⟨k',rfl⟩:=hi _ rfl
     obtain⟨h1,h2,ht⟩:=hp
     have ht':=ht
     have ha:isAgg? (T.und t1)=true:=by rw[hu];rfl
     obtain⟨tys,ds,rfl,hl,hn,k1,hx⟩:=ht.agg_inv ha
     have hb:0≤(j:Int)∧(j:Int)<(k:Int):=⟨Int.natCast_nonneg _,by omega⟩
     rcases toD_agg h1 with rfl|⟨vs,rfl,ho⟩
     ·obtain⟨y,e1,e2⟩:=part_imm (bc:=s.bc) (tc:=s.tc) (B:=st.boxes) (K:=st.toks) ht' hs
      exact ok_ret hc (λR=>by rw[hd];simp only[doIndex,hu,hm,hb,and_self,if_true,Int.toNat_natCast];rw[show(ds.drop (j*m))=(Dat.agg ds).cells.drop (j*m) from rfl,e1];rfl) e2 h5
     ·obtain⟨o1,o2⟩:=optAll_get? ho
      obtain⟨w,e1,e2⟩:=part_loadV (bc:=s.bc) (tc:=s.tc) (B:=st.boxes) (K:=st.toks) (x:=.agg ds) (vs:=vs) hl hn k1 hx o1 (λi w c hw hc=>o2 i w c hw hc) rfl (λo c hc=>nth_get hc) (λn _=>rfl) (λ_ _=>rfl) hs
      exact ok_ret hc (λR=>by rw[hd];simp only[doIndex,hu,hm,hb,and_self,if_true,Int.toNat_natCast,e1];rfl) e2 h5
    ·exact h5.elim
   ·exact h.elim
  ·exact h.elim
 ·exact h.elim
theorem bound_some{w:Val}{n:Int}{k:IntKind}(h:w=.d (.int k n))(h0:0≤n)(d:Nat):bound (some w) d=some n.toNat:=by
 subst h
 simp[bound,intOf?,h0]
theorem sSlice0_ok{sv:SV}{y mv:Val}{lo hi:Option (Option Int)}{mx:Option Int}{lv hv:Option Val}(h:sSlice0 T s o.dst t ty sv lo hi mx K)(hc:Conc T s st)(hp:ConcV T s.bc s.tc st.boxes st.toks sv y)
 (hlo':lo=none→lv=none) (hhi:∀n,hi=some (some n)→∃k,hv=some (.d (.int k n))) (hm:∀n,mx=some n→∃k,mv=.d (.int k n))
 (hd:∀R,doing T R st.esc (Am.ev st.regs) o=doSlice T t y lv hv (some mv)):OpOk T o st K:=by
 unfold sSlice0 at h
 split at h
 ·rename_i e e' m xs h' c hu he
  split at h
  ·rename_i hcc
   simp only[Bool.and_eq_true,beq_iff_eq] at hcc
   obtain⟨⟨⟨rfl,rfl⟩,rfl⟩,hl⟩:=hcc
   obtain⟨m',h1,h2,h3,h4,h5⟩:=concV_els hp he
   obtain⟨k1,rfl⟩:=hhi 0 rfl
   obtain⟨k2,rfl⟩:=hm 0 rfl
   obtain rfl:=hlo' rfl
   have hne:¬(m'≠m∧xs.isEmpty=false):=λhh=>hh.1 (h2 (λe0=>by rw[e0] at hh;cases hh.2))
   refine ok_ret (v:=.d .nil) hc (λR=>?_) (concV_d (.nil _ hl)) h
   rw[hd]
   simp only[doSlice,hu,h1,h3,bound,intOf?]
   rw[if_neg (by simp;simpa using hne)]
   simp
  ·exact h.elim
 ·exact h.elim
theorem sSlice_ok{sv:SV}{y:Val}{lo hi:Option (Option Int)}{lv hv:Option Val}(h:sSlice T s o.dst t ty sv lo hi K)(hc:Conc T s st)(hp:ConcV T s.bc s.tc st.boxes st.toks sv y)
 (hlo:∀n,lo=some (some n)→∃k,lv=some (.d (.int k n))) (hlo':lo=none→lv=none) (hhi:∀n,hi=some (some n)→∃k,hv=some (.d (.int k n))) (hhi':hi=none→hv=none)
 (hd:∀R,doing T R st.esc (Am.ev st.regs) o=doSlice T t y lv hv none):OpOk T o st K:=by
 have str:∀{b:List UInt8} {l h':Int},y=.d (.str b)→b.length≤2^40→T.und t=some .string→T.und ty=some .string→InS l h' b.length→bound lv 0=some l.toNat→bound hv b.length=some h'.toNat→K {} (s.put o.dst (.v ty (.str (subStr b l h'))))→OpOk T o st K:=by
  intro b l h' hy hbl hu hty hin hl hh hk
  subst hy
  obtain⟨i1,i2,i3⟩:=hin
  have e:l.toNat≤h'.toNat∧h'.toNat≤b.length:=by omega
  exact ok_ret (v:=.d (.str (subStr b l h'))) hc (λR=>by rw[hd];simp only[doSlice,hu,hl,hh,e,and_self,if_true,subStr]) (concV_d (.str _ _ hty (by unfold subStr;rw[List.length_drop,List.length_take];omega))) hk
 have lst:∀{e:TypeId} {m:Nat} {xs:List Dat} {x:Dat} {l h':Int},T.und t=some (.slice e)→sv.els T=some (e,m,xs)→sv.dat=some (t,x)→ty=t→InS l h' xs.length→bound lv 0=some l.toNat→bound hv xs.length=some h'.toNat→K {} (s.put o.dst (.v ty (slSub m x xs l h')))→OpOk T o st K:=by
  intro e m xs x l h' hu he hx hty hin hl hh hk
  subst hty
  obtain⟨m',h1,h2,h3,h4,h5⟩:=concV_els hp he
  obtain⟨d1,d2⟩:=concV_dat hp hx
  obtain⟨i1,i2,i3⟩:=hin
  have hb:l.toNat≤h'.toNat∧h'.toNat≤xs.length∧xs.length≤xs.length:=by omega
  have hcond:¬((m'≠m∧xs.isEmpty=false)∨((none:Option Val).isSome=true∧hv.isNone=true)):=by
   rintro (⟨q1,q2⟩|⟨q1,_⟩)
   ·exact q1 (h2 (λe=>by rw[e] at q2;cases q2))
   ·cases q1
  by_cases hful:l=0∧h'=(xs.length:Int)
  ·have e1:l.toNat=0∧h'.toNat=xs.length:=by omega
   refine ok_ret (v:=y) hc (λR=>?_) (sv:=.v ty (slSub m x xs l h')) ?_ hk
   ·rw[hd]
    simp only[doSlice,hu,h1,h3]
    rw[if_neg hcond]
    rw[hl,hh]
    simp only[bound,hb,and_self,if_true,Option.isSome_none,Bool.false_eq_true,false_and,if_false,Option.isNone_none,e1,Nat.zero_le,Nat.le_refl]
   ·rw[slSub,if_pos hful]
    refine⟨d1,?_,d2⟩
    cases y with
    |agg vs=>
     exfalso
     simp[Val.elems] at h1
    |_=>rfl
  ·have e1:¬(l.toNat=0∧h'.toNat=xs.length):=by omega
   refine ok_ret (v:=.d (.sl m ((xs.take h'.toNat).drop l.toNat))) hc (λR=>?_) (sv:=.v ty (slSub m x xs l h')) ?_ hk
   ·rw[hd]
    simp only[doSlice,hu,h1,h3]
    rw[if_neg hcond]
    rw[hl,hh]
    simp only[bound,hb,and_self,if_true,Option.isSome_none,Bool.false_eq_true,false_and,if_false,Option.isNone_none,true_and,e1]
   ·rw[slSub,if_neg hful]
    exact concV_d (.sl _ e m _ hu h3 (h4.le (by rw[List.length_drop,List.length_take];omega)) λz hz=>h5 z (List.mem_of_mem_take (List.mem_of_mem_drop hz)))
 unfold sSlice at h
 split at h
 ·rename_i hu
  split at h
  ·rename_i t' b hty
   have hy:=toD_plain hp.1 rfl
   have hbl:b.length≤2^40:=by have:=hp.2.2;cases this with|str _ _ _ hl=>exact hl
   split at h
   ·rename_i h'
    obtain⟨k,rfl⟩:=hhi _ rfl
    have:=hlo' rfl
    subst this
    exact str (l:=0) (h':=h') hy hbl hu hty h.1 rfl (bound_some rfl (by have:=h.1;obtain⟨a,b,c⟩:=this;omega) _) h.2
   ·rename_i l
    obtain⟨k,rfl⟩:=hlo _ rfl
    have:=hhi' rfl
    subst this
    exact str (l:=l) (h':=(b.length:Int)) hy hbl hu hty h.1 (bound_some rfl h.1.1 _) (by simp[bound]) h.2
   ·rename_i l h'
    obtain⟨k,rfl⟩:=hlo _ rfl
    obtain⟨k',rfl⟩:=hhi _ rfl
    exact str (l:=l) (h':=h') hy hbl hu hty h.1 (bound_some rfl h.1.1 _) (bound_some rfl (by have:=h.1;obtain⟨a,b,c⟩:=this;omega) _) h.2
   ·exact h.elim
  ·exact h.elim
 ·rename_i e hu
  split at h
  ·rename_i e' m xs u y' he hx
   split at h
   ·rename_i hcc
    simp only[Bool.and_eq_true,beq_iff_eq] at hcc
    obtain⟨⟨rfl,rfl⟩,rfl⟩:=hcc
    split at h
    ·rename_i h'
     obtain⟨k,rfl⟩:=hhi _ rfl
     have:=hlo' rfl
     subst this
     exact lst (l:=0) (h':=h') hu he hx rfl h.1 rfl (bound_some rfl (by have:=h.1;obtain⟨a,b,c⟩:=this;omega) _) h.2
    ·rename_i l
     obtain⟨k,rfl⟩:=hlo _ rfl
     have:=hhi' rfl
     subst this
     exact lst (l:=l) (h':=(xs.length:Int)) hu he hx rfl h.1 (bound_some rfl h.1.1 _) (by simp[bound]) h.2
    ·rename_i l h'
     obtain⟨k,rfl⟩:=hlo _ rfl
     obtain⟨k',rfl⟩:=hhi _ rfl
     exact lst (l:=l) (h':=h') hu he hx rfl h.1 (bound_some rfl h.1.1 _) (bound_some rfl (by have:=h.1;obtain⟨a,b,c⟩:=this;omega) _) h.2
    ·exact h.elim
   ·exact h.elim
  ·exact h.elim
 ·exact h.elim
theorem eqlS_bin{op:BinOp}{e r:Bool}(h:eqlS op e=some r):eqlBin op e=some (.bool r):=by
 cases op<;>simp_all[eqlS,eqlBin]
theorem isI_inv(ht:HasTy T t x)(hu:isI (T.und t)=true):x=.nilIface∨∃u y,x=.iface u y:=by
 cases ht with
 |iface _ u y h _=>exact .inr ⟨u,y,rfl⟩
 |nilIface _ h=>exact .inl rfl
 |_=>(exfalso;generalize T.und t=D at*;cases D with
  |none=>simp_all[isB0,isP0,isI0,z0,isB,isP,isL,isM,isF,isI,isAgg?]
  |some D=>cases D<;>simp_all[isB0,isP0,isI0,z0,isB,isP,isL,isM,isF,isI,isAgg?])
theorem isF_inv(ht:HasTy T t x)(hu:isF (T.und t)=true):x=.nilFn∨(∃u y,x=.clo u y)∨∃u y,x=.bnd u y:=by
 cases ht with
 |clo _ u y h=>exact .inr (.inl ⟨u,y,rfl⟩)
 |bnd _ u y h=>exact .inr (.inr ⟨u,y,rfl⟩)
 |nilFn _ h=>exact .inl rfl
 |_=>(exfalso;generalize T.und t=D at*;cases D with
  |none=>simp_all[isB0,isP0,isI0,z0,isB,isP,isL,isM,isF,isI,isAgg?]
  |some D=>cases D<;>simp_all[isB0,isP0,isI0,z0,isB,isP,isL,isM,isF,isI,isAgg?])
theorem isP_inv(ht:HasTy T t x)(hu:isP (T.und t)=true):∃a,x=.ptr a:=by
 cases ht with
 |ptr _ a h=>exact⟨a,rfl⟩
 |_=>(exfalso;generalize T.und t=D at*;cases D with
  |none=>simp_all[isB0,isP0,isI0,z0,isB,isP,isL,isM,isF,isI,isAgg?]
  |some D=>cases D<;>simp_all[isB0,isP0,isI0,z0,isB,isP,isL,isM,isF,isI,isAgg?])
theorem sNil_ok{sv:SV}{y:Val}{op:BinOp}{xo yo:Operand}(h:sNil T s o.dst op t ty sv yo K)(hc:Conc T s st)(hp:ConcV T s.bc s.tc st.boxes st.toks sv y)
 (hd:∀R,doing T R st.esc (Am.ev st.regs) o=doBin T op t xo yo y (Am.ev st.regs yo)):OpOk T o st K:=by
 unfold sNil at h
 split at h
 ·rename_i hty
  rw[Bool.and_eq_true] at hty
  obtain⟨hty,hn⟩:=hty
  have tyb:∀b,HasTy T ty (.bool b):=λb=>by
   cases (tyS_ty hty).1 with|bool _ _ h=>exact .bool _ _ h
  have fin:∀{z:Val} {n e:Bool},Am.ev st.regs yo=z→doBin T op t xo yo y z=(eqlBin op n).map (λx=>Doing.ret (.d x))→eqlS op n=some e→K {} (s.put o.dst (.v ty (.bool e)))→OpOk T o st K:=by
   intro z n e hz hdo he hk
   refine ok_ret (v:=.d (.bool e)) hc (λR=>?_) (concV_d (tyb e)) hk
   rw[hd,hz,hdo,eqlS_bin he]
   rfl
  split at h
  ·rename_i u x
   split at h
   ·rename_i hut
    have hut:u=t:=by simpa using hut
    subst hut
    split at h
    ·rename_i e he
     obtain⟨h1,_,ht⟩:=hp
     cases yo with
     |const c=>
      cases c with
      |nilIface=>
       simp only[nilOf] at hn
       rcases isI_inv ht hn with rfl|⟨a,b,rfl⟩
       ·have:=toD_plain h1 rfl
        subst this
        exact fin (z:=.d .nilIface) (n:=true) rfl (by simp[doBin,hn,isK]) he h
       ·have:=toD_plain h1 rfl
        subst this
        exact fin (z:=.d .nilIface) (n:=false) rfl (by simp[doBin,hn]) he h
      |nilFunc=>
       simp only[nilOf] at hn
       rcases isF_inv ht hn with rfl|⟨a,b,rfl⟩|⟨a,b,rfl⟩
       ·have:=toD_plain h1 rfl
        subst this
        exact fin (z:=.d .nilFn) (n:=true) rfl (by simp[doBin,hn]) he h
       ·have:=toD_plain h1 rfl
        subst this
        exact fin (z:=.d .nilFn) (n:=false) rfl (by simp[doBin,hn]) he h
       ·have:=toD_plain h1 rfl
        subst this
        exact fin (z:=.d .nilFn) (n:=false) rfl (by simp[doBin,hn]) he h
      |pointer a=>
       cases a with
       |none=>
        simp only[nilOf] at hn
        obtain⟨a,rfl⟩:=isP_inv ht hn
        have:=toD_plain h1 rfl
        subst this
        cases a with
        |none=>exact fin (z:=.d (.ptr none)) (n:=true) rfl (by simp[doBin,hn,ptrNil]) he h
        |some a=>exact fin (z:=.d (.ptr none)) (n:=false) rfl (by simp[doBin,hn,ptrNil]) he h
       |some a=>cases hn
      |_=>cases hn
     |_=>cases hn
    ·exact h.elim
   ·exact h.elim
  ·split at h
   ·rename_i hP
    split at h
    ·rename_i e he
     obtain⟨_,g,rfl,_⟩:=hp
     cases yo with
     |const c=>
      cases c with
      |pointer a=>
       cases a with
       |none=>exact fin (z:=.d (.ptr none)) (n:=false) rfl (by simp[doBin,hP,ptrNil]) he h
       |some a=>cases hn
      |nilIface=>exfalso;simp only[nilOf] at hn;generalize T.und t=D at*;cases D with
       |none=>cases hP
       |some D=>cases D<;>simp_all[isP,isI]
      |nilFunc=>exfalso;simp only[nilOf] at hn;generalize T.und t=D at*;cases D with
       |none=>cases hP
       |some D=>cases D<;>simp_all[isP,isF]
      |_=>cases hn
     |_=>cases hn
    ·exact h.elim
   ·exact h.elim
  ·split at h
   ·rename_i hP
    split at h
    ·rename_i e he
     obtain⟨rfl,_⟩:=hp
     cases yo with
     |const c=>
      cases c with
      |pointer a=>
       cases a with
       |none=>exact fin (z:=.d (.ptr none)) (n:=false) rfl (by simp[doBin,hP,ptrNil]) he h
       |some a=>cases hn
      |nilIface=>exfalso;simp only[nilOf] at hn;generalize T.und t=D at*;cases D with
       |none=>cases hP
       |some D=>cases D<;>simp_all[isP,isI]
      |nilFunc=>exfalso;simp only[nilOf] at hn;generalize T.und t=D at*;cases D with
       |none=>cases hP
       |some D=>cases D<;>simp_all[isP,isF]
      |_=>cases hn
     |_=>cases hn
    ·exact h.elim
   ·exact h.elim
  ·exact h.elim
 ·exact h.elim
end Go.Proofs.YtgmapdcdmomioaaGreatDoor.Am
namespace Go.Proofs.YtgmapdcdmomioaaGreatDoor.Am
open Go
variable{T:Tb}{t u ty:TypeId}{x d:Dat}{v:Val}{s s':SSt}{st st':St}{o:Oper}{K:SFeet→SSt→Prop}
variable{bc tc bc' tc':Mp Nat}{B B':Mp (Nat×Box)}{C C':Mp (Nat×Option (Nat×Nat))}
theorem tyS_int{k:IntKind}{n:Int}(h:tyS T t (.int k n)=true)(m:Int):HasTy T t (.int k m):=by
 cases (tyS_ty h).1 with|int _ _ _ h=>exact .int _ _ _ h
theorem tyS_bool{b:Bool}(h:tyS T t (.bool b)=true)(c:Bool):HasTy T t (.bool c):=by
 cases (tyS_ty h).1 with|bool _ _ h=>exact .bool _ _ h
theorem tyS_str{b:List UInt8}(h:tyS T t (.str b)=true){c:List UInt8}(hc:c.length≤2^40):HasTy T t (.str c):=by
 cases (tyS_ty h).1 with|str _ _ h _=>exact .str _ _ h hc
theorem sEq_ok{a b:List Dat}:∀{fs:List Field} {e:Bool},sEq T fs (.agg a) (.agg b)=some e→
 (∀f∈fs,∃x y,a[f.offset]?=some x∧b[f.offset]?=some y∧HasTy T f.type x∧HasTy T f.type y)→eqFields T a b fs=some e
 |[],e,h,_=>by cases h;rfl
 |f::fs,e,h,hf=>by
  obtain⟨x,y,hx,hy,tx,ty'⟩:=hf f List.mem_cons_self
  have ex:fld (.agg a) f.offset=x:=nth_get hx
  have ey:fld (.agg b) f.offset=y:=nth_get hy
  simp only[sEq,ex,ey] at h
  split at h
  ·cases h
  ·rename_i hnm
   have ih:=λ{e} h=>sEq_ok (fs:=fs) (e:=e) h λg hg=>hf g (List.mem_cons_of_mem _ hg)
   simp only[eqFields,hnm,if_false,hx,hy]
   split at h
   ·rename_i k r hu hr
    cases h
    obtain⟨m,hm⟩:∃m,x=.int k m:=⟨_,tx.int_inv hu⟩
    obtain⟨n,hn⟩:∃m,y=.int k m:=⟨_,ty'.int_inv hu⟩
    subst hm hn
    have ko:∀a,keyOk T f.type (.int k a)=true:=λa=>by simp[keyOk,hu]
    simp only[ko,Bool.and_self,if_true,keyEq,intOf]
    cases he:m==n
    ·rfl
    ·simp only[Bool.true_and];exact ih hr
   ·rename_i r hu hr
    cases h
    obtain⟨m,hm⟩:∃m,x=.str m:=⟨_,(tx.str_inv hu).1⟩
    obtain⟨n,hn⟩:∃m,y=.str m:=⟨_,(ty'.str_inv hu).1⟩
    subst hm hn
    have ko:∀a,keyOk T f.type (.str a)=true:=λa=>by simp[keyOk,hu]
    simp only[ko,Bool.and_self,if_true,keyEq,strOf]
    cases he:m==n
    ·rfl
    ·simp only[Bool.true_and];exact ih hr
   ·rename_i r hu hr
    cases h
    obtain⟨m,hm⟩:∃m,x=.bool m:=⟨_,tx.bool_inv hu⟩
    obtain⟨n,hn⟩:∃m,y=.bool m:=⟨_,ty'.bool_inv hu⟩
    subst hm hn
    have ko:∀a,keyOk T f.type (.bool a)=true:=λa=>by simp[keyOk,hu]
    simp only[ko,Bool.and_self,if_true,keyEq,boolOf]
    cases he:m==n
    ·rfl
    ·simp only[Bool.true_and];exact ih hr
   ·cases h
theorem nrm_plain{cs:List Dat}(h:v.toD=some (.agg cs))(hn:nrm v=true)(hp:∀c∈cs,plainD c=true):v=.d (.agg cs):=by
 rcases toD_agg h with rfl|⟨vs,rfl,ho⟩
 ·rfl
 ·exfalso
  obtain⟨o1,o2⟩:=optAll_get? ho
  have:optAll (vs.map Val.isD)=some cs:=optAll_mk o1 λj a b ha' hb'=>by
   have h3:=o2 j a b ha' hb'
   have:=toD_plain (dat_toD h3) (hp b (List.mem_of_getElem? hb'))
   subst this
   rfl
  simp[nrm,this] at hn
theorem sBin_ok{a b:SV}{y z:Val}{op:BinOp}{xo yo:Operand}(h:sBin T s o.dst op t ty a b K)(hc:Conc T s st)(ha:ConcV T s.bc s.tc st.boxes st.toks a y)(hb:ConcV T s.bc s.tc st.boxes st.toks b z)
 (hd:∀R,doing T R st.esc (Am.ev st.regs) o=doBin T op t xo yo y z):OpOk T o st K:=by
 unfold sBin at h
 split at h
 ·split at h
  ·rename_i t1 k m t2 k' n
   have e1:=toD_plain ha.1 rfl
   have e2:=toD_plain hb.1 rfl
   subst e1 e2
   unfold sBinI at h
   split at h
   ·rename_i hs
    split at h
    ·rename_i x hx
     split at h
     ·rename_i hty
      exact ok_ret (v:=.d x) hc (λR=>by rw[hd];simp only[doBin,hs,if_true,hx];rfl) (concV_d (tyS_ty hty).1) h
     ·exact h.elim
    ·exact h.elim
   ·rename_i hs
    split at h
    ·rename_i hkk
     have hkk:k=k':=by simpa using hkk
     subst hkk
     split at h
     ·obtain⟨h0,h⟩:=h
      have h0:n≠0:=h0
      split at h
      ·rename_i hty
       exact ok_ret (v:=.d (.int k (k.wrap (m.tdiv n)))) hc (λR=>by rw[hd];simp only[doBin,hs,if_true,intBin,h0,if_false];rfl) (concV_d (tyS_int hty _)) h
      ·exact h.elim
     ·obtain⟨h0,h⟩:=h
      have h0:n≠0:=h0
      split at h
      ·rename_i hty
       exact ok_ret (v:=.d (.int k (m.tmod n))) hc (λR=>by rw[hd];simp only[doBin,hs,if_true,intBin,h0,if_false];rfl) (concV_d (tyS_int hty _)) h
      ·exact h.elim
     ·split at h
      ·rename_i x hx
       split at h
       ·rename_i hty
        exact ok_ret (v:=.d x) hc (λR=>by rw[hd];simp only[doBin,hs,if_true,hx];rfl) (concV_d (tyS_ty hty).1) h
       ·exact h.elim
      ·exact h.elim
    ·exact h.elim
  ·exact h.elim
 ·split at h
  ·rename_i t1 m t2 n
   have e1:=toD_plain ha.1 rfl
   have e2:=toD_plain hb.1 rfl
   subst e1 e2
   unfold sBinS at h
   split at h
   ·obtain⟨h0,h⟩:=h
    split at h
    ·rename_i hty
     exact ok_ret (v:=.d (.str (m++n))) hc (λR=>by rw[hd];simp only[doBin,strBin,h0,if_true];rfl) (concV_d (tyS_str hty (by rw[List.length_append];exact h0))) h
    ·exact h.elim
   ·split at h
    ·rename_i x hx
     split at h
     ·rename_i hty
      exact ok_ret (v:=.d (.bool x)) hc (λR=>by rw[hd];simp only[doBin,hx];rfl) (concV_d (tyS_bool hty _)) h
     ·exact h.elim
    ·exact h.elim
  ·exact h.elim
 ·rename_i hu
  split at h
  ·rename_i t1 m t2 n
   have e1:=toD_plain ha.1 rfl
   have e2:=toD_plain hb.1 rfl
   subst e1 e2
   split at h
   ·rename_i hcc
    split at h
    ·rename_i x hx
     exact ok_ret (v:=.d (.bool x)) hc (λR=>by rw[hd];simp only[doBin,hu,isB,if_true,eqlS_bin hx];rfl) (concV_d (tyS_bool hcc _)) h
    ·exact h.elim
   ·exact h.elim
  ·exact h.elim
 ·rename_i fs hu
  split at h
  ·rename_i t1 m t2 n tys hl
   split at h
   ·rename_i hcc
    simp only[Bool.and_eq_true,beq_iff_eq] at hcc
    obtain⟨⟨⟨ht1,ht2⟩,hpl⟩,hty⟩:=hcc
    split at h
    ·rename_i hall
     simp only[Bool.and_eq_true,List.all_eq_true,Bool.not_eq_true',beq_iff_eq] at hall
     obtain⟨hns,hfs⟩:=hall
     split at h
     ·rename_i e he
      split at h
      ·rename_i r hx
       have ag:isAgg? (T.und t)=true:=by rw[hu];rfl
       have inv:∀{v:Val} {x:Dat},v.toD=some x→nrm v=true→HasTy T t x→∃cs,x=.agg cs∧v=.d (.agg cs)∧∀f∈fs.toList,∃y,cs[f.offset]?=some y∧HasTy T f.type y:=by
        intro v x h1 n1 ta
        obtain⟨tys',ds,rfl,hl',hn,k1,hx⟩:=ta.agg_inv ag
        rw[hl] at hl'
        cases hl'
        refine⟨ds,rfl,nrm_plain h1 n1 λc hcm=>?_,λf hf=>?_⟩
        ·obtain⟨j,hj⟩:=List.mem_iff_getElem?.1 hcm
         have hlt:j<tys.length:=by rw[hn];exact(List.getElem?_eq_some_iff.1 hj).1
         have hty:=hx j _ c (List.getElem?_eq_getElem hlt) hj
         have hns:=hns _ (List.getElem_mem hlt)
         have:=k1 c hcm
         cases hty with
         |sl _ e m xs h=>rw[h] at hns;cases hns
         |gsl _ e k m xs h=>rw[h] at hns;cases hns
         |agg=>cases this
         |_=>rfl
        ·have h2:=hfs f hf
         have hlt:f.offset<ds.length:=by rw[←hn];exact(List.getElem?_eq_some_iff.1 h2).1
         exact⟨_,List.getElem?_eq_getElem hlt,hx _ _ _ h2 (List.getElem?_eq_getElem hlt)⟩
       obtain⟨as,rfl,rfl,fa⟩:=inv ha.1 ha.2.1 (ht1▸ha.2.2)
       obtain⟨bs,rfl,rfl,fb⟩:=inv hb.1 hb.2.1 (ht2▸hb.2.2)
       have heq:=sEq_ok he λf hf=>by
        obtain⟨x,x1,x2⟩:=fa f hf
        obtain⟨y,y1,y2⟩:=fb f hf
        exact⟨x,y,x1,y1,x2,y2⟩
       exact ok_ret (v:=.d (.bool r)) hc (λR=>by rw[hd];simp only[doBin,hu,hpl,if_true,heq,eqlS_bin hx];rfl) (concV_d (tyS_bool hty _)) h
      ·exact h.elim
     ·exact h.elim
    ·exact h.elim
   ·exact h.elim
  ·exact h.elim
 ·exact h.elim
theorem sUn_ok{a:SV}{y:Val}{op:UnOp}(h:sUn T s o.dst op ty a K)(hc:Conc T s st)(ha:ConcV T s.bc s.tc st.boxes st.toks a y)
 (hd:∀R,doing T R st.esc (Am.ev st.regs) o=doUn op y):OpOk T o st K:=by
 unfold sUn at h
 split at h
 ·have e1:=toD_plain ha.1 rfl
  subst e1
  split at h
  ·rename_i b hty
   exact ok_ret hc (λR=>by rw[hd];simp only[doUn]) (concV_d (tyS_bool hty _)) h
  ·exact h.elim
 ·have e1:=toD_plain ha.1 rfl
  subst e1
  split at h
  ·rename_i k n hty
   exact ok_ret hc (λR=>by rw[hd];simp only[doUn]) (concV_d (tyS_int hty _)) h
  ·exact h.elim
 ·exact h.elim
theorem bytesD_ok:∀{xs:List Dat},(∀x∈xs,∃n,x=.int .u8 n)→bytesOf xs=some (bytesD xs)∧(bytesD xs).length=xs.length
 |[],_=>⟨rfl,rfl⟩
 |x::xs,h=>by
  obtain⟨n,rfl⟩:=h x List.mem_cons_self
  obtain⟨h1,h2⟩:=bytesD_ok (xs:=xs) λy hy=>h y (List.mem_cons_of_mem _ hy)
  exact⟨by simp only[bytesOf,h1,bytesD,intOf,Option.map_some],by simp[bytesD,h2]⟩
theorem bytesUp_ty{e:TypeId}(h:T.und e=some (.int .u8))(s:List UInt8):∀x∈bytesUp s,HasTy T e x:=λx hx=>by
 obtain⟨c,_,rfl⟩:=List.mem_map.1 hx
 exact .int _ _ _ (isI0_of h)
theorem sConvert_ok{a:SV}{y:Val}{src d:TypeId}(h:sConvert T s o.dst src d a K)(hc:Conc T s st)(ha:ConcV T s.bc s.tc st.boxes st.toks a y)
 (hd:∀R,doing T R st.esc (Am.ev st.regs) o=doConvert T src d y):OpOk T o st K:=by
 unfold sConvert at h
 split at h
 ·rename_i k0 k hs hdd
  split at h
  ·rename_i t1 k1 n
   have e1:=toD_plain ha.1 rfl
   subst e1
   exact ok_ret hc (λR=>by rw[hd];simp only[doConvert,hs,hdd]) (concV_d (.int _ _ _ (isI0_of hdd))) h
  ·exact h.elim
 ·rename_i hs hdd
  split at h
  ·rename_i t1 b
   have e1:=toD_plain ha.1 rfl
   subst e1
   have hbl:b.length≤2^40:=by have:=ha.2.2;cases this with|str _ _ _ hl=>exact hl
   exact ok_ret (v:=.d (.str b)) hc (λR=>by rw[hd];unfold doConvert;rw[hs,hdd]) (concV_d (.str _ _ hdd hbl)) h
  ·exact h.elim
 ·rename_i e hs hdd
  split at h
  ·rename_i t1 b hu hsz hby
   have e1:=toD_plain ha.1 rfl
   subst e1
   have hbl:b.length≤2^40:=by have:=ha.2.2;cases this with|str _ _ _ hl=>exact hl
   refine ok_ret (v:=.d (.sl 1 (bytesUp b))) hc (λR=>?_) (concV_d (.sl _ e 1 _ hdd hsz (SlFit.of hby ⟨by simpa[bytesUp] using hbl,by simp[bytesUp];omega⟩) (bytesUp_ty hu b))) h
   rw[hd]
   unfold doConvert
   rw[hs,hdd]
   have:(isU8 (T.und e)&&decide (b.length≤2^40))=true:=by simp[hu,isU8,hbl]
   simp only[this,if_true,bytesUp]
  ·exact h.elim
 ·rename_i e hs hdd
  split at h
  ·rename_i e' m xs he hu
   split at h
   ·rename_i hee
    have hee:e'=e:=by simpa using hee
    subst hee
    obtain⟨m',h1,h2,h3,h4,h5⟩:=concV_els ha he
    obtain⟨b1,b2⟩:=bytesD_ok (xs:=xs) λx hx=>by have:=(h5 x hx).int_inv hu;exact⟨_,this⟩
    refine ok_ret (v:=.d (.str (bytesD xs))) hc (λR=>?_) (concV_d (.str _ _ hdd (by rw[b2];exact h4.1))) h
    rw[hd]
    unfold doConvert
    rw[hs,hdd]
    have:isU8 (T.und e')=true:=by rw[hu];rfl
    cases y with
    |d z=>cases z<;>simp_all[Val.elems]
    |_=>simp_all[Val.elems]
   ·exact h.elim
  ·exact h.elim
 ·exact h.elim
end Go.Proofs.YtgmapdcdmomioaaGreatDoor.Am
namespace Go.Proofs.YtgmapdcdmomioaaGreatDoor.Am
open Go
variable{T:Tb}{t u ty:TypeId}{x d:Dat}{v:Val}{s s':SSt}{st st':St}{o:Oper}{K:SFeet→SSt→Prop}
variable{bc tc bc' tc':Mp Nat}{B B':Mp (Nat×Box)}{C C':Mp (Nat×Option (Nat×Nat))}
theorem buildS_ok{fs:Array Field}:∀{parts:List (Nat×SV)} {vparts:List (Nat×Val)} {cs cs':List SV} {vs:List Val},buildS T fs cs parts=some cs'→
 Els (λs v=>v.one=true∧ConcV T bc tc B C s v) cs vs→Els (λ(p:Nat×SV) (q:Nat×Val)=>p.1=q.1∧ConcV T bc tc B C p.2 q.2) parts vparts→
 ∃vs',buildAll T fs vs vparts=some vs'∧Els (λs v=>v.one=true∧ConcV T bc tc B C s v) cs' vs'
 |[],vparts,cs,cs',vs,h,hc,hp=>by
  have:vparts=[]:=List.eq_nil_of_length_eq_zero hp.1.symm
  subst this
  cases h
  exact⟨vs,rfl,hc⟩
 |(i,sv)::r,vparts,cs,cs',vs,h,hc,hp=>by
  cases vparts with
  |nil=>cases hp.1
  |cons q vr=>
   obtain⟨j,w⟩:=q
   obtain⟨⟨e1,e2⟩,hr⟩:=hp.tail
   have e1:i=j:=e1
   subst e1
   simp only[buildS] at h
   split at h
   ·rename_i fd ws hf hw
    split at h
    ·rename_i hcc
     simp only[Bool.and_eq_true,beq_iff_eq] at hcc
     obtain⟨c1,c2⟩:=hcc
     have c2:=Nat.le_of_ble_eq_true c2
     have hels:=concV_cellsAll e2 hw
     have hone:=hels.all_one
     obtain⟨vs',k1,k2⟩:=buildS_ok h (Els.putAll fd.offset hc hels) hr
     refine⟨vs',?_,k2⟩
     simp only[buildAll,hf]
     rw[if_pos ⟨by rw[c1,hels.1],by rw[←hc.1,←hels.1];exact c2,hone⟩]
     exact k1
    ·cases h
   ·cases h
theorem sBuild_ok{parts:List (Nat×Operand)}(h:sBuild T s o.dst t parts K)(hc:Conc T s st)
 (hd:∀R,doing T R st.esc (Am.ev st.regs) o=doBuild T t (parts.map λp=>(p.1,Am.ev st.regs p.2))):OpOk T o st K:=by
 unfold sBuild at h
 split at h
 ·rename_i fs z tys hu hz hl
  split at h
  ·rename_i hcc
   rw[Bool.and_eq_true] at hcc
   obtain⟨hz1,hsz⟩:=hcc
   split at h
   ·rename_i zs hzs
    split at h
    ·rename_i cs hcs
     split at h
     ·rename_i l ho
      split at h
      ·rename_i hlt
       have hlt:l.map (·.1)=tys:=by simpa using hlt
       have hzt:=tyB_ty hz1
       have ag:isAgg? (T.und t)=true:=by rcases partsT_inv hu with hu|⟨_,_,_,hu,_⟩<;>rw[hu]<;>rfl
       have hz0:=concV_cells (bc:=s.bc) (tc:=s.tc) (B:=st.boxes) (K:=st.toks) (v:=.d z) (concV_d hzt) hzs
       have hzc:(Val.d z).cells=z.cells.map .d:=by
        obtain⟨_,ds,rfl,_⟩:=hzt.agg_inv ag
        rfl
       rw[hzc] at hz0
       obtain⟨vs',k1,k2⟩:=buildS_ok (vparts:=parts.map λp=>(p.1,Am.ev st.regs p.2)) hcs hz0 ⟨by simp,λj a b ha hb=>by
        rw[List.getElem?_map] at ha hb
        cases hp:parts[j]? with
        |none=>rw[hp] at ha;cases ha
        |some p=>
         rw[hp] at ha hb
         cases ha
         cases hb
         exact⟨rfl,hc.ev _ _⟩⟩
       obtain⟨d1,d2⟩:=dats_of k2 ho
       refine ok_ret (v:=mkAgg vs') hc (λR=>?_) (sv:=.v t (.agg (l.map (·.2)))) ⟨mkAgg_toD d1,mkAgg_nrm _,?_⟩ h
       ·rw[hd]
        unfold doBuild
        simp only[hu,hz,hsz,if_true,k1]
        rw[if_pos k2.all_one]
       ·refine .agg _ tys _ ag hl (by rw[←hlt];simp) (λc hc'=>?_) (λi w c hw hcx=>?_)
        ·obtain⟨p,hp,rfl⟩:=List.mem_map.1 hc'
         exact(d2 p hp).2
        ·rw[←hlt,List.getElem?_map] at hw
         rw[List.getElem?_map] at hcx
         cases hp:l[i]? with
         |none=>rw[hp] at hw;cases hw
         |some p=>
          rw[hp] at hw hcx
          cases hw
          cases hcx
          exact(d2 p (List.mem_of_getElem? hp)).1
      ·exact h.elim
     ·exact h.elim
    ·exact h.elim
   ·exact h.elim
  ·exact h.elim
 ·exact h.elim
theorem sNewOwn_ok{k m:Nat}{xs:List Dat}(h:sNewOwn s k t m xs K)(hc:Conc T s st)(ho:o.dst=some k)(ht:HasTy T t (.sl m xs))
 (hd:∀R,doing T R st.esc (Am.ev st.regs) o=some (newOwn k m xs)):OpOk T o st K:=by
 unfold sNewOwn at h
 have ha:∃g,(newOwn k m xs).apply st=some (.val (.own k g m xs),{st with toks:=st.toks.set k (g,some (m,xs.length))}):=by
  cases hk:st.toks.get k with
  |none=>exact⟨0,by simp only[newOwn,Doing.apply,Doing.look,Doing.put,hk]⟩
  |some p=>obtain⟨g,r⟩:=p;exact⟨g+1,by simp only[newOwn,Doing.apply,Doing.look,Doing.put,hk]⟩
 obtain⟨g,ha⟩:=ha
 refine⟨_,_,_,_,_,hd,ha,feet_tok rfl (λi hi=>?_) rfl,h,?_⟩
 ·cases hi;simp
 ·rw[ho]
  exact hc.newOwn ht
theorem partsS_ok{e:TypeId}{len m:Nat}{tys:List TypeId}(hl:lay T e=some tys)(hm:tys.length=m):∀{parts:List (Nat×SV)} {vparts:List (Nat×Val)} {ps:List (Nat×Dat)},partsS e len m parts=some ps→
 Els (λ(p:Nat×SV) (q:Nat×Val)=>p.1=q.1∧ConcV T bc tc B C p.2 q.2) parts vparts→
 optAll (vparts.map λp=>match p.2.toD with
  |some x=>if x.cells.length=m∧p.1<len then some (p.1,x) else none
  |none=>none)=some ps∧∀p∈ps,HasTy T e p.2
 |[],vparts,ps,h,hp=>by
  have:vparts=[]:=List.eq_nil_of_length_eq_zero hp.1.symm
  subst this
  cases h
  exact⟨rfl,λp h=>by cases h⟩
 |(i,sv)::r,vparts,ps,h,hp=>by
  cases vparts with
  |nil=>cases hp.1
  |cons q vr=>
   obtain⟨j,w⟩:=q
   obtain⟨⟨e1,e2⟩,hr⟩:=hp.tail
   have e1:i=j:=e1
   subst e1
   simp only[partsS] at h
   split at h
   ·rename_i u x l hdat hrest
    split at h
    ·rename_i hcc
     cases h
     rw[Bool.and_eq_true] at hcc
     obtain⟨c1,c2⟩:=hcc
     have c1:u=e:=by simpa using c1
     subst c1
     have c2:i<len:=Nat.le_of_ble_eq_true c2
     obtain⟨d1,d2⟩:=concV_dat e2 hdat
     obtain⟨k1,k2⟩:=partsS_ok hl hm hrest hr
     have hcl:x.cells.length=m:=by
      cases ha:isAgg? (T.und u) with
      |true=>
       obtain⟨tys',ds,rfl,hl',hn,_⟩:=d2.agg_inv ha
       rw[hl] at hl'
       cases hl'
       rw[←hm,hn]
       rfl
      |false=>
       have h1:=d2.one_inv ha
       have hxc:x.cells=[x]:=by cases x<;>first|rfl|cases h1
       cases hd':T.und u with
       |none=>exfalso;cases d2<;>simp_all[isB0,isP0,isI0,z0,isB,isP,isL,isM,isF,isI,isAgg?]
       |some D=>
        have hl':=lay_one hd' ha
        rw[hl] at hl'
        cases hl'
        rw[hxc,←hm]
        rfl
     refine⟨?_,λp hp=>?_⟩
     ·simp only[List.map_cons,d1,hcl,c2,and_self,if_true,optAll,k1]
     ·rcases List.mem_cons.1 hp with rfl|hp
      ·exact d2
      ·exact k2 p hp
    ·cases h
   ·cases h
theorem foldl_set_ty{e:TypeId}:∀{ps:List (Nat×Dat)} {l:List Dat},(∀x∈l,HasTy T e x)→(∀p∈ps,HasTy T e p.2)→(∀x∈ps.foldl (λl p=>l.set p.1 p.2) l,HasTy T e x)∧(ps.foldl (λl p=>l.set p.1 p.2) l).length=l.length
 |[],l,h,_=>⟨h,rfl⟩
 |p::ps,l,h,hp=>by
  obtain⟨h1,h2⟩:=foldl_set_ty (ps:=ps) (l:=l.set p.1 p.2) (λx hx=>by
   rcases List.mem_or_eq_of_mem_set hx with hx|rfl
   ·exact h x hx
   ·exact hp p List.mem_cons_self) (λq hq=>hp q (List.mem_cons_of_mem _ hq))
  exact⟨h1,by rw[List.foldl_cons,h2,List.length_set]⟩
theorem ok_glob{A:Doing}{w:Val}{sv:SV}{g':Glob}(hc:Conc T s st)(hd:∀R,doing T R st.esc (Am.ev st.regs) o=some A)(ha:A.apply st=some (.val w,{st with glob:=g'}))(hf:FeetIn T A {wr:=true})
 (hv:ConcV T s.bc s.tc st.boxes st.toks sv w) (hk:K {wr:=true} {s.put o.dst sv with glob:=g'}):OpOk T o st K:=by
 refine⟨A,w,_,_,_,hd,ha,hf,hk,?_⟩
 have h1:=(hc.glob' g').put o.dst hv
 have e1:{s with glob:=g'}.put o.dst sv={s.put o.dst sv with glob:=g'}:=by cases o.dst<;>rfl
 have e2:{st with glob:=g'}.put o.dst w={st.put o.dst w with glob:=g'}:=by cases o.dst<;>rfl
 rw[e1] at h1
 exact h1
theorem sBuildSlice_ok{len:Nat}{parts:List (Nat×Operand)}(h:sBuildSlice T s o.dst t len parts K)(hc:Conc T s st)
 (hd:∀R,doing T R st.esc (Am.ev st.regs) o=doBuildSlice T st.esc t len (parts.map λp=>(p.1,Am.ev st.regs p.2)) o.dst):OpOk T o st K:=by
 unfold sBuildSlice at h
 split at h
 ·rename_i k e hdst hu
  split at h
  ·rename_i m z tys hsz hz hl
   split at h
   ·rename_i hcc
    simp only[Bool.and_eq_true,beq_iff_eq] at hcc
    obtain⟨⟨⟨⟨⟨c1,c2⟩,c6⟩,c3⟩,c4⟩,c5⟩:=hcc
    have c1:0<m:=Nat.le_of_ble_eq_true c1
    have c2:=Nat.le_of_ble_eq_true c2
    split at h
    ·rename_i ps hps
     obtain⟨p1,p2⟩:=partsS_ok (bc:=s.bc) (tc:=s.tc) (B:=st.boxes) (C:=st.toks) (vparts:=parts.map λp=>(p.1,Am.ev st.regs p.2)) hl c4 hps ⟨by simp,λj a b ha hb=>by
      rw[List.getElem?_map] at ha hb
      cases hp:parts[j]? with
      |none=>rw[hp] at ha;cases ha
      |some p=>
       rw[hp] at ha hb
       cases ha
       cases hb
       exact⟨rfl,hc.ev _ _⟩⟩
     have hzt:=tyB_ty c5
     obtain⟨f1,f2⟩:=foldl_set_ty (l:=List.replicate len z) (ps:=ps) (λx hx=>by rw[(List.mem_replicate.1 hx).2];exact hzt) p2
     have hlen:len≤2^40:=by
      have:len*1≤len*m:=Nat.mul_le_mul_left _ c1
      omega
     have hd':∀R,doing T R st.esc (Am.ev st.regs) o=some (if ga st.esc then newGown m (ps.foldl (λl p=>l.set p.1 p.2) (List.replicate len z)) else newOwn k m (ps.foldl (λl p=>l.set p.1 p.2) (List.replicate len z))):=λR=>by
      rw[hd]
      unfold doBuildSlice slElem
      rw[hdst,hu]
      simp only[hsz,hz,c1,c2,c3,and_self,if_true]
      generalize hq:optAll _=q
      have hqq:q=some ps:=by rw[←hq];exact p1
      rw[hqq]
     have hfit:SlFit T e (ps.foldl (λl p=>l.set p.1 p.2) (List.replicate len z)).length:=by rw[f2,List.length_replicate];exact fitB_fit c6 hlen
     rw[hc.esc] at hd'
     cases hga:ga s.esc with
     |true=>
      simp only[hga,if_true] at h hd'
      refine ok_glob hc (λR=>by rw[hc.esc];exact hd' R) (w:=.d (.gsl st.glob.toks.length m _)) rfl (feet_wr rfl (λk h=>by cases h) rfl rfl) (by rw[hc.glob];exact concV_d (.gsl _ e _ m _ hu hsz hfit f1)) ?_
      have e:(Doing.look (newGown m (ps.foldl (λl p=>l.set p.1 p.2) (List.replicate len z))) st).2.2=s.glob:=hc.glob
      rw[f2,List.length_replicate,e]
      exact h
     |false=>
      simp only[hga,if_false] at h hd'
      exact sNewOwn_ok h hc hdst (.sl _ e m _ hu hsz hfit f1) λR=>by rw[hc.esc];exact hd' R
    ·exact h.elim
   ·exact h.elim
  ·exact h.elim
 ·exact h.elim
theorem sMakeSlice_ok{lo co:Operand}(h:sMakeSlice T s o.dst t (s.int lo) (s.int co) K)(hc:Conc T s st)
 (hd:∀R,doing T R st.esc (Am.ev st.regs) o=doMakeSlice T t (Am.ev st.regs lo) (Am.ev st.regs co) o.dst):OpOk T o st K:=by
 unfold sMakeSlice at h
 split at h
 ·rename_i k e n c hdst hu hn hcc
  split at h
  ·rename_i m z by' hsz hz hby
   split at h
   ·rename_i hcc'
    simp only[Bool.and_eq_true,beq_iff_eq] at hcc'
    obtain⟨⟨c1,c3⟩,c5⟩:=hcc'
    have c1:0<m:=Nat.le_of_ble_eq_true c1
    obtain⟨h1,h2,⟨h3,h4⟩,h⟩:=h
    have hzt:=tyB_ty c5
    obtain⟨k1,e1⟩:=hc.int hn
    obtain⟨k2,e2⟩:=hc.int hcc
    refine sNewOwn_ok h hc hdst (.sl _ e m _ hu hsz (by rw[List.length_replicate];exact(SlFit.of hby ⟨h3,h4⟩).le (by omega)) (λx hx=>by rw[(List.mem_replicate.1 hx).2];exact hzt)) λR=>?_
    rw[hd,e1,e2]
    unfold doMakeSlice slElem
    rw[hdst,hu]
    have:fits c.toNat by'=true:=by simp only[fits,h3,h4,decide_true,Bool.and_self]
    simp only[hsz,hz,hby,c1,c3,h1,h2,this,and_self,if_true]
   ·exact h.elim
  ·exact h.elim
 ·exact h.elim
theorem onMap_read{i:Nat}{f:Entries→Nat→Option (Val×Entries×Nat)}{es es':Entries}{c c':Nat}{w:Val}{sv:SV}{r:Rd}(hc:Conc T s st)(hb:st.glob.boxes[i]?=some (.map es c))(hf:f es c=some (w,es',c'))
 (hd:∀R,doing T R st.esc (Am.ev st.regs) o=onMap false (.d (.map (some i))) f)
 (hr:∀g:Glob,(match g.boxes[i]? with|some (.map es c)=>(match f es c with|some (v,_,_)=>some v|none=>none)|_=>none)=Rd.read T r g)
 (hv:ConcV T s.bc s.tc st.boxes st.toks sv w) (hk:K {rd:=some r} (s.put o.dst sv)):OpOk T o st K:=by
 refine⟨Doing.mk none none (some false) λ_ _ gl=>
  match gl.boxes[i]? with
  |some (.map es c)=>(match f es c with|some (v,es',c')=>some (.val v,none,none,{gl with boxes:=gl.boxes.set i (.map es' c')})|none=>none)
  |_=>none,w,st,_,_,λR=>(hd R).trans rfl,?_,feet_rd rfl rfl rfl rfl (λg=>?_),hk,hc.put _ hv⟩
 ·simp only[Doing.apply,Doing.look,Doing.put,hb,hf]
 ·rw[←hr g]
  simp only
  cases g.boxes[i]? with
  |none=>rfl
  |some bx=>cases bx with
   |cells cs=>rfl
   |map es1 c1=>
    simp only
    cases f es1 c1 with
    |none=>rfl
    |some p=>rfl
theorem sLen_ok{a:SV}{y:Val}(h:sLen T s o.dst t ty a K)(hc:Conc T s st)(ha:ConcV T s.bc s.tc st.boxes st.toks a y)
 (hd:∀R,doing T R st.esc (Am.ev st.regs) o=doLen T t y):OpOk T o st K:=by
 unfold sLen at h
 split at h
 ·rename_i hty
  split at h
  ·rename_i hu
   split at h
   ·have e1:=toD_plain ha.1 rfl
    subst e1
    exact ok_ret hc (λR=>by rw[hd];simp only[doLen,hu]) (concV_d (tyS_int hty _)) h
   ·exact h.elim
  ·rename_i e hu
   split at h
   ·rename_i e' m xs he
    obtain⟨m',h1,h2,h3,h4,h5⟩:=concV_els ha he
    exact ok_ret (v:=.d (.int .i64 xs.length)) hc (λR=>by rw[hd];simp only[doLen,hu,h1];rfl) (concV_d (tyS_int hty _)) h
   ·exact h.elim
  ·rename_i kt e hu
   split at h
   ·have e1:=toD_plain ha.1 rfl
    subst e1
    exact ok_ret hc (λR=>by rw[hd];simp only[doLen,hu]) (concV_d (tyS_int hty _)) h
   ·rename_i i
    have e1:=toD_plain ha.1 rfl
    subst e1
    obtain⟨n,hn,h⟩:=h
    have hn':=hn
    rw[←hc.glob] at hn
    unfold gmlen at hn
    split at hn
    ·rename_i es c hb
     cases hn
     refine onMap_read (r:=.size i) (f:=λes c=>some (.d (.int .i64 es.length),es,c)) hc hb rfl (λR=>by rw[hd];simp only[doLen,hu]) (λg=>?_) (concV_d (tyS_int hty _)) h
     simp only[Rd.read,gmlen]
     cases g.boxes[i]? with
     |none=>rfl
     |some bx=>cases bx<;>rfl
    ·cases hn
   ·exact h.elim
  ·exact h.elim
 ·exact h.elim
theorem Conc.int64(h:Conc T s st){x:Operand}{n:Int}(hx:s.int64 x=some n):Am.ev st.regs x=.d (.int .i64 n):=by
 unfold SSt.int64 at hx
 cases x with
 |tmp i=>
  simp only at hx
  split at hx
  ·rename_i t n' hs
   cases hx
   obtain⟨v,h1,h2,_⟩:=h.regs i _ hs
   simp only[Am.ev,h1,Option.getD_some];exact toD_plain h2 rfl
  ·cases hx
 |const c=>
  cases c with
  |int k m=>cases k<;>first|(cases hx;rfl)|(cases hx)
  |_=>cases hx
 |_=>cases hx
theorem sMax_ok{a b:Operand}{gt:Bool}(h:sMax T s gt o.dst ty [s.int64 a,s.int64 b] K)(hc:Conc T s st)
 (hd:∀m n,Am.ev st.regs a=.d (.int .i64 m)→Am.ev st.regs b=.d (.int .i64 n)→∀R,doing T R st.esc (Am.ev st.regs) o=some (.ret (.d (.int .i64 (maxS gt m n))))):OpOk T o st K:=by
 unfold sMax at h
 split at h
 ·rename_i m n hmn
  simp only[List.cons.injEq,and_true] at hmn
  obtain⟨h1,h2⟩:=hmn
  split at h
  ·rename_i hty
   exact ok_ret (v:=.d (.int .i64 (maxS gt m n))) hc (hd m n (hc.int64 h1) (hc.int64 h2)) (concV_d (tyS_int hty _)) h
  ·exact h.elim
 ·exact h.elim
theorem sNilCheck_ok{a:SV}{y:Val}(h:sNilCheck T s o.dst a K)(hc:Conc T s st)(ha:ConcV T s.bc s.tc st.boxes st.toks a y)
 (hd:∀R,doing T R st.esc (Am.ev st.regs) o=doNilCheck y):OpOk T o st K:=by
 unfold sNilCheck at h
 split at h
 ·have ha':=ha
  obtain⟨_,g,rfl,_⟩:=ha'
  exact ok_ret hc (λR=>by rw[hd];rfl) ha h
 ·have ha':=ha
  obtain⟨rfl,_⟩:=ha'
  exact ok_ret hc (λR=>by rw[hd];rfl) ha h
 ·split at h
  ·obtain⟨u,z,rfl,h⟩:=h
   have e1:=toD_plain ha.1 rfl
   subst e1
   exact ok_ret hc (λR=>by rw[hd];rfl) ha h
  ·split at h
   ·have e1:=toD_plain ha.1 rfl
    subst e1
    exact ok_ret hc (λR=>by rw[hd];rfl) ha h
   ·have e1:=toD_plain ha.1 rfl
    subst e1
    exact ok_ret hc (λR=>by rw[hd];rfl) ha h
   ·have e1:=toD_plain ha.1 rfl
    subst e1
    exact ok_ret hc (λR=>by rw[hd];rfl) ha h
   ·exact h.elim
 ·exact h.elim
theorem sIface_ok{a:SV}{y:Val}(h:sIface T s o.dst t ty a K)(hc:Conc T s st)(ha:ConcV T s.bc s.tc st.boxes st.toks a y)
 (hd:∀R,doing T R st.esc (Am.ev st.regs) o=doIface T t y):OpOk T o st K:=by
 unfold sIface at h
 split at h
 ·exact h.elim
 ·rename_i D u z hni hu hdat
  split at h
  ·rename_i hcc
   rw[Bool.and_eq_true] at hcc
   obtain⟨c1,c2⟩:=hcc
   have c1:u=t:=by simpa using c1
   subst c1
   obtain⟨d1,d2⟩:=concV_dat ha hdat
   refine ok_ret (v:=.d (.iface u z)) hc (λR=>?_) (concV_d (.iface _ _ _ c2 d2)) h
   rw[hd]
   unfold doIface
   rw[hu,d1]
   cases D<;>first|rfl|exact absurd rfl (hni _)
  ·exact h.elim
 ·exact h.elim
theorem sFunc_ok{fn:Fn}{first:List Operand}{caps:List Operand}(h:sFunc T s o.dst ty fn (first.map (s.ev T 0)) (caps.map (s.ev T 0)) K)(hc:Conc T s st)
 (hd:∀R,doing T R st.esc (Am.ev st.regs) o=doFunc fn (first.map (Am.ev st.regs)) (caps.map (Am.ev st.regs))):OpOk T o st K:=by
 unfold sFunc at h
 generalize hfi:first.map (s.ev T 0)=fi at h
 generalize ho:optAll ((caps.map (s.ev T 0)).map SV.dat)=oc at h
 have caps_ok:∀{l:List (TypeId×Dat)},oc=some l→optAll ((caps.map (Am.ev st.regs)).map Val.toD)=some (l.map (·.2)):=λ{l} e=>by
  rw[e] at ho
  obtain⟨o1,o2⟩:=optAll_get? ho
  rw[List.map_map]
  refine optAll_mk (by rw[List.length_map,←o1,List.length_map]) λj a b ha hb=>?_
  rw[List.getElem?_map] at hb
  cases hl:l[j]? with
  |none=>rw[hl] at hb;cases hb
  |some p=>
   rw[hl] at hb
   cases hb
   have:=o2 j (s.ev T 0 a) p (by rw[List.getElem?_map,ha];rfl) hl
   exact(concV_dat (t:=p.1) (x:=p.2) (hc.ev 0 a) (by rw[this])).1
 split at h
 ·rename_i f l
  split at h
  ·rename_i hty
   refine ok_ret (v:=.d (.clo f (l.map (·.2)))) hc (λR=>?_) (concV_d (.clo _ _ _ hty)) h
   rw[hd]
   have:first=[]:=by simpa using hfi
   subst this
   simp only[doFunc,List.map_nil,caps_ok rfl]
  ·exact h.elim
 ·rename_i f r
  split at h
  ·rename_i t0 d hr
   split at h
   ·rename_i hty
    refine ok_ret (v:=.d (.bnd f d)) hc (λR=>?_) (concV_d (.bnd _ _ _ hty)) h
    rw[hd]
    obtain⟨x,rfl,rfl⟩:∃x,first=[x]∧s.ev T 0 x=r:=by
     match first,hfi with
     |[x],hfi=>exact⟨x,rfl,by simpa using hfi⟩
    have hx:=(concV_dat (hc.ev 0 x) hr).1
    simp only[doFunc,List.map_cons,List.map_nil,caps_ok rfl,hx,Option.map_some]
   ·exact h.elim
  ·exact h.elim
 ·exact h.elim
def doExtract(i:Nat):Val→Option Doing
 |.tuple vs=>(vs[i]?).map .ret
 |_=>none
theorem sExtract_ok{a:SV}{y:Val}{i:Nat}(h:sExtract T s o.dst ty a i K)(hc:Conc T s st)(ha:ConcV T s.bc s.tc st.boxes st.toks a y)
 (hd:∀R,doing T R st.esc (Am.ev st.regs) o=doExtract i y):OpOk T o st K:=by
 unfold sExtract at h
 split at h
 ·rename_i l
  split at h
  ·rename_i t d hl
   obtain⟨vs,rfl,hels⟩:=ha
   have hlt:i<vs.length:=by rw[←hels.1];exact(List.getElem?_eq_some_iff.1 hl).1
   have hv:=List.getElem?_eq_getElem hlt
   have he:=hels.2 i _ _ hl hv
   refine ok_ret (v:=vs[i]) hc (λR=>by rw[hd];simp only[doExtract,hv];rfl) ?_ h
   refine⟨he.1,he.2.1,?_⟩
   split
   ·exact he.2.2
   ·split
    ·rename_i hty;exact(tyS_ty hty).1
    ·exact he.2.2
  ·exact h.elim
 ·exact h.elim
theorem sRange_ok{a:SV}{y:Val}(h:sRange T s o.dst t a K)(hc:Conc T s st)(ha:ConcV T s.bc s.tc st.boxes st.toks a y)
 (hd:∀R,doing T R st.esc (Am.ev st.regs) o=doRange T t y o.dst):OpOk T o st K:=by
 unfold sRange at h
 split at h
 ·rename_i k t1 b hdst hu
  have e1:=toD_plain ha.1 rfl
  subst e1
  have hk:∃A,doRange T t (.d (.str b)) o.dst=some A∧A.apply st=some (.val (.loc k (nextGen (st.boxes.get k)) 0),{st with boxes:=st.boxes.set k (nextGen (st.boxes.get k),.iter b 0)})∧FeetIn T A {box:=some (k,true)}:=by
   unfold doRange
   rw[hdst,hu]
   refine⟨_,rfl,?_,feet_box rfl rfl rfl⟩
   simp only[Doing.apply,Doing.look,Doing.put]
   cases st.boxes.get k with
   |none=>rfl
   |some p=>rfl
  obtain⟨A,a1,a2,a3⟩:=hk
  refine⟨A,_,_,_,_,λR=>(hd R).trans a1,a2,a3,h,?_⟩
  rw[hdst]
  exact hc.newBox (sb:=.iter b 0) (bx:=.iter b 0) ⟨rfl,rfl⟩
 ·exact h.elim
theorem sNext_ok{a:SV}{y:Val}(h:sNext T s o.dst ty a K)(hc:Conc T s st)(ha:ConcV T s.bc s.tc st.boxes st.toks a y)
 (hd:∀R,doing T R st.esc (Am.ev st.regs) o=doNext y true):OpOk T o st K:=by
 unfold sNext at h
 split at h
 ·rename_i k c
  split at h
  ·rename_i b pos hb
   split at h
   ·rename_i hcc
    simp only[Bool.and_eq_true,beq_iff_eq] at hcc
    obtain⟨hcc,hz⟩:=hcc
    have tb:∀b,HasTy T ty (.bool b):=λb=>.bool _ _ (by simp[isB0,hz])
    have ti:∀k n,HasTy T ty (.int k n):=λk n=>.int _ _ _ (by
     unfold isI0
     generalize T.und ty=D at hz
     cases D with
     |none=>cases hz
     |some D=>cases D<;>first|exact hz|cases hz)
    obtain⟨_,g,rfl,hbx⟩:=ha
    obtain⟨g',bx,h1,h2⟩:=hc.boxes k _ hb
    obtain⟨bx',h3⟩:=hbx hcc
    rw[h1] at h3
    cases h3
    cases bx with
    |iter b' pos'=>
     obtain⟨e1,e2⟩:=h2
     subst e1 e2
     by_cases hlt:pos'<b'.length
     ·simp only[hlt,decide_true,Br] at h
      have hk:∃A,doNext (.loc k g 0) true=some A∧A.apply st=some (.val (.tuple [.d (.bool true),.d (.int .i64 pos'),.d (.int .i32 (runeAt b' pos'))]),{st with boxes:=st.boxes.set k (g,.iter b' (pos'+runeLen b' pos'))})∧FeetIn T A {box:=some (k,true)}:=by
       refine⟨_,rfl,?_,feet_box rfl rfl rfl⟩
       simp only[Doing.apply,Doing.look,Doing.put,h1,hlt,if_true]
       rfl
      obtain⟨A,a1,a2,a3⟩:=hk
      refine⟨A,_,_,_,_,λR=>(hd R).trans a1,a2,a3,h,?_⟩
      refine(hc.setBox (sb:=.iter b' (pos'+runeLen b' pos')) (bx':=.iter b' (pos'+runeLen b' pos')) h1 ⟨rfl,rfl⟩).put _ (sv:=.tup _) ⟨_,rfl,?_⟩
      refine Els.cons ⟨rfl,rfl,tb _⟩ (Els.cons ⟨rfl,rfl,ti _ _⟩ (Els.cons ⟨rfl,rfl,ti _ _⟩ ⟨rfl,λj a b h=>by simp at h⟩))
     ·simp only[hlt,decide_false,Br] at h
      have hk:∃A,doNext (.loc k g 0) true=some A∧A.apply st=some (.val (.tuple [.d (.bool false)]),{st with boxes:=st.boxes.set k (g,.iter b' pos')})∧FeetIn T A {box:=some (k,true)}:=by
       refine⟨_,rfl,?_,feet_box rfl rfl rfl⟩
       simp only[Doing.apply,Doing.look,Doing.put,h1,hlt,if_true,if_false]
      obtain⟨A,a1,a2,a3⟩:=hk
      refine⟨A,_,_,_,_,λR=>(hd R).trans a1,a2,a3,h,?_⟩
      refine(hc.setBox (sb:=.iter b' pos') (bx':=.iter b' pos') h1 ⟨rfl,rfl⟩).put _ (sv:=.tup _) ⟨_,rfl,?_⟩
      exact Els.cons ⟨rfl,rfl,tb _⟩ ⟨rfl,λj a b h=>by simp at h⟩
    |_=>exact h2.elim
   ·exact h.elim
  ·exact h.elim
 ·exact h.elim
theorem sAssert_ok{a:SV}{y:Val}{ok:Bool}(h:sAssert T s o.dst a u ok ty K)(hc:Conc T s st)(ha:ConcV T s.bc s.tc st.boxes st.toks a y)
 (hd:∀R,doing T R st.esc (Am.ev st.regs) o=doAssert T y u ok):OpOk T o st K:=by
 unfold sAssert at h
 split at h
 ·rename_i t1 t2 z
  split at h
  ·rename_i hcc
   simp only[Bool.and_eq_true,beq_iff_eq,Bool.not_eq_true'] at hcc
   obtain⟨⟨rfl,hni⟩,hsome⟩:=hcc
   have e1:=toD_plain ha.1 rfl
   subst e1
   have hz:HasTy T t2 z:=by have:=ha.2.2;cases this with|iface _ _ _ _ h=>exact h
   cases hu:T.und t2 with
   |none=>rw[hu] at hsome;cases hsome
   |some D=>
    have hda:doAssert T (.d (.iface t2 z)) t2 ok=some (.ret (if ok then .tuple [.d z,.d (.bool true)] else .d z)):=by
     unfold doAssert
     rw[hu]
     rw[hu] at hni
     cases D<;>first|(cases hni;done)|simp
    split at h
    ·rename_i hok
     split at h
     ·rename_i a b hty
      split at h
      ·rename_i hcc
       rw[Bool.and_eq_true] at hcc
       have e2:a=t2:=by simpa using hcc.1
       subst e2
       refine ok_ret hc (λR=>by rw[hd,hda,if_pos hok]) (sv:=.tup _) ⟨_,rfl,?_⟩ h
       exact Els.cons ⟨rfl,rfl,hz⟩ (Els.cons ⟨rfl,rfl,tyS_bool hcc.2 _⟩ ⟨rfl,λj a b h=>by simp at h⟩)
      ·exact h.elim
     ·split at h
      ·rename_i hz0
       refine ok_ret hc (λR=>by rw[hd,hda,if_pos hok]) (sv:=.tup _) ⟨_,rfl,?_⟩ h
       exact Els.cons ⟨rfl,rfl,hz⟩ (Els.cons ⟨rfl,rfl,.bool _ _ (by simp[isB0,hz0])⟩ ⟨rfl,λj a b h=>by simp at h⟩)
      ·exact h.elim
    ·rename_i hok
     exact ok_ret hc (λR=>by rw[hd,hda,if_neg hok]) (concV_d hz) h
  ·exact h.elim
 ·exact h.elim
end Go.Proofs.YtgmapdcdmomioaaGreatDoor.Am
namespace Go.Proofs.YtgmapdcdmomioaaGreatDoor.Am
open Go
variable{T:Tb}{t u ty:TypeId}{x d:Dat}{v:Val}{s s':SSt}{st st':St}{o:Oper}{K:SFeet→SSt→Prop}
variable{bc tc bc' tc':Mp Nat}{B B':Mp (Nat×Box)}{C C':Mp (Nat×Option (Nat×Nat))}
theorem bump_ge(k:Nat):∀(ks:List (Nat×Nat)) (tc:Mp Nat),cnt tc k≤cnt (bump tc ks) k
 |[],tc=>Nat.le_refl _
 |p::ks,tc=>by
  refine Nat.le_trans ?_ (bump_ge k ks _)
  rw[cnt_set]
  split
  ·rename_i e;subst e;exact Nat.le_succ _
  ·exact Nat.le_refl _
theorem bump_gt{k:Nat}{c:Nat}:∀{ks:List (Nat×Nat)} {tc:Mp Nat},(k,c)∈ks→cnt tc k<cnt (bump tc ks) k
 |p::ks,tc,h=>by
  rcases List.mem_cons.1 h with h|h
  ·subst h
   refine Nat.lt_of_lt_of_le ?_ (bump_ge k ks _)
   rw[cnt_set,if_pos rfl];exact Nat.lt_succ_self _
  ·refine Nat.lt_of_le_of_lt ?_ (bump_gt (ks:=ks) h)
   rw[cnt_set]
   split
   ·rename_i e;subst e;exact Nat.le_succ _
   ·exact Nat.le_refl _
theorem upS_bump{ks:List (Nat×Nat)}(h:∀k,C'.get k=C.get k∨∃c,(k,c)∈ks):UpS bc tc B C bc (bump tc ks) B C' where
 b i:=⟨Nat.le_refl _,λ_ g bx h=>⟨bx,h⟩⟩
 k i:=⟨bump_ge i ks tc,λe r hr=>by
   rcases h i with h|⟨c,h⟩
   ·rw[h];exact hr
   ·have:=bump_gt (tc:=tc) h;omega⟩
theorem addKey_mem{d:Nat}{ks:List (Nat×Nat)}:(∃c,(d,c)∈addKey d ks)∧∀p∈ks,p∈addKey d ks:=by
 unfold addKey
 split
 ·rename_i h
  obtain⟨p,hp,he⟩:=List.any_eq_true.1 h
  have he:p.1=d:=by simpa using he
  subst he
  exact⟨⟨p.2,hp⟩,λq hq=>hq⟩
 ·exact⟨⟨0,List.mem_cons_self⟩,λq hq=>List.mem_cons_of_mem _ hq⟩
theorem isSl_sl{m:Nat}{e:TypeId}(hu:T.und t=some (.slice e))(hs:T.size e=some m):isSl T t m=true:=by
 unfold isSl;rw[hu];simp[hs]
theorem slOf_ty{e:TypeId}{m:Nat}{xs:List Dat}(hu:T.und t=some (.slice e))(hs:T.size e=some m)(hl:SlFit T e xs.length)(hx:∀x∈xs,HasTy T e x):HasTy T t (slOf m xs):=by
 cases xs with
 |nil=>exact .nil _ (by rw[hu];rfl)
 |cons y ys=>exact .sl _ e m _ hu hs hl hx
theorem src_ok{tx e:TypeId}{b:SV}{z:Val}{em:Option (TypeId×Nat)}{ys:List Dat}{m:Nat}(hb:ConcV T bc tc B C b z)(h:srcS T tx b=some (em,ys))(hs:T.size e=some m)
 (he:emOk T e m em=true):
 ∃m',srcElems T tx z=some (m',ys)∧(ys≠[]→m'=m)∧∀y∈ys,HasTy T e y:=by
 have sl:∀{em ys},isL (T.und tx)=true→slEm T b=some (em,ys)→emOk T e m em=true→∃m',srcElems T tx z=some (m',ys)∧(ys≠[]→m'=m)∧∀y∈ys,HasTy T e y:=by
  intro em ys hL h he
  unfold slEm at h
  split at h
  ·rename_i e' m1 xs hels
   simp only[Option.some.injEq,Prod.mk.injEq] at h
   obtain⟨rfl,rfl⟩:=h
   have he:e'=e:=by simpa[emOk] using he
   subst he
   obtain⟨m',h1,h2,h3,h4,h5⟩:=concV_els hb hels
   rw[hs] at h3
   simp only[Option.some.injEq] at h3
   subst h3
   refine⟨m',?_,h2,h5⟩
   unfold srcElems
   split
   ·simp[Val.elems] at h1
   ·rw[if_pos hL];exact h1
  ·cases h
 unfold srcS at h
 split at h
 ·rename_i hS
  split at h
  ·rename_i t1 bs
   simp only[Option.some.injEq,Prod.mk.injEq] at h
   obtain⟨rfl,rfl⟩:=h
   have e1:=toD_plain hb.1 rfl
   subst e1
   simp only[emOk,Bool.and_eq_true] at he
   obtain⟨he1,he2⟩:=he
   have he1:m=1:=by simpa using he1
   subst he1
   refine⟨1,by simp only[srcElems,hS,if_true,bytesUp],λ_=>rfl,bytesUp_ty ?_ bs⟩
   unfold isU8 at he2
   split at he2
   ·rename_i hu;exact hu
   ·cases he2
  ·cases h
 ·split at h
  ·rename_i hL
   exact sl hL h he
  ·cases h
theorem sAppend_ok{tx:TypeId}{a b:SV}{y z:Val}(h:sAppend T s o.dst t tx a b K)(hc:Conc T s st)(ha:ConcV T s.bc s.tc st.boxes st.toks a y)(hb:ConcV T s.bc s.tc st.boxes st.toks b z)
 (hd:∀R,doing T R st.esc (Am.ev st.regs) o=doAppend T st.esc t tx y z o.dst):OpOk T o st K:=by
 unfold sAppend at h
 split at h
 ·rename_i dk e em ys hdst hu hsrc
  split at h
  ·rename_i m by' z0 hsz hby hz
   split at h
   ·rename_i hcc
    rw[Bool.and_eq_true,Bool.and_eq_true] at hcc
    obtain⟨⟨c1,c3⟩,c4⟩:=hcc
    have c3:z0.cells.length=m:=by simpa using c3
    have c1:0<m:=Nat.le_of_ble_eq_true c1
    obtain⟨m',q1,q2,q3⟩:=src_ok hb hsrc hsz c4
    have ebase:doAppend T st.esc t tx y z o.dst=
     if ys.isEmpty then(if y.elems.isSome then some (.ret y) else none)
     else if m'≠m then none else
     match y with
     |.d .nil=>if fits ys.length by' then(if ga st.esc then some (newGown m ys) else o.dst.map λk=>newOwn k m ys) else none
     |.own k g mo xs=>
      if mo=m∧fits (xs.length+ys.length) by' then some (Doing.mk none (some k) none λ_ kc gl=>
       if kc=some (g,some (m,xs.length)) then some (.val (.own k g m (xs++ys)),none,some (g,some (m,xs.length+ys.length)),gl) else none) else none
     |.d (.gsl g mo xs)=>
      if mo=m∧fits (xs.length+ys.length) by' then some (Doing.mk none none (some true) λ_ _ gl=>
       if gl.toks[g]?=some (m,xs.length) then some (.val (.d (.gsl g m (xs++ys))),none,none,{gl with toks:=gl.toks.set g (m,xs.length+ys.length)}) else none) else none
     |.gown g mo xs=>
      if mo=m∧fits (xs.length+ys.length) by' then some (Doing.mk none none (some true) λ_ _ gl=>
       if gl.toks[g]?=some (m,xs.length) then some (.val (.gown g m (xs++ys)),none,none,{gl with toks:=gl.toks.set g (m,xs.length+ys.length)}) else none) else none
     |_=>none:=by
     unfold doAppend slElem
     rw[hu]
     simp only[hsz,hby,hz,q1,c1,c3,and_self,if_true]
     rfl
    have fit_of:∀{n},Fits n by'→fits n by'=true:=λh=>by simp only[fits,h.1,h.2,decide_true,Bool.and_self]
    cases hga:ga s.esc with
    |true=>
     have hgs:ga st.esc=true:=by rw[hc.esc];exact hga
     simp only[hga,if_true] at h
     split at h
     ·rename_i u x
      split at h
      ·rename_i hut
       rw[Bool.and_eq_true] at hut
       obtain⟨hut,hisl⟩:=hut
       have hut:u=t:=by simpa using hut
       subst hut
       obtain⟨hfit,r,g',hg,hk⟩:=h
       obtain⟨hfx,hxs⟩:=ha.2.2.els hu
       by_cases hys:ys=[]
       ·subst hys
        cases hg
        refine⟨.ret y,y,st,{wr:=true},_,λR=>?_,rfl,feet_ret _ _,hk,?_⟩
        ·have hel:y.elems.isSome=true:=by
          obtain⟨m',h1,_⟩:=concV_els (sv:=.v u x) (e:=e) (m:=m) (xs:=elsOf x) ha (by simp only[SV.els,hu,hsz])
          rw[h1];rfl
         rw[hd,ebase];simp only[List.isEmpty_nil,if_true,hel]
        ·have h1:=hc.put o.dst ha
         have e1:{s.put o.dst (.v u x) with glob:=s.glob}=s.put o.dst (.v u x):=by cases o.dst<;>rfl
         rw[e1]
         exact h1
       ·have hemp:ys.isEmpty=false:=by cases ys<;>first|rfl|exact absurd rfl hys
        unfold gapp at hg
        rw[hemp] at hg
        simp only[Bool.false_eq_true,if_false] at hg
        split at hg
        ·cases hg
         have hy:y=.d .nil:=toD_plain ha.1 rfl
         have hfit':fits ys.length by'=true:=by have:=fit_of hfit;simpa[elsOf] using this
         have e0:(Doing.look (newGown m ys) st).2.2=s.glob:=hc.glob
         refine ok_glob hc (A:=newGown m ys) (w:=.d (.gsl st.glob.toks.length m ys)) (λR=>?_) rfl (feet_wr rfl (λk h=>by cases h) rfl rfl) (by rw[hc.glob];exact concV_d (.gsl _ e _ m _ hu hsz (SlFit.of hby (by simpa[elsOf] using hfit)) q3)) ?_
         ·rw[hd,ebase,hy]
          simp only[hemp,Bool.false_eq_true,if_false,q2 hys,ne_eq,not_true_eq_false,hfit',if_true,hgs]
         ·rw[e0];exact hk
        ·rename_i k m2 xs
         split at hg
         ·rename_i hcc
          obtain⟨rfl,htk⟩:=hcc
          cases hg
          have hy:y=.d (.gsl k m2 xs):=toD_plain ha.1 rfl
          have htk':st.glob.toks[k]?=some (m2,xs.length):=by rw[hc.glob];exact htk
          have hfit':fits (xs.length+ys.length) by'=true:=fit_of hfit
          obtain⟨A,hA,hap,hft⟩:∃A,doAppend T st.esc u tx y z o.dst=some A∧A.apply st=some (.val (.d (.gsl k m2 (xs++ys))),{st with glob:={s.glob with toks:=s.glob.toks.set k (m2,xs.length+ys.length)}})∧FeetIn T A {wr:=true}:=by
           rw[ebase,hy]
           simp only[hemp,Bool.false_eq_true,if_false,q2 hys,ne_eq,not_true_eq_false,hfit',and_self,if_true]
           refine⟨_,rfl,?_,feet_wr rfl (λk h=>by cases h) rfl rfl⟩
           simp only[Doing.apply,Doing.look,Doing.put,htk',if_true]
           rw[hc.glob]
          refine ok_glob hc (λR=>(hd R).trans hA) hap hft (concV_d (.gsl _ e _ m2 _ hu hsz (SlFit.of hby (by rw[List.length_append];exact hfit)) λw hw=>?_)) hk
          rcases List.mem_append.1 hw with hw|hw
          ·exact hxs w hw
          ·exact q3 w hw
         ·cases hg
        ·cases hg
      ·exact h.elim
     ·exact h.elim
    |false=>
    have hgs:ga st.esc=false:=by rw[hc.esc];exact hga
    simp only[hga,Bool.false_eq_true,if_false] at h
    simp only[hgs,Bool.false_eq_true,if_false] at ebase
    -- nothing is appended
    have none_ok:ys=[]→∀{sv:SV} {tc':Mp Nat} {ft:SFeet},K ft ((s.put o.dst sv).setTc tc')→y.elems.isSome=true→UpS s.bc s.tc st.boxes st.toks s.bc tc' st.boxes st.toks→ConcV T s.bc tc' st.boxes st.toks sv y→OpOk T o st K:=by
     intro hy sv tc' ft hk hel up hv
     subst hy
     refine⟨.ret y,y,st,ft,_,λR=>?_,rfl,feet_ret _ _,hk,?_⟩
     ·rw[hd,ebase];simp only[List.isEmpty_nil,if_true,hel]
     ·have h1:=(hc.mem s.boxes s.bc tc' st.boxes st.toks up (hc.boxes_up up λ_ _ _=>rfl)).put o.dst hv
      rw[hdst] at h1⊢
      exact h1
    -- a new one
    have new_ok:ys≠[]→y=.d .nil→fits ys.length by'=true→∀{sv:SV} {tc':Mp Nat} {ft:SFeet},K ft ((s.put o.dst sv).setTc tc')→dk∈ft.toks→(∀g,UpS s.bc s.tc st.boxes st.toks s.bc tc' st.boxes (st.toks.set dk (g,some (m,ys.length))))→
      (∀g,ConcV T s.bc tc' st.boxes (st.toks.set dk (g,some (m,ys.length))) sv (.own dk g m ys))→OpOk T o st K:=by
     intro hne hy hfit sv tc' ft hk hft up hv
     have hdo:∀R,doing T R st.esc (Am.ev st.regs) o=some (newOwn dk m ys):=λR=>by
      rw[hd,ebase,hy,hdst]
      have:ys.isEmpty=false:=by cases ys<;>first|rfl|exact absurd rfl hne
      simp only[this,Bool.false_eq_true,if_false,q2 hne,ne_eq,not_true_eq_false,hfit,if_true,Option.map_some]
     have hap:∃g,(newOwn dk m ys).apply st=some (.val (.own dk g m ys),{st with toks:=st.toks.set dk (g,some (m,ys.length))}):=by
      cases hk:st.toks.get dk with
      |none=>exact⟨0,by simp only[newOwn,Doing.apply,Doing.look,Doing.put,hk]⟩
      |some p=>obtain⟨g,r⟩:=p;exact⟨g+1,by simp only[newOwn,Doing.apply,Doing.look,Doing.put,hk]⟩
     obtain⟨g,hap⟩:=hap
     refine⟨_,_,_,ft,_,hdo,hap,feet_tok rfl (λi hi=>by cases hi;exact hft) rfl,hk,?_⟩
     have h1:=(hc.mem s.boxes s.bc tc' st.boxes _ (up g) (hc.boxes_up (up g) λ_ _ _=>rfl)).put o.dst (hv g)
     rw[hdst] at h1⊢
     exact h1
    -- a longer one
    have more_ok:ys≠[]→∀{k g:Nat} {xs:List Dat},y=.own k g m xs→st.toks.get k=some (g,some (m,xs.length))→fits (xs.length+ys.length) by'=true→∀{sv:SV} {tc':Mp Nat} {ft:SFeet},K ft ((s.put o.dst sv).setTc tc')→k∈ft.toks→
      UpS s.bc s.tc st.boxes st.toks s.bc tc' st.boxes (st.toks.set k (g,some (m,(xs++ys).length)))→ConcV T s.bc tc' st.boxes (st.toks.set k (g,some (m,(xs++ys).length))) sv (.own k g m (xs++ys))→OpOk T o st K:=by
     intro hne k g xs hy htk hfit sv tc' ft hk hft up hv
     have hA:∃A,doAppend T st.esc t tx y z o.dst=some A∧A.apply st=some (.val (.own k g m (xs++ys)),{st with toks:=st.toks.set k (g,some (m,(xs++ys).length))})∧FeetIn T A ft:=by
      rw[ebase,hy]
      have:ys.isEmpty=false:=by cases ys<;>first|rfl|exact absurd rfl hne
      simp only[this,Bool.false_eq_true,if_false,q2 hne,ne_eq,not_true_eq_false,hfit,and_self,if_true]
      refine⟨_,rfl,?_,feet_tok rfl (λi hi=>by cases hi;exact hft) rfl⟩
      simp only[Doing.apply,Doing.look,Doing.put,htk,if_true,List.length_append]
     obtain⟨A,a1,a2,a3⟩:=hA
     refine⟨A,_,_,ft,_,λR=>(hd R).trans a1,a2,a3,hk,?_⟩
     have h1:=(hc.mem s.boxes s.bc tc' st.boxes _ up (hc.boxes_up up λ_ _ _=>rfl)).put o.dst hv
     rw[hdst] at h1⊢
     exact h1
    split at h
    ·rename_i u
     split at h
     ·rename_i hut
      rw[Bool.and_eq_true] at hut
      obtain⟨hut,hisl⟩:=hut
      obtain⟨hfit,hk⟩:=h
      have hy:=toD_plain ha.1 rfl
      have tyy:=slOf_ty hu hsz (xs:=ys) (SlFit.of hby hfit) q3
      have hle:∀p∈[(dk,cnt s.tc dk+1)],p.2≤cnt (s.tc.set dk (cnt s.tc dk+1)) p.1:=λp hp=>by
       simp only[List.mem_singleton] at hp;subst hp;rw[cnt_set,if_pos rfl];exact Nat.le_refl _
      skip
      by_cases hys:ys=[]
      ·subst hys
       refine none_ok rfl hk (by rw[hy];rfl) ?_ ⟨hisl,tyy,hle,.inl ⟨rfl,hy⟩⟩
       refine⟨λi=>⟨Nat.le_refl _,λ_ g bx h=>⟨bx,h⟩⟩,λi=>⟨?_,λ_ r h=>h⟩⟩
       rw[cnt_set];split
       ·rename_i e;subst e;exact Nat.le_succ _
       ·exact Nat.le_refl _
      ·refine new_ok hys hy (fit_of hfit) hk (by simp) (λg=>upS_newTok) (λg=>⟨hisl,tyy,hle,.inr ⟨hys,_,List.mem_singleton.2 rfl,g,rfl,λ_=>?_⟩⟩)
       rw[Mp.get_set,if_pos rfl]
     ·exact h.elim
    ·rename_i k c u m1 xs
     split at h
     ·rename_i hut
      simp only[Bool.and_eq_true,beq_iff_eq] at hut
      obtain⟨⟨rfl,rfl⟩,hcur⟩:=hut
      obtain⟨hfit,hk⟩:=h
      obtain⟨_,ht,g,hy,htk⟩:=ha
      have htk:=htk hcur
      skip
      have tyx:HasTy T u (.sl m1 (xs++ys)):=by
       have hh:=ht.els hu
       exact .sl _ e m1 _ hu hsz (by rw[List.length_append];exact SlFit.of hby hfit) λw hw=>by
        rcases List.mem_append.1 hw with hw|hw
        ·exact hh.2 w hw
        ·exact q3 w hw
      have hle:cnt s.tc k+1≤cnt (s.tc.set k (cnt s.tc k+1)) k:=by rw[cnt_set,if_pos rfl];exact Nat.le_refl _
      by_cases hys:ys=[]
      ·subst hys
       refine none_ok rfl hk (by rw[hy];rfl) ?_ ⟨hle,tyx,g,by rw[hy,List.append_nil],λ_=>by rw[List.append_nil];exact htk⟩
       refine⟨λi=>⟨Nat.le_refl _,λ_ g bx h=>⟨bx,h⟩⟩,λi=>⟨?_,λ_ r h=>h⟩⟩
       rw[cnt_set];split
       ·rename_i e;subst e;exact Nat.le_succ _
       ·exact Nat.le_refl _
      ·exact more_ok hys hy htk (fit_of hfit) hk (by simp) upS_newTok ⟨hle,tyx,g,rfl,λ_=>by rw[Mp.get_set,if_pos rfl]⟩
     ·exact h.elim
    ·rename_i ks u m1 xs
     split at h
     ·rename_i hut
      simp only[Bool.and_eq_true,beq_iff_eq] at hut
      obtain⟨⟨rfl,rfl⟩,hcur⟩:=hut
      obtain⟨hfit,hk⟩:=h
      obtain⟨hisl,ht,_,hv⟩:=ha
      skip
      have hcur:∀p∈ks,p.2=cnt s.tc p.1:=λp hp=>by
       have:=(List.all_eq_true.1 hcur) p hp
       simpa using this
      have hxs:∀w∈xs,HasTy T e w:=by
       have hh:=ht.els hu
       rw[slOf_els] at hh
       exact hh.2
      have tyy:HasTy T u (slOf m1 (xs++ys)):=slOf_ty hu hsz (by rw[List.length_append];exact SlFit.of hby hfit) λw hw=>by
        rcases List.mem_append.1 hw with hw|hw
        ·exact hxs w hw
        ·exact q3 w hw
      obtain⟨⟨c0,hmd⟩,hmk⟩:=addKey_mem (d:=dk) (ks:=ks)
      have hle:∀p∈bumped (bump s.tc (addKey dk ks)) (addKey dk ks),p.2≤cnt (bump s.tc (addKey dk ks)) p.1:=λp hp=>by
       obtain⟨q,_,rfl⟩:=List.mem_map.1 hp
       exact Nat.le_refl _
      have hmem:∀{k c},(k,c)∈addKey dk ks→(k,cnt (bump s.tc (addKey dk ks)) k)∈bumped (bump s.tc (addKey dk ks)) (addKey dk ks):=λh=>List.mem_map.2 ⟨_,h,rfl⟩
      have hft:∀{k c},(k,c)∈addKey dk ks→k∈(addKey dk ks).map (·.1):=λh=>List.mem_map.2 ⟨_,h,rfl⟩
      by_cases hys:ys=[]
      ·subst hys
       have up0:UpS s.bc s.tc st.boxes st.toks s.bc (bump s.tc (addKey dk ks)) st.boxes st.toks:=upS_bump λk=>.inl rfl
       rcases hv with ⟨hx,hy⟩|⟨hx,p,hp,g,hy,htk⟩
       ·refine none_ok rfl hk (by rw[hy];rfl) up0 ⟨hisl,tyy,hle,.inl ⟨by rw[hx];rfl,hy⟩⟩
       ·refine none_ok rfl hk (by rw[hy];rfl) up0 ⟨hisl,tyy,hle,.inr ⟨by rw[List.append_nil];exact hx,_,hmem (hmk p hp),g,by rw[List.append_nil];exact hy,λ_=>by rw[List.append_nil];exact htk (hcur p hp)⟩⟩
      ·rcases hv with ⟨hx,hy⟩|⟨hx,p,hp,g,hy,htk⟩
       ·subst hx
        have hfit':fits ys.length by'=true:=by have:=fit_of hfit;simpa using this
        refine new_ok hys hy hfit' hk (hft hmd) (λg=>upS_bump λk=>?_) (λg=>⟨hisl,tyy,hle,.inr ⟨hys,_,hmem hmd,g,rfl,λ_=>?_⟩⟩)
        ·rw[Mp.get_set]
         split
         ·rename_i e;subst e;exact .inr ⟨_,hmd⟩
         ·exact .inl rfl
        ·rw[Mp.get_set,if_pos rfl];rfl
       ·refine more_ok hys hy (htk (hcur p hp)) (fit_of hfit) hk (hft (hmk p hp)) (upS_bump λk=>?_) ⟨hisl,tyy,hle,.inr ⟨by simp[hys],_,hmem (hmk p hp),g,rfl,λ_=>?_⟩⟩
        ·rw[Mp.get_set]
         split
         ·rename_i e;subst e;exact .inr ⟨_,hmk p hp⟩
         ·exact .inl rfl
        ·rw[Mp.get_set,if_pos rfl]
     ·exact h.elim
    ·exact h.elim
   ·exact h.elim
  ·exact h.elim
 ·exact h.elim
end Go.Proofs.YtgmapdcdmomioaaGreatDoor.Am
namespace Go.Proofs.YtgmapdcdmomioaaGreatDoor.Am
open Go
section
variable{T:Tb}{t u ty:TypeId}{x d:Dat}{v:Val}{s s':SSt}{st st':St}{o:Oper}{K:SFeet→SSt→Prop}
variable{bc tc:Mp Nat}{B:Mp (Nat×Box)}{C:Mp (Nat×Option (Nat×Nat))}
theorem keyOk_plain{kt:TypeId}{k:Dat}(h:keyOk T kt k=true):plainD k=true:=by
 unfold keyOk at h
 split at h<;>first|rfl|cases h
theorem key_d{kt w:TypeId}{k:Dat}{y:Val}(hk:keyOk T kt k=true)(h:ConcV T bc tc B C (.v w k) y):y=.d k:=toD_plain h.1 (keyOk_plain hk)
theorem pairTy_ok{a b e:TypeId}{y y':Dat}(h:pairTy T ty e y=some (a,b))(hy:∀b,tyS T b y=true→HasTy T b y'):a=e∧HasTy T b y':=by
 unfold pairTy at h
 split at h
 ·split at h
  ·rename_i hcc
   cases h
   simp only[Bool.and_eq_true,beq_iff_eq] at hcc
   exact⟨rfl,hy _ hcc.2⟩
  ·cases h
 ·split at h
  ·rename_i hcc
   cases h
   simp only[Bool.and_eq_true] at hcc
   exact⟨rfl,hy _ hcc.2⟩
  ·cases h
theorem tup2_ok{a b:TypeId}{x y:Dat}(hx:HasTy T a x)(hy:HasTy T b y):ConcV T bc tc B C (.tup [(a,x),(b,y)]) (.tuple [.d x,.d y]):=
 ⟨_,rfl,Els.cons ⟨rfl,rfl,hx⟩ (Els.cons ⟨rfl,rfl,hy⟩ ⟨rfl,λj a b h=>by simp at h⟩)⟩
theorem found_conc{e:TypeId}{z x:Dat}{b ok:Bool}{r:Option (Nat×Dat)}{sv:SV}(hx:HasTy T e x)(hr:(b=true∧∃j,r=some (j,x))∨(b=false∧x=z∧r=none))
 (hs:if ok then ∃b',sv=.tup [(e,x),(b',.bool b)]∧HasTy T b' (.bool b) else sv=.v e x):ConcV T bc tc B C sv (found z ok r):=by
 cases ok with
 |true=>
  simp only[if_true] at hs
  obtain⟨b',rfl,hb⟩:=hs
  rcases hr with ⟨rfl,j,rfl⟩|⟨rfl,rfl,rfl⟩
  ·exact tup2_ok hx hb
  ·exact tup2_ok hx hb
 |false=>
  simp only[Bool.false_eq_true,if_false] at hs
  subst hs
  rcases hr with ⟨rfl,j,rfl⟩|⟨rfl,rfl,rfl⟩
  ·exact concV_d hx
  ·exact concV_d hx
theorem sLookup_ok{m k:SV}{y w:Val}{ok:Bool}(h:sLookup T s o.dst t ty m k ok K)(hc:Conc T s st)(hm:ConcV T s.bc s.tc st.boxes st.toks m y)(hk:ConcV T s.bc s.tc st.boxes st.toks k w)
 (hd:∀R,doing T R st.esc (Am.ev st.regs) o=doLookup T t y w ok):OpOk T o st K:=by
 unfold sLookup at h
 split at h
 ·rename_i kt e tm r tk kd hmt
  split at h
  ·rename_i z hz
   split at h
   ·rename_i hko
    have ew:=key_d hko hk
    have ey:=toD_plain hm.1 rfl
    subst ew ey
    obtain⟨x,⟨b,hl,hq⟩,hx⟩:=exT_spec h
    clear h
    -- what comes out
    have fin:∃sv,K {rd:=r.map λi=>.map i z kd ok} (s.put o.dst sv)∧(if ok then ∃b',sv=.tup [(e,x),(b',.bool b)]∧HasTy T b' (.bool b) else sv=.v e x):=by
     have h:=hq
     cases ok with
     |true=>
      simp only[if_true] at h⊢
      split at h
      ·rename_i a b' hp
       obtain⟨rfl,hb⟩:=pairTy_ok (y':=.bool b) hp (λb1 hb1=>.bool _ _ hb1)
       exact⟨_,h,b',rfl,hb⟩
      ·exact h.elim
     |false=>
      simp only[Bool.false_eq_true,if_false] at h⊢
      exact⟨_,h,rfl⟩
    obtain⟨sv,h,hsv⟩:=fin
    cases r with
    |none=>
     exact ok_ret hc (λR=>by rw[hd];simp only[doLookup,hmt,hz,hko,if_true]) (found_conc hx (.inr ⟨hl.2,hl.1,rfl⟩) hsv) h
    |some i=>
     have hg:∃es c q,st.glob.boxes[i]?=some (.map es c)∧findK kd es 0=some q∧((b=true∧∃j,q=some (j,x))∨(b=false∧x=z∧q=none)):=by
      have look:∀r',glook s.glob i kd=some r'→∃es c q,st.glob.boxes[i]?=some (.map es c)∧findK kd es 0=some q∧q.map (·.2)=r':=λr' hr=>by
       rw[←hc.glob] at hr
       unfold glook at hr
       split at hr
       ·rename_i es c hb
        split at hr
        ·rename_i q hq
         cases hr
         exact⟨es,c,q,hb,hq,rfl⟩
        ·cases hr
       ·cases hr
      rcases hl with ⟨rfl,hl⟩|⟨rfl,rfl,hl⟩
      ·obtain⟨es,c,q,h1,h2,h3⟩:=look _ hl
       cases q with
       |none=>cases h3
       |some p=>obtain⟨j,x'⟩:=p;cases h3;exact⟨es,c,_,h1,h2,.inl ⟨rfl,j,rfl⟩⟩
      ·obtain⟨es,c,q,h1,h2,h3⟩:=look _ hl
       cases q with
       |none=>exact⟨es,c,_,h1,h2,.inr ⟨rfl,rfl,rfl⟩⟩
       |some p=>cases h3
     obtain⟨es,c,q,h1,h2,h3⟩:=hg
     refine onMap_read (r:=.map i z kd ok) (f:=λes c=>(findK kd es 0).map λr=>(found z ok r,es,c)) hc h1 (by rw[h2];rfl) (λR=>by rw[hd];simp only[doLookup,hmt,hz,hko,if_true]) (λg=>?_) (found_conc hx h3 hsv) h
     simp only[Rd.read,glook]
     cases g.boxes[i]? with
     |none=>rfl
     |some bx=>cases bx with
      |cells cs=>rfl
      |map es' c'=>
       simp only
       cases hf:findK kd es' 0 with
       |none=>rfl
       |some q'=>
        simp only[Option.map_some]
        cases q' with
        |none=>rfl
        |some p=>obtain⟨j,x'⟩:=p;cases ok<;>rfl
   ·exact h.elim
  ·exact h.elim
 ·exact h.elim
theorem onMap_ok{i:Nat}{f:Entries→Nat→Option (Val×Entries×Nat)}{es es':Entries}{c c':Nat}{w:Val}{sv:SV}(hc:Conc T s st)(hb:s.glob.boxes[i]?=some (.map es c))(hf:f es c=some (w,es',c'))
 (hd:∀R,doing T R st.esc (Am.ev st.regs) o=onMap true (.d (.map (some i))) f) (hv:ConcV T s.bc s.tc st.boxes st.toks sv w) (hk:K {wr:=true} {s.put o.dst sv with glob:=gset s.glob i es' c'}):OpOk T o st K:=by
 rw[←hc.glob] at hb hk
 refine ok_glob hc (λR=>(hd R).trans rfl) ?_ (feet_wr rfl (λk hk=>by cases hk) rfl rfl) hv hk
 simp only[Doing.apply,Doing.look,Doing.put,hb,hf]
 rfl
theorem sMapUpdate_ok{m k sv:SV}{y w z:Val}(h:sMapUpdate T s o.dst t m k sv K)(hc:Conc T s st)(hm:ConcV T s.bc s.tc st.boxes st.toks m y)(hk:ConcV T s.bc s.tc st.boxes st.toks k w)(hv:ConcV T s.bc s.tc st.boxes st.toks sv z)
 (hd:∀R,doing T R st.esc (Am.ev st.regs) o=doMapUpdate T t y w z):OpOk T o st K:=by
 unfold sMapUpdate at h
 split at h
 ·rename_i kt e tm i tk kd tx x hmt hdat
  split at h
  ·rename_i hko
   have ew:=key_d hko hk
   have ey:=toD_plain hm.1 rfl
   subst ew ey
   obtain⟨g',hg,h⟩:=h
   unfold gmput at hg
   split at hg
   ·rename_i es c hb
    split at hg
    ·rename_i r hp
     cases hg
     refine onMap_ok (f:=λes c=>(putK kd x es c).map λr=>(.undef,r.1,r.2)) (sv:=.junk) (w:=.undef) (es':=r.1) (c':=r.2) hc hb (by simp only[hp,Option.map_some]) (λR=>?_) trivial h
     rw[hd]
     simp only[doMapUpdate,hmt,(concV_dat hv hdat).1,hko,if_true]
    ·cases hg
   ·cases hg
  ·exact h.elim
 ·exact h.elim
theorem sMapEntry_ok{m k:SV}{y w:Val}(h:sMapEntry T s o.dst t ty m k K)(hc:Conc T s st)(hm:ConcV T s.bc s.tc st.boxes st.toks m y)(hk:ConcV T s.bc s.tc st.boxes st.toks k w)
 (hd:∀R,doing T R st.esc (Am.ev st.regs) o=doMapEntry T t y w):OpOk T o st K:=by
 unfold sMapEntry at h
 split at h
 ·rename_i kt e tm i tk kd hmt
  split at h
  ·rename_i z a b hz hp
   split at h
   ·rename_i hko
    have ew:=key_d hko hk
    have ey:=toD_plain hm.1 rfl
    subst ew ey
    obtain⟨x,⟨n,g',hg,h⟩,hx⟩:=exT_spec h
    obtain⟨rfl,hb'⟩:=pairTy_ok (y':=.int .i64 n) hp (λb1 hb1=>.int _ _ _ hb1)
    unfold gentry at hg
    split at hg
    ·rename_i es c hb
     have hd':∀R,doing T R st.esc (Am.ev st.regs) o=onMap true (.d (.map (some i))) (entryK z kd):=λR=>by
      rw[hd]
      simp only[doMapEntry,hmt,hz,hko,if_true]
     split at hg
     ·rename_i j v hf
      split at hg
      ·rename_i en hen
       cases hg
       exact onMap_ok hc hb (by simp only[entryK,hf,hen]) hd' (tup2_ok hx hb') h
      ·cases hg
     ·rename_i hf
      cases hg
      exact onMap_ok hc hb (by simp only[entryK,hf]) hd' (tup2_ok hx hb') h
     ·cases hg
    ·cases hg
   ·exact h.elim
  ·exact h.elim
 ·exact h.elim
theorem sEntryStore_ok{m k sv:SV}{y w z:Val}(h:sEntryStore s o.dst m k sv K)(hc:Conc T s st)(hm:ConcV T s.bc s.tc st.boxes st.toks m y)(hk:ConcV T s.bc s.tc st.boxes st.toks k w)(hv:ConcV T s.bc s.tc st.boxes st.toks sv z)
 (hd:∀R,doing T R st.esc (Am.ev st.regs) o=doEntryStore y w z):OpOk T o st K:=by
 unfold sEntryStore at h
 split at h
 ·rename_i tm i tk kk n tx x hdat
  have ew:=toD_plain hk.1 rfl
  have ey:=toD_plain hm.1 rfl
  subst ew ey
  obtain⟨g',hg,h⟩:=h
  unfold gestore at hg
  split at hg
  ·rename_i es c hb
   split at hg
   ·rename_i j hj
    cases hg
    refine onMap_ok (sv:=.junk) hc hb (f:=λes c=>match es.findIdx? (λe=>(e.2.2:Int)==n) with
  |some i=>some (.undef,es.modify i λe=>(e.1,x,e.2.2),c)
  |none=>none) (by rw[hj]) (λR=>?_) trivial h
    rw[hd]
    simp only[doEntryStore,(concV_dat hv hdat).1]
    rfl
   ·cases hg
  ·cases hg
 ·exact h.elim
theorem sDelete_ok{m k:SV}{y w:Val}(h:sDelete T s o.dst t m k K)(hc:Conc T s st)(hm:ConcV T s.bc s.tc st.boxes st.toks m y)(hk:ConcV T s.bc s.tc st.boxes st.toks k w)
 (hd:∀R,doing T R st.esc (Am.ev st.regs) o=doDelete T t y w):OpOk T o st K:=by
 unfold sDelete at h
 split at h
 ·rename_i kt e tm i tk kd hmt
  split at h
  ·rename_i hko
   have ew:=key_d hko hk
   have ey:=toD_plain hm.1 rfl
   subst ew ey
   obtain⟨g',hg,h⟩:=h
   have hd':∀R,doing T R st.esc (Am.ev st.regs) o=onMap true (.d (.map (some i))) (λes c=>(findK kd es 0).map λr=>match r with
    |some (i,_)=>(.tuple [],es.eraseIdx i,c)
    |none=>(.tuple [],es,c)):=λR=>by
    rw[hd]
    simp only[doDelete,hmt,hko,if_true]
    rfl
   unfold gmdel at hg
   split at hg
   ·rename_i es c hb
    split at hg
    ·rename_i j v hf
     cases hg
     exact onMap_ok (sv:=.off) hc hb (by simp only[hf,Option.map_some]) hd' rfl h
    ·rename_i hf
     cases hg
     exact onMap_ok (sv:=.off) hc hb (by simp only[hf,Option.map_some]) hd' rfl h
    ·cases hg
   ·cases hg
  ·exact h.elim
 ·exact h.elim
theorem sMakeMap_ok{r:Option (Option Int)}(rv:Option Val)(h:sMakeMap T s o.dst t ty r K)(hc:Conc T s st)(hr:(r=none↔rv=none)∧∀n,r=some (some n)→∃k,rv=some (.d (.int k n)))
 (hd:∀R,doing T R st.esc (Am.ev st.regs) o=if rv.isNone||(mapTy T t).isSome then doMakeMap st.esc o.dst rv else none):OpOk T o st K:=by
 unfold sMakeMap at h
 cases hdst:o.dst with
 |none=>rw[hdst] at h;exact h.elim
 |some k=>
  rw[hdst] at h
  simp only at h
  split at h
  ·rename_i hcc
   rw[Bool.and_eq_true,Bool.and_eq_true] at hcc
   obtain⟨⟨c1,c2⟩,c3⟩:=hcc
   have hrv:rv=none∨∃k n,rv=some (.d (.int k n))∧(mapTy T t).isSome=true:=by
    cases r with
    |none=>exact .inl (hr.1.1 rfl)
    |some n=>
     simp only[mkMapOk,Bool.and_eq_true] at c3
     cases n with
     |none=>cases c3.1
     |some n=>
      obtain⟨k,hk⟩:=hr.2 n rfl
      exact .inr ⟨k,n,hk,c3.2⟩
   rw[←hc.glob] at h
   have c1':st.esc.contains k=true:=by rw[hc.esc];exact c1
   have hdo:∀R,doing T R st.esc (Am.ev st.regs) o=some (Doing.mk none none (some true) λ_ _ gl=>some (.val (.d (.map (some gl.boxes.length))),none,none,{gl with boxes:=gl.boxes++[.map [] 0]})):=λR=>by
    rw[hd,hdst]
    rcases hrv with rfl|⟨k',n,rfl,hs⟩
    ·simp only[Option.isNone_none,Bool.true_or,if_true,doMakeMap,c1']
    ·simp only[hs,Bool.or_true,if_true,doMakeMap,c1',intOf?,Option.isSome_some]
   refine ok_glob (w:=.d (.map (some st.glob.boxes.length))) (sv:=.v ty (.map (some st.glob.boxes.length))) (g':=gmnew st.glob) hc hdo rfl (feet_wr rfl (λk hk=>by cases hk) rfl rfl) (concV_d (.map _ _ c2)) ?_
   rw[hdst]
   exact h
  ·exact h.elim
end
end Go.Proofs.YtgmapdcdmomioaaGreatDoor.Am
namespace Go.Proofs.YtgmapdcdmomioaaGreatDoor.Am
open Go
section
variable{T:Tb}{t u ty:TypeId}{x d:Dat}{v:Val}{s s':SSt}{st st':St}{o:Oper}{K:SFeet→SSt→Prop}
theorem sxOp_ok(h:sxOp T o s K)(hc:Conc T s st):isDefer o.op=none∧OpOk T o st K:=by
 obtain⟨dst,op,oty,pos,after,guard⟩:=o
 unfold sxOp at h
 cases op with
 |move x=>exact⟨rfl,ok_ret hc (λR=>rfl) (hc.ev _ _) h⟩
 |assign x=>exact⟨rfl,ok_ret hc (λR=>rfl) (hc.ev _ _) h⟩
 |pick c a b=>
  refine⟨rfl,?_⟩
  simp only at h
  split at h
  ·rename_i cb hb
   have:=hc.bool hb
   cases cb with
   |true=>exact ok_ret hc (λR=>by simp only[doing,this]) (hc.ev _ _) h
   |false=>exact ok_ret hc (λR=>by simp only[doing,this]) (hc.ev _ _) h
  ·exact h.elim
 |alloc t=>
  refine⟨rfl,?_⟩
  simp only at h
  split at h
  ·rename_i z k hz
   split at h
   ·rename_i hty
    split at h
    ·rename_i cs hcs
     have hzt:=tyB_ty hty
     have hzc:(Val.d z).cells=z.cells.map .d:=by
      cases z with
      |agg cs=>rfl
      |_=>rfl
     have:=concV_cells (bc:=s.bc) (tc:=s.tc) (B:=st.boxes) (K:=st.toks) (v:=.d z) (concV_d hzt) hcs
     rw[hzc] at this
     exact newBoxS_ok (o:=⟨some k,.alloc t,oty,pos,after,guard⟩) (s':=s) h hc rfl (by rw[←hzc];exact concB_whole (v:=.d z) (concV_d hzt) (by simpa[SV.cells] using hcs) (by rw[hzc];exact this)) this rfl λR=>by simp only[doing,hz]
    ·exact h.elim
   ·exact h.elim
  ·exact h.elim
 |box t x=>
  refine⟨rfl,?_⟩
  simp only at h
  split at h
  ·rename_i cs k hcs
   exact newBoxS_ok (o:=⟨some k,.box t x,oty,pos,after,guard⟩) (s':=s) h hc rfl (concB_whole (hc.ev t x) hcs (concV_cellsAll (hc.ev t x) hcs)) (concV_cellsAll (hc.ev t x) hcs) rfl λR=>by simp only[doing]
  ·exact h.elim
 |build t ps=>exact⟨rfl,sBuild_ok h hc λR=>by simp only[doing]⟩
 |buildSlice t n ps=>exact⟨rfl,sBuildSlice_ok h hc λR=>by simp only[doing]⟩
 |load t a=>exact⟨rfl,sLoad_ok h hc (hc.ev _ _) λR=>by simp only[doing]⟩
 |store t a x=>exact⟨rfl,sStore_ok h hc (hc.ev _ _) (hc.ev _ _) λR=>by simp only[doing]⟩
 |nilCheck x=>exact⟨rfl,sNilCheck_ok h hc (hc.ev _ _) λR=>by simp only[doing]⟩
 |binOp op t x y u=>
  refine⟨rfl,?_⟩
  simp only at h
  split at h
  ·exact sNil_ok (xo:=x) (yo:=y) h hc (hc.ev _ _) λR=>by simp only[doing]
  ·exact sBin_ok (xo:=x) (yo:=y) h hc (hc.ev _ _) (hc.ev _ _) λR=>by simp only[doing]
 |unOp op t x=>exact⟨rfl,sUn_ok h hc (hc.ev _ _) λR=>by simp only[doing]⟩
 |convert a b x=>exact⟨rfl,sConvert_ok h hc (hc.ev _ _) λR=>by simp only[doing]⟩
 |makeInterface t x=>exact⟨rfl,sIface_ok h hc (hc.ev _ _) λR=>by simp only[doing]⟩
 |makeFunc fn first cap=>exact⟨rfl,sFunc_ok h hc λR=>by simp only[doing]⟩
 |makeSlice t l c=>exact⟨rfl,sMakeSlice_ok h hc λR=>by simp only[doing]⟩
 |slice t x lo hi mx=>
  refine⟨rfl,?_⟩
  cases mx with
  |some m=>
   refine sSlice0_ok h hc (hc.ev _ _) (lv:=lo.map (Am.ev st.regs)) (hv:=hi.map (Am.ev st.regs)) ?_ ?_ (λn hn=>hc.int hn) λR=>by simp only[doing,Option.map_some]
   ·intro hn;cases lo<;>first|rfl|cases hn
   ·intro n hn
    cases hi with
    |none=>cases hn
    |some l=>simp only[Option.map_some,Option.some.injEq] at hn⊢;obtain⟨k,hk⟩:=hc.int hn;exact⟨k,hk⟩
  |none=>
   refine sSlice_ok h hc (hc.ev _ _) (lv:=lo.map (Am.ev st.regs)) (hv:=hi.map (Am.ev st.regs)) ?_ ?_ ?_ ?_ λR=>by simp only[doing,Option.map_none]
   ·intro n hn
    cases lo with
    |none=>cases hn
    |some l=>simp only[Option.map_some,Option.some.injEq] at hn⊢;obtain⟨k,hk⟩:=hc.int hn;exact⟨k,hk⟩
   ·intro hn;cases lo<;>first|rfl|cases hn
   ·intro n hn
    cases hi with
    |none=>cases hn
    |some l=>simp only[Option.map_some,Option.some.injEq] at hn⊢;obtain⟨k,hk⟩:=hc.int hn;exact⟨k,hk⟩
   ·intro hn;cases hi<;>first|rfl|cases hn
 |fieldAddr t x f=>exact⟨rfl,sFieldAddr_ok h hc (hc.ev _ _) λR=>by simp only[doing]⟩
 |field t x f=>exact⟨rfl,sField_ok h hc (hc.ev _ _) λR=>by simp only[doing]⟩
 |indexAddr t x i=>exact⟨rfl,sIndexAddr_ok h hc (hc.ev _ _) (λn hn=>hc.int hn) λR=>by simp only[doing]⟩
 |index t x i=>exact⟨rfl,sIndex_ok h hc (hc.ev _ _) (λn hn=>hc.int hn) λR=>by simp only[doing]⟩
 |lookup t x i ok=>exact⟨rfl,sLookup_ok h hc (hc.ev _ _) (hc.ev _ _) λR=>by simp only[doing]⟩
 |mapUpdate t m k x=>exact⟨rfl,sMapUpdate_ok h hc (hc.ev _ _) (hc.ev _ _) (hc.ev _ _) λR=>by simp only[doing]⟩
 |insert t m k x=>exact⟨rfl,sMapUpdate_ok h hc (hc.ev _ _) (hc.ev _ _) (hc.ev _ _) λR=>by simp only[doing]⟩
 |mapEntry t m k=>exact⟨rfl,sMapEntry_ok h hc (hc.ev _ _) (hc.ev _ _) λR=>by simp only[doing]⟩
 |entryStore t m k x=>exact⟨rfl,sEntryStore_ok h hc (hc.ev _ _) (hc.ev _ _) (hc.ev _ _) λR=>by simp only[doing]⟩
 |makeMap t r=>
  refine⟨rfl,sMakeMap_ok (r.map (Am.ev st.regs)) h hc ⟨by cases r<;>simp,λn hn=>?_⟩ λR=>?_⟩
  ·cases r with
   |none=>cases hn
   |some x=>
    simp only[Option.map_some,Option.some.injEq] at hn
    obtain⟨k,hk⟩:=hc.int hn
    exact⟨k,by rw[Option.map_some,hk]⟩
  ·simp only[doing]
   cases r<;>rfl
 |range t x=>exact⟨rfl,sRange_ok h hc (hc.ev _ _) λR=>by simp only[doing]⟩
 |next it b=>
  cases b with
  |true=>exact⟨rfl,sNext_ok h hc (hc.ev _ _) λR=>by simp only[doing]⟩
  |false=>exact h.elim
 |typeAssert x a t ok=>exact⟨rfl,sAssert_ok h hc (hc.ev _ _) λR=>by simp only[doing]⟩
 |extract x i=>exact⟨rfl,sExtract_ok h hc (hc.ev _ _) λR=>by simp only[doing];cases Am.ev st.regs x<;>rfl⟩
 |call c=>
  obtain⟨callee,args,ts⟩:=c
  refine⟨rfl,?_⟩
  cases callee with
  |builtin b=>
   simp only at h
   split at h
   ·rename_i t _ x hts hargs
    exact sLen_ok h hc (hc.ev _ _) λR=>by simp only[doing,doBuiltin,hts,hargs,List.map_cons,List.map_nil]
   ·rename_i t _ m k hts hargs
    exact sDelete_ok h hc (hc.ev _ _) (hc.ev _ _) λR=>by simp only[doing,doBuiltin,hts,hargs,List.map_cons,List.map_nil]
   ·rename_i t tx a x hts hargs
    exact sAppend_ok h hc (hc.ev _ _) (hc.ev _ _) λR=>by simp only[doing,doBuiltin,hts,hargs,List.map_cons,List.map_nil]
   ·rename_i a b hargs
    refine sMax_ok h hc λm n ha hb R=>?_
    simp only[doing,hargs,List.map_cons,List.map_nil,ha,hb]
    rfl
   ·rename_i a b hargs
    refine sMax_ok h hc λm n ha hb R=>?_
    simp only[doing,hargs,List.map_cons,List.map_nil,ha,hb]
    rfl
   ·exact h.elim
  |_=>exact h.elim
 |_=>exact h.elim
end
variable(T:Tb)
def SSt.fn(s:SSt):Operand→Option (FuncId×List Dat×List Dat)
 |.func f=>some (f,[],[])
 |.tmp i=>(match s.regs.get i with|some (.v _ (.clo f c))=>some (f,[],c)|some (.v _ (.bnd f r))=>some (f,[r],[])|_=>none)
 |.const c=>(match ofV c with|some (.clo f c)=>some (f,[],c)|_=>none)
 |.global _=>none
def bdf(esc:List Nat):Bool:=esc.contains 1000002
def SSt.fnx(s:SSt):Operand→Option Dat
 |.tmp i=>(match s.regs.get i with|some (.v _ x)=>some x|_=>none)
 |_=>none
def argsS(s:SSt):List Operand→List TypeId→Option (List Dat)
 |[],_=>some []
 |x::xs,t::ts=>(match (s.ev T t x).dat,argsS s xs ts with
  |some (_,d),some l=>some (d::l)
  |_,_=>none)
 |_,[]=>none
def RetV:Val→Dat→Prop
 |.d y,x=>y=x
 |.uq m ys,x=>x=.sl m ys
 |_,_=>False
def RetL:List Val→List Dat→Prop
 |[],[]=>True
 |u::us,x::xs=>RetV u x∧RetL us xs
 |_,_=>False
def RetT:Val→List Dat→Prop
 |.tuple us,xs=>RetL us xs
 |_,_=>False
def exTs:List TypeId→(List Dat→Prop)→Prop
 |[],K=>K []
 |t::ts,K=>exT T t λx=>exTs ts λxs=>K (x::xs)
def Outc(P:Dat→Prop)(V:Val→Prop):Out→Prop
 |.val v=>V v
 |.panic x=>P x
inductive RK where
 |rd|uq|acc
def setG(s:SSt)(g:Glob):SSt:={s with glob:=g}
def bump1(tc:Mp Nat)(k:Nat):Mp Nat:=tc.set k (cnt tc k+1)
def sBack(rk:RK)(k:Nat)(ty:TypeId)(s:SSt)(v:Val)(N:SSt→Prop):Prop:=
 match T.und ty with
 |some (.tuple ts)=>exTs T ts.toList λxs=>RetT v xs∧N ((s.put (some k) (.tup (ts.toList.zip xs))).setTc (bump1 s.tc k))
 |some (.slice e)=>(match T.size e with
  |none=>False
  |some m=>match rk with
   |.rd=>exT T ty λx=>RetV v x∧N ((s.put (some k) (.v ty x)).setTc (bump1 s.tc k))
   |.uq=>∃xs:List Dat,v=.uq m xs∧HasTy T ty (.sl m xs)∧N ((s.put (some k) (.own k (cnt s.tc k+1) ty m xs)).setTc (bump1 s.tc k))
   |.acc=>∃xs:List Dat,v=retOf m xs∧HasTy T ty (slOf m xs)∧N ((s.put (some k) (.acc [(k,cnt s.tc k+1)] ty m xs)).setTc (bump1 s.tc k)))
 |some _=>exT T ty λx=>v=.d x∧N (s.put (some k) (.v ty x))
 |none=>False
def sOut(rk:RK)(o:Oper)(s:SSt)(P:Dat→Glob→Prop)(N:Glob→SSt→Prop)(out:Out)(g:Glob):Prop:=
 Outc (λx=>P x g) (λv=>
  match o.dst with
  |none=>N g (setG s g)
  |some k=>sBack T rk k o.type (setG s g) v (N g)) out
def Meth(t:TypeId)(m:String)(f:FuncId):Prop:=T.meth t m=some f
def sCall(rk:FuncId→RK)(o:Oper)(c:Call)(s:SSt)(P:Dat→Glob→Prop)(N:Glob→SSt→Prop):Prop:=
 match argsS T s c.args.toList c.argTypes.toList with
 |some ds=>(match c.callee with
  |.value fo=>(match s.fn fo with
   |some (fn,fst,cap)=>EvF T fn (fst++(ds++cap)) s.glob λout g=>sOut T (rk fn) o s P N out g
   |none=>(match s.fnx fo with
    |some x=>if bdf s.esc then ∃fn r,x=.bnd fn r∧EvF T fn (r::ds) s.glob λout g=>sOut T .rd o s P N out g
     else ∃fn cap,x=.clo fn cap∧EvF T fn (ds++cap) s.glob λout g=>sOut T .rd o s P N out g
    |none=>False))
  |.invoke r m=>(match s.fnx r with
   |some x=>∃t v fn,x=.iface t v∧Meth T t m fn∧EvF T fn (v::ds) s.glob λout g=>sOut T .rd o s P N out g
   |none=>False)
  |.builtin _=>False)
 |none=>False
def CalleeA(e:Operand→Val)(c:Call)(fn:FuncId)(ds:List Dat):Prop:=
 ∃xs,optAll (c.args.toList.map λx=>(e x).toD)=some xs∧((∃fo cap,c.callee=.value fo∧e fo=.d (.clo fn cap)∧ds=xs++cap)∨(∃fo r,c.callee=.value fo∧e fo=.d (.bnd fn r)∧ds=r::xs)∨∃r m t v,c.callee=.invoke r m∧e r=.d (.iface t v)∧T.meth t m=some fn∧ds=v::xs)
section
variable{T:Tb}{t u ty:TypeId}{x d:Dat}{v:Val}{s s':SSt}{st st':St}{o:Oper}
variable{bc tc bc' tc':Mp Nat}{B B':Mp (Nat×Box)}{C C':Mp (Nat×Option (Nat×Nat))}
theorem Conc.fn(h:Conc T s st){x:Operand}{f:FuncId}{a c:List Dat}(hx:s.fn x=some (f,a,c)):(a=[]∧Am.ev st.regs x=.d (.clo f c))∨∃r,a=[r]∧c=[]∧Am.ev st.regs x=.d (.bnd f r):=by
 unfold SSt.fn at hx
 cases x with
 |func f=>cases hx;exact .inl ⟨rfl,rfl⟩
 |tmp i=>
  simp only at hx
  split at hx
  ·rename_i t f' c' hs
   cases hx
   obtain⟨v,h1,h2,_⟩:=h.regs i _ hs
   exact .inl ⟨rfl,by simp only[Am.ev,h1,Option.getD_some];exact toD_plain h2 rfl⟩
  ·rename_i t f' r' hs
   cases hx
   obtain⟨v,h1,h2,_⟩:=h.regs i _ hs
   exact .inr ⟨r',rfl,rfl,by simp only[Am.ev,h1,Option.getD_some];exact toD_plain h2 rfl⟩
  ·cases hx
 |const c=>
  simp only at hx
  split at hx
  ·rename_i f' c' hs
   cases hx
   exact .inl ⟨rfl,by simp only[Am.ev,hs]⟩
  ·cases hx
 |global g=>cases hx
theorem Conc.fnx(h:Conc T s st){x:Operand}{y:Dat}(hx:s.fnx x=some y)(hy:plainD y=true):Am.ev st.regs x=.d y:=by
 unfold SSt.fnx at hx
 cases x with
 |tmp i=>
  simp only at hx
  split at hx
  ·rename_i t y hs
   cases hx
   obtain⟨v,h1,h2,_⟩:=h.regs i _ hs
   simp only[Am.ev,h1,Option.getD_some];exact toD_plain h2 hy
  ·cases hx
 |_=>cases hx
theorem Conc.args(h:Conc T s st):∀{xs:List Operand} {ts:List TypeId} {ds:List Dat},argsS T s xs ts=some ds→optAll (xs.map λx=>(Am.ev st.regs x).toD)=some ds
 |[],_,ds,hx=>by cases hx;rfl
 |_::_,[],ds,hx=>by cases hx
 |x::xs,t::ts,ds,hx=>by
  simp only[argsS] at hx
  split at hx
  ·rename_i u y l hd hl
   cases hx
   have:=(concV_dat (h.ev t x) hd).1
   simp only[List.map_cons,this,optAll,h.args hl]
  ·cases hx
theorem exTs_spec{Q:List Dat→Prop}:∀{ts:List TypeId},∀{Q:List Dat→Prop},exTs T ts Q→∃xs,Q xs∧ts.length=xs.length∧∀(i:Nat) t x,ts[i]?=some t→xs[i]?=some x→HasTy T t x
 |[],Q,h=>⟨[],h,rfl,λi t x h=>by simp at h⟩
 |t::ts,Q,h=>by
  obtain⟨x,h,hx⟩:=exT_spec h
  obtain⟨xs,h1,h2,h3⟩:=exTs_spec (Q:=λxs=>Q (x::xs)) h
  refine⟨x::xs,h1,by simp[h2],λi u y hu hy=>?_⟩
  cases i with
  |zero=>simp at hu hy;subst hu hy;exact hx
  |succ i=>exact h3 i u y (by simpa using hu) (by simpa using hy)
theorem adopt1_ok{k g:Nat}:∀{us:List Val} {xs:List Dat},RetL us xs→Els (λu x=>u.toD=some x∧nrm u=true) (adopt1 k g us).1 xs
 |[],[],_=>⟨rfl,λj a b h=>by simp[adopt1] at h⟩
 |[],_::_,h=>h.elim
 |_::_,[],h=>by simp[RetL] at h
 |u::us,x::xs,h=>by
  obtain⟨h1,h2⟩:=h
  have hno:∀{us:List Val} {xs:List Dat},RetL us xs→Els (λu x=>u.toD=some x∧nrm u=true) (us.map noUq1) xs:=by
   intro us
   induction us with
   |nil=>intro xs h;cases xs with
    |nil=>exact⟨rfl,λj a b h=>by simp at h⟩
    |cons _ _=>exact h.elim
   |cons u us ih=>
    intro xs h
    cases xs with
    |nil=>simp[RetL] at h
    |cons x xs=>
     obtain⟨h1,h2⟩:=h
     refine Els.cons ?_ (ih h2)
     cases u with
     |d y=>have:y=x:=h1;subst this;exact⟨rfl,rfl⟩
     |uq m ys=>have:x=.sl m ys:=h1;subst this;exact⟨rfl,rfl⟩
     |_=>exact h1.elim
  cases u with
  |d y=>have:y=x:=h1;subst this;exact Els.cons ⟨rfl,rfl⟩ (adopt1_ok h2)
  |uq m ys=>have:x=.sl m ys:=h1;subst this;exact Els.cons ⟨rfl,rfl⟩ (hno h2)
  |_=>exact h1.elim
theorem backA_eq(st:St)(k:Nat)(v:Val)(g:Glob):∃v' C',backA st (some k) v g={st with regs:=st.regs.set k v',toks:=C',glob:=g}∧v'=(adopt k (genOf (st.toks.get k)) v).1∧
 (∀i,i≠k→C'.get i=st.toks.get i)∧((adopt k (genOf (st.toks.get k)) v).2=none→C'=st.toks)∧∀p,(adopt k (genOf (st.toks.get k)) v).2=some p→C'.get k=some (genOf (st.toks.get k),some p):=by
 unfold backA
 simp only
 cases had:adopt k (genOf (st.toks.get k)) v with
 |mk v' q=>
  cases q with
  |none=>exact⟨v',st.toks,rfl,rfl,λi _=>rfl,λ_=>rfl,λp h=>by cases h⟩
  |some p=>
   refine⟨v',st.toks.set k (genOf (st.toks.get k),some p),rfl,rfl,λi hi=>?_,(λh=>by cases h),λp' h=>?_⟩
   ·rw[Mp.get_set,if_neg (Ne.symm hi)]
   ·cases h;rw[Mp.get_set,if_pos rfl]
theorem upS_back{k:Nat}(h:∀i,i≠k→C'.get i=C.get i):UpS bc tc B C bc (bump1 tc k) B C' where
 b i:=⟨Nat.le_refl _,λ_ g bx h=>⟨bx,h⟩⟩
 k i:=by
   unfold bump1
   rw[cnt_set]
   split
   ·rename_i e;subst e;exact⟨Nat.le_succ _,λe=>by omega⟩
   ·rename_i e;exact⟨Nat.le_refl _,λ_ r hr=>by rw[h i (Ne.symm e)];exact hr⟩
theorem sBack_ok{rk:RK}{k:Nat}{g:Glob}{N:SSt→Prop}(h:sBack T rk k ty (setG s g) v N)(hc:Conc T s st):∃s',N s'∧Conc T s' (backA st (some k) v g):=by
 have hcg:Conc T (setG s g) {st with glob:=g}:=hc.glob' g
 obtain⟨v',C',e0,e1,e2,e3,e4⟩:=backA_eq st k v g
 have fin:∀{sv:SV},ConcV T s.bc (bump1 s.tc k) st.boxes C' sv v'→Conc T (((setG s g).put (some k) sv).setTc (bump1 s.tc k)) (backA st (some k) v g):=by
  intro sv hv
  rw[e0]
  exact(hcg.mem (setG s g).boxes (setG s g).bc (bump1 s.tc k) st.boxes C' (upS_back e2) (hcg.boxes_up (upS_back e2) λ_ _ _=>rfl)).put (some k) hv
 have hle:cnt s.tc k+1≤cnt (bump1 s.tc k) k:=by unfold bump1;rw[cnt_set,if_pos rfl];exact Nat.le_refl _
 unfold sBack at h
 split at h
 ·rename_i ts hu
  obtain⟨xs,⟨hr,hN⟩,hlen,hty⟩:=exTs_spec (Q:=λ_=>True) h
  refine⟨_,hN,fin ?_⟩
  cases v with
  |tuple us=>
   have hr:RetL us xs:=hr
   have had:=adopt1_ok (k:=k) (g:=genOf (st.toks.get k)) hr
   refine⟨_,e1,by simp only[List.length_zip,hlen,Nat.min_self];exact had.1.symm,λj p u hp hu=>?_⟩
   rw[List.getElem?_zip_eq_some] at hp
   obtain⟨h1,h2⟩:=had.2 j u p.2 hu hp.2
   exact⟨h1,h2,hty j _ _ hp.1 hp.2⟩
  |_=>exact hr.elim
 ·rename_i e hu
  split at h
  ·exact h.elim
  ·rename_i m hsz
   cases rk with
   |rd=>
    obtain⟨x,⟨hr,hN⟩,hty⟩:=exT_spec h
    refine⟨_,hN,fin (sv:=.v ty x) ?_⟩
    cases v with
    |d y=>have:y=x:=hr;subst this;rw[e1];exact⟨rfl,rfl,hty⟩
    |uq m ys=>have:x=.sl m ys:=hr;subst this;rw[e1];exact⟨rfl,rfl,hty⟩
    |_=>exact hr.elim
   |uq=>
    obtain⟨xs,rfl,hty,hN⟩:=h
    exact⟨_,hN,fin (sv:=.own k _ ty m xs) ⟨hle,hty,_,e1,λ_=>e4 _ rfl⟩⟩
   |acc=>
    obtain⟨xs,rfl,hty,hN⟩:=h
    refine⟨_,hN,fin (sv:=.acc _ ty m xs) ⟨isSl_sl hu hsz,hty,λp hp=>by simp only[List.mem_singleton] at hp;subst hp;exact hle,?_⟩⟩
    cases xs with
    |nil=>exact .inl ⟨rfl,e1⟩
    |cons y ys=>exact .inr ⟨by simp,_,List.mem_singleton.2 rfl,_,e1,λ_=>e4 _ rfl⟩
 ·rename_i D hD hu
  obtain⟨x,⟨rfl,hN⟩,hty⟩:=exT_spec h
  refine⟨_,hN,?_⟩
  exact hcg.put (some k) (sv:=.v ty x) (v:=.d x) (concV_d hty)
 ·exact h.elim
end
abbrev KQ(Qf:OGP)(f:Val→Glob→Prop)(out:Out)(g':Glob):Prop:=Outc (λx=>Qf (.panic x) g') (λv=>f v g') out
end Go.Proofs.YtgmapdcdmomioaaGreatDoor.Am
