/- A region that draws its order, operation by operation: each is shown once, whatever has been done ahead of it; the last ones (stores), that wait for all others, are walked behind them in their order. No program in sight. A drawn region, operation by operation: what holds hangs on which operations are done. No program in sight. A drawn region, operation by operation: what holds hangs on the values that the operations have told. No program in sight. -/
import Derived.Orders
import Derived.Tactics
import Derived.WalkKit
set_option linter.all false
namespace Go.Proofs.YtgmapdcdmomioaaGreatDoor
open Go.RowKit
section
variable{P:Program}{md:Region.Mode}{ops:Array Oper}{Q:Exit→Act→World→Prop}
def reachB(md:Region.Mode)(ops:Array Oper):Nat→Nat→Nat→Bool
 |0,_,_=>false
 |f+1,s,i=>match ops[s]? with
  |none=>false
  |some o=>o.after.any λe=>Region.binds md e&&(e.on==i||reachB md ops f e.on i)
def forcedB(md:Region.Mode)(ops:Array Oper):List Nat→Array Bool→Bool
 |[],l=>(Region.ready md ops l).isEmpty
 |s::r,l=>Region.ready md ops l==[s]&&forcedB md ops r (l.setIfInBounds s true)
def baseL(n:Nat)(St:List Nat):Array Bool:=((List.range n).map λi=>!St.contains i).toArray
def dstsOf(ops:Array Oper):List Nat:=ops.toList.filterMap (·.dst)
def nodupB:List Nat→Bool
 |[]=>true
 |x::r=>!r.contains x&&nodupB r
def relOk(md:Region.Mode)(ops:Array Oper)(St:List Nat):Bool:=
 (St.all λs=>(ops[s]?).isSome)&&
 (ops.toList.all λo=>o.guard.isNone)&&
 ((List.range ops.size).all λj=>match ops[j]? with|some o=>o.after.all λe=>!Region.binds md e||decide (e.on<j)|none=>true)&&
 (St.all λs=>(List.range ops.size).all λi=>St.contains i||reachB md ops ops.size s i)&&
 forcedB md ops St (baseL ops.size St)&&
 decide (St.length≤((List.range ops.size).filter λi=>St.contains i).length)&&
 nodupB (dstsOf ops)
def closedL(md:Region.Mode)(ops:Array Oper)(l:Array Bool):Prop:=∀j o,ops[j]?=some o→l.getD j false=true→∀e∈o.after,Region.binds md e=true→l.getD e.on false=true
theorem any_mem{α:Type}{l:Array α}{p:α→Bool}(h:l.any p=true):∃e∈l,p e=true:=by
 rw[←Array.any_toList,List.any_eq_true] at h
 obtain⟨e,he,hh⟩:=h
 exact⟨e,Array.mem_toList_iff.1 he,hh⟩
theorem reach_listed{l:Array Bool}(hc:closedL md ops l):∀(f s i:Nat) (o:Oper),ops[s]?=some o→(∀e∈o.after,Region.binds md e=true→l.getD e.on false=true)→reachB md ops f s i=true→l.getD i false=true
 |0,_,_,_,_,_,h=>by cases h
 |f+1,s,i,o,ho,hp,h=>by
  simp only[reachB,ho] at h
  obtain⟨e,he,hh⟩:=any_mem h
  rw[Bool.and_eq_true,Bool.or_eq_true] at hh
  obtain⟨hb,h1⟩:=hh
  rcases h1 with h1|h1
  ·have:e.on=i:=by simpa using h1
   rw[←this];exact hp e he hb
  ·have hl:=hp e he hb
   cases ho2:ops[e.on]? with
   |none=>cases f<;>simp[reachB,ho2] at h1
   |some o2=>exact reach_listed hc f e.on i o2 ho2 (hc e.on o2 ho2 hl) h1
theorem filter_lt{p q:Nat→Bool}(h:∀x,q x=true→p x=true){x0:Nat}(h1:p x0=true)(h2:q x0=false):∀l:List Nat,x0∈l→(l.filter q).length<(l.filter p).length
 |[],hm=>by cases hm
 |y::r,hm=>by
  have hle:∀l:List Nat,(l.filter q).length≤(l.filter p).length:=λl=>by
   induction l with
   |nil=>simp
   |cons z t ih=>
    rw[List.filter_cons,List.filter_cons]
    by_cases hq:q z=true
    ·rw[if_pos hq,if_pos (h z hq)];simp;exact ih
    ·rw[if_neg hq];split<;>(try simp only[List.length_cons])<;>omega
  by_cases hy:y=x0
  ·subst hy
   rw[List.filter_cons,List.filter_cons,if_pos h1,if_neg (by rw[h2];decide)]
   have:=hle r
   simp;omega
  ·have hm':x0∈r:=by
    rcases List.mem_cons.1 hm with e|e
    ·exact absurd e.symm hy
    ·exact e
   have ih:=filter_lt h h1 h2 r hm'
   rw[List.filter_cons,List.filter_cons]
   by_cases hq:q y=true
   ·rw[if_pos hq,if_pos (h y hq)];simp;exact ih
   ·rw[if_neg hq];split<;>(try simp only[List.length_cons])<;>omega
def unl(n:Nat)(l:Array Bool):Nat:=((List.range n).filter λi=>!l.getD i true).length
theorem unl_set{n:Nat}{l:Array Bool}{i:Nat}(hi:i<n)(h:l.getD i true=false)(hs:l.size=n):unl n (l.setIfInBounds i true)<unl n l:=by
 unfold unl
 refine filter_lt (λx hx=>?_) (x0:=i) (by rw[h];rfl) ?_ _ (List.mem_range.2 hi)
 ·by_cases e:x=i
  ·subst e;rw[h];rfl
  ·rw[getD_set_ne true (Ne.symm e)] at hx;exact hx
 ·simp[hs,hi]
theorem forced_wp(hg:∀o∈ops.toList,o.guard=none):∀(St:List Nat) (l:Array Bool) (fuel:Nat) (a:Act) (w:World),forcedB md ops St l=true→St.length≤fuel→wpList P ops Q (St.filterMap (ops[·]?)) a w→(∀s∈St,(ops[s]?).isSome=true)→wpAny P md ops Q fuel l a w
 |[],l,fuel,a,w,hf,_,h,_=>by
  have hr:Region.ready md ops l=[]:=by simpa[forcedB] using hf
  simp only[List.filterMap_nil,wpList] at h
  cases fuel with
  |zero=>exact⟨hr,h⟩
  |succ f=>exact⟨λ_=>h,λi hi=>by rw[hr] at hi;cases hi⟩
 |s::r,l,fuel,a,w,hf,hl,h,hS=>by
  simp only[forcedB,Bool.and_eq_true,beq_iff_eq] at hf
  cases fuel with
  |zero=>simp at hl
  |succ f=>
   refine⟨λh0=>(by rw[hf.1] at h0;cases h0),λi hi=>?_⟩
   rw[hf.1] at hi
   obtain rfl:i=s:=by simpa using hi
   obtain⟨o,ho⟩:=Option.isSome_iff_exists.1 (hS i List.mem_cons_self)
   rw[List.filterMap_cons,ho] at h
   simp only[wpList] at h
   have hog:o.guard=none:=hg o (Array.mem_toList_iff.2 (Array.mem_of_getElem? ho))
   have hw:Region.wanted o (yielded ops a.tmps)=true:=by simp[Region.wanted,hog]
   unfold wpOp
   simp only[ho,hw,if_true] at h⊢
   exact h.imp (Oper.wp_mono λa' w' h'=>forced_wp hg r _ f a' w' hf.2 (by simpa using hl) h' (λt ht=>hS t (List.mem_cons_of_mem _ ht))) id
def fillA(St:List Nat)(vals:Nat→Value):Nat→List Oper→Act→Act
 |_,[],a=>a
 |i,o::r,a=>fillA St vals (i+1) r (if St.contains i then a else a.put o.dst (vals i))
theorem nodupB_ne:∀(l:List Nat),nodupB l=true→l.Nodup
 |[],_=>List.nodup_nil
 |x::r,h=>by
  simp only[nodupB,Bool.and_eq_true,Bool.not_eq_true'] at h
  exact List.nodup_cons.2 ⟨by simpa using h.1,nodupB_ne r h.2⟩
theorem dst_inj:∀(l:List Oper),(l.filterMap (·.dst)).Nodup→∀(i j:Nat) (o p:Oper) (d:Nat),l[i]?=some o→l[j]?=some p→o.dst=some d→p.dst=some d→i=j
 |[],_,i,j,o,p,d,h,_,_,_=>by simp at h
 |q::r,hn,i,j,o,p,d,hi,hj,ho,hp=>by
  have hmem:∀k (x:Oper),r[k]?=some x→x.dst=some d→d∈r.filterMap (·.dst):=λk x hx hd=>List.mem_filterMap.2 ⟨x,List.mem_of_getElem? hx,hd⟩
  have hnr:(r.filterMap (·.dst)).Nodup:=by
   rw[List.filterMap_cons] at hn
   split at hn
   ·exact hn
   ·exact(List.nodup_cons.1 hn).2
  cases i with
  |zero=>
   simp only[List.getElem?_cons_zero,Option.some.injEq] at hi
   subst hi
   cases j with
   |zero=>rfl
   |succ j=>
    rw[List.filterMap_cons,ho] at hn
    exact absurd (hmem j p (by simpa using hj) hp) (List.nodup_cons.1 hn).1
  |succ i=>
   cases j with
   |zero=>
    simp only[List.getElem?_cons_zero,Option.some.injEq] at hj
    subst hj
    rw[List.filterMap_cons,hp] at hn
    exact absurd (hmem i o (by simpa using hi) ho) (List.nodup_cons.1 hn).1
   |succ j=>rw[dst_inj r hnr i j o p d (by simpa using hi) (by simpa using hj) ho hp]
theorem put_tmps(a:Act)(d:Option Nat)(v:Value)(k:Nat):(a.put d v).tmps[k]?=if d=some k then(if k<a.tmps.size then some v else none) else a.tmps[k]?:=by
 cases d with
 |none=>simp[Act.put]
 |some d=>
  by_cases e:d=k
  ·subst e;simp[Act.put,Array.getElem?_setIfInBounds]
  ·simp[Act.put,Array.getElem?_setIfInBounds,e]
theorem put_size(a:Act)(d:Option Nat)(v:Value):(a.put d v).tmps.size=a.tmps.size:=by cases d<;>simp[Act.put]
theorem put_defers(a:Act)(d:Option Nat)(v:Value):(a.put d v).defers=a.defers:=by cases d<;>rfl
theorem fillA_eq(St:List Nat)(vals:Nat→Value)(b:Act):∀(l:List Oper) (k:Nat) (a:Act),a.defers=b.defers→a.tmps.size=b.tmps.size→(∀i o d,l[i]?=some o→o.dst=some d→St.contains (k+i)=false→b.tmps[d]?=some (vals (k+i)))→
 (∀d,(∀i o,l[i]?=some o→St.contains (k+i)=false→o.dst≠some d)→a.tmps[d]?=b.tmps[d]?)→fillA St vals k l a=b
 |[],k,a,hd,hs,_,h2=>by
  rw[fillA]
  cases a;cases b
  simp only at hd hs h2
  subst hd
  congr 1
  exact Array.ext_getElem? (λd=>h2 d (λi o h=>by simp at h))
 |o::r,k,a,hd,hs,h1,h2=>by
  rw[fillA]
  have hidx:∀i,k+1+i=k+(i+1):=λi=>by omega
  refine fillA_eq St vals b r (k+1) _ ?_ ?_ (λi p d hp hpd hst=>?_) (λd hnd=>?_)
  ·split<;>simp[put_defers,hd]
  ·split<;>simp[put_size,hs]
  ·rw[hidx]
   exact h1 (i+1) p d (by simpa using hp) hpd (by rw[←hidx];exact hst)
  ·have hrest:∀i p,r[i]?=some p→St.contains (k+(i+1))=false→p.dst≠some d:=λi p hp hst=>hnd i p hp (by rw[hidx];exact hst)
   cases hst:St.contains k with
   |true=>
    simp only[if_true]
    refine h2 d (λi p hp hs'=>?_)
    cases i with
    |zero=>rw[Nat.add_zero,hst] at hs';cases hs'
    |succ i=>exact hrest i p (by simpa using hp) hs'
   |false=>
    simp only[Bool.false_eq_true,if_false]
    rw[put_tmps]
    by_cases e:o.dst=some d
    ·have hb:=h1 0 o d rfl e (by simpa using hst)
     rw[Nat.add_zero] at hb
     have hlt:d<b.tmps.size:=(Array.getElem?_eq_some_iff.1 hb).1
     rw[if_pos e,if_pos (show d<a.tmps.size by rw[hs];exact hlt),hb]
    ·rw[if_neg e]
     refine h2 d (λi p hp hs'=>?_)
     cases i with
     |zero=>
      simp only[List.getElem?_cons_zero,Option.some.injEq] at hp
      subst hp;exact e
     |succ i=>exact hrest i p (by simpa using hp) hs'
theorem eval_tmp(a:Act)(d:Nat):a.eval (.tmp d)=(a.tmps[d]?).getD undef:=by simp[Act.eval]
structure RelInv(R:World→World→Prop)(Post:Nat→Value→World→Prop)(ops:Array Oper)(St:List Nat)(a0:Act)(w0:World)(l:Array Bool)(a:Act)(w:World):Prop where
 size:l.size=ops.size
 closed:closedL .any ops l
 rest:∀s∈St,l.getD s true=false
 defers:a.defers=a0.defers
 tsize:a.tmps.size=a0.tmps.size
 old:∀d,(∀i o,ops[i]?=some o→l.getD i true=true→o.dst≠some d)→a.tmps[d]?=a0.tmps[d]?
 told:∀i o d,ops[i]?=some o→l.getD i true=true→o.dst=some d→∃v,a.tmps[d]?=some v∧Post i v w
 rel:R w0 w
end
end Go.Proofs.YtgmapdcdmomioaaGreatDoor
namespace Go.Proofs.YtgmapdcdmomioaaGreatDoor
open Go.RowKit
section
variable{P:Program}{md:Region.Mode}{ops:Array Oper}{Q:Exit→Act→World→Prop}
end
end Go.Proofs.YtgmapdcdmomioaaGreatDoor
namespace Go.Proofs.YtgmapdcdmomioaaGreatDoor
open Go.RowKit
section
variable{P:Program}{md:Region.Mode}{ops:Array Oper}{Q:Exit→Act→World→Prop}
def VaOp(P:Program)(Q:Exit→Act→World→Prop)(ops:Array Oper)(I:(Nat→Option Value)→World→Prop)(a0:Act)(i:Nat)(o:Oper):Prop:=
 ∀(a:Act) (w:World) (vo:Nat→Option Value),I vo w→vo i=none→(∀d,(dstsOf ops).contains d=false→a.eval (.tmp d)=a0.eval (.tmp d))→
  (∀j p,ops[j]?=some p→(o.after.any λe=>Region.binds .any e&&e.on==j)=true→(vo j).isSome=true∧∀d,p.dst=some d→vo j=some (a.eval (.tmp d)))→
  ∀K:Act→World→Prop,(∀v w',I (λk=>if k=i then some v else vo k) w'→K (a.put o.dst v) w')→o.wp P a w K Q
def VaAll(P:Program)(Q:Exit→Act→World→Prop)(ops:Array Oper)(I:(Nat→Option Value)→World→Prop)(a0:Act)(St:List Nat):Nat→List Oper→Prop
 |_,[]=>True
 |i,o::r=>(if St.contains i then True else VaOp P Q ops I a0 i o)∧VaAll P Q ops I a0 St (i+1) r
theorem VaAll.at{I:(Nat→Option Value)→World→Prop}{a0:Act}{St:List Nat}:∀(l:List Oper) (k:Nat),VaAll P Q ops I a0 St k l→∀i o,l[i]?=some o→St.contains (k+i)=false→VaOp P Q ops I a0 (k+i) o
 |[],_,_,i,o,h,_=>by simp at h
 |p::r,k,hA,0,o,h,hs=>by
  simp only[List.getElem?_cons_zero,Option.some.injEq] at h
  subst h
  have:=hA.1
  rw[Nat.add_zero] at hs⊢
  rwa [if_neg (by rw[hs];decide)] at this
 |p::r,k,hA,i+1,o,h,hs=>by
  have:=VaAll.at r (k+1) hA.2 i o (by simpa using h) (by rw[show k+1+i=k+(i+1) from by omega];exact hs)
  rwa [show k+1+i=k+(i+1) from by omega] at this
structure VaInv(I:(Nat→Option Value)→World→Prop)(ops:Array Oper)(St:List Nat)(a0:Act)(l:Array Bool)(a:Act)(w:World):Prop where
 size:l.size=ops.size
 closed:closedL .any ops l
 rest:∀s∈St,l.getD s true=false
 defers:a.defers=a0.defers
 tsize:a.tmps.size=a0.tmps.size
 old:∀d,(∀i o,ops[i]?=some o→l.getD i true=true→o.dst≠some d)→a.tmps[d]?=a0.tmps[d]?
 told:∃vo,I vo w∧(∀i,i<ops.size→(vo i).isSome=l.getD i true)∧∀i o d v,ops[i]?=some o→o.dst=some d→vo i=some v→a.tmps[d]?=some v
theorem wp_va{J:(Nat→Option Value)→World→Prop}{St:List Nat}{a0:Act}(hok:relOk .any ops St=true)
 (hsz:∀d∈dstsOf ops,d<a0.tmps.size) (hall:VaAll P Q ops J a0 St 0 ops.toList)
 (hend:∀(vals:Nat→Value) (w:World) (vo:Nat→Option Value),(∀i,i<ops.size→St.contains i=false→vo i=some (vals i))→J vo w→wpList P ops Q (St.filterMap (ops[·]?)) (fillA St vals 0 ops.toList a0) w):
 ∀(fuel:Nat) (l:Array Bool) (a:Act) (w:World),unl ops.size l≤fuel→VaInv J ops St a0 l a w→wpAny P .any ops Q fuel l a w:=by
 simp only[relOk,Bool.and_eq_true,decide_eq_true_iff] at hok
 obtain⟨⟨⟨⟨⟨⟨k1,k2⟩,k3⟩,k4⟩,k5⟩,k6⟩,k7⟩:=hok
 have hg:∀o∈ops.toList,o.guard=none:=λo ho=>by simpa using List.all_eq_true.1 k2 o ho
 have hSt:∀s∈St,∃o,ops[s]?=some o∧True:=λs hs=>by
  obtain⟨o,ho⟩:=Option.isSome_iff_exists.1 (List.all_eq_true.1 k1 s hs)
  exact⟨o,ho,trivial⟩
 have hinj:=dst_inj ops.toList (nodupB_ne _ k7)
 -- where all but the last ones are done
 have hbase:∀(l:Array Bool) (a:Act) (w:World),VaInv J ops St a0 l a w→(∀i,i<ops.size→St.contains i=false→l.getD i true=true)→wpList P ops Q (St.filterMap (ops[·]?)) a w:=by
  intro l a w I hB
  obtain⟨vo,hJ,hdn,hval⟩:=I.told
  have hvo:∀i,i<ops.size→St.contains i=false→vo i=some ((vo i).getD undef):=λi hi hs=>by
   have h1:=hdn i hi
   rw[hB i hi hs] at h1
   obtain⟨v,hv⟩:=Option.isSome_iff_exists.1 h1
   rw[hv];rfl
  have hv:fillA St (λi=>(vo i).getD undef) 0 ops.toList a0=a:=by
   refine fillA_eq St _ a ops.toList 0 a0 I.defers.symm I.tsize.symm (λi o d ho hd hs=>?_) (λd hnd=>?_)
   ·have ho':ops[i]?=some o:=by simpa using ho
    rw[Nat.zero_add] at hs⊢
    exact hval i o d _ ho' hd (hvo i (Array.getElem?_eq_some_iff.1 ho').1 hs)
   ·refine(I.old d (λi o ho hl=>?_)).symm
    cases hc:St.contains i with
    |true=>rw[I.rest i (by simpa using hc)] at hl;cases hl
    |false=>exact hnd i o (by simpa using ho) (by simpa using hc)
  have h:=hend _ w vo hvo hJ
  rw[hv] at h
  exact h
 intro fuel
 induction fuel with
 |zero=>
  intro l a w hf I
  have hnone:∀i,i<ops.size→l.getD i true=true:=λi hi=>by
   by_cases h:l.getD i true=true
   ·exact h
   ·have h1:=unl_set hi (by simpa using h) I.size
    omega
  have hE:St=[]:=by
   cases St with
   |nil=>rfl
   |cons s r=>
    obtain⟨o,ho,_⟩:=hSt s List.mem_cons_self
    have h1:=hnone s (Array.getElem?_eq_some_iff.1 ho).1
    rw[I.rest s List.mem_cons_self] at h1
    cases h1
  have hb:=hbase l a w I (λi hi _=>hnone i hi)
  subst hE
  refine⟨?_,?_⟩
  ·rw[List.eq_nil_iff_forall_not_mem]
   intro i hi
   obtain⟨h0,o,ho,_⟩:=mem_ready.1 hi
   rw[hnone i (Array.getElem?_eq_some_iff.1 ho).1] at h0
   cases h0
  ·exact hb
 |succ fuel ih=>
  intro l a w hf I
  have hfr0:∀i,i<ops.size→l.getD i true=true→l.getD i false=true:=λi hi h=>by
   have:i<l.size:=by rw[I.size];exact hi
   simpa[this] using h
  by_cases hB:∀i,i<ops.size→St.contains i=false→l.getD i true=true
  ·-- the last ones alone are left
   have hbl:l=baseL ops.size St:=by
    apply Array.ext_getElem?
    intro i
    by_cases hi:i<ops.size
    ·have h1:l[i]?=some (l.getD i true):=by simp[I.size,hi]
     rw[h1]
     unfold baseL
     simp only[List.getElem?_toArray,List.getElem?_map,List.getElem?_range hi,Option.map_some,Option.some.injEq]
     cases hc:St.contains i with
     |true=>rw[I.rest i (by simpa using hc)];rfl
     |false=>rw[hB i hi hc];rfl
    ·rw[Array.getElem?_eq_none (by rw[I.size];omega)]
     unfold baseL
     rw[List.getElem?_toArray,List.getElem?_eq_none (by simp;omega)]
   have h:=hbase l a w I hB
   refine forced_wp hg St l (fuel+1) a w (by rw[hbl];exact k5) ?_ h (λs hs=>by obtain⟨o,ho,_⟩:=hSt s hs;rw[ho];rfl)
   refine Nat.le_trans k6 (Nat.le_trans (Nat.le_of_eq ?_) hf)
   unfold unl
   congr 1
   refine List.filter_congr (λi hi=>?_)
   have hi':=List.mem_range.1 hi
   cases hc:St.contains i with
   |true=>rw[I.rest i (by simpa using hc)];rfl
   |false=>rw[hB i hi' hc];rfl
  ·-- another one comes up
   obtain⟨x,hx⟩:=Classical.not_forall.1 hB
   obtain⟨hxn,hx⟩:=Classical.not_imp.1 hx
   obtain⟨hxs,hxl⟩:=Classical.not_imp.1 hx
   have hxl:l.getD x true=false:=by simpa using hxl
   have hto:∀i,l.getD i false=true→l.getD i true=true:=λi h=>by
    by_cases hi:i<l.size
    ·simpa[hi] using h
    ·simp[hi] at h
   have hfr:∀i,i<ops.size→l.getD i true=true→l.getD i false=true:=λi hi h=>by
    have:i<l.size:=by rw[I.size];exact hi
    simpa[this] using h
   refine⟨λh0=>?_,λj hj=>?_⟩
   ·-- some one is ready
    exfalso
    have key:∀n,∀m,m<n→m<ops.size→l.getD m true=false→False:=by
     intro n
     induction n with
     |zero=>intro m hm;omega
     |succ n ihn=>
      intro m hm hms hml
      by_cases hmn:m<n
      ·exact ihn m hmn hms hml
      ·have hmr:m∈Region.ready .any ops l:=by
        refine mem_ready.2 ⟨hml,ops[m],by simp[hms],λe he hb=>?_⟩
        have h3:=List.all_eq_true.1 k3 m (List.mem_range.2 hms)
        simp only[Array.getElem?_eq_getElem hms] at h3
        have h4:=Array.all_eq_true_iff_forall_mem.1 h3 e he
        rw[hb] at h4
        have hlt:e.on<m:=by simpa using h4
        by_cases hle:l.getD e.on true=true
        ·exact hfr e.on (by omega) hle
        ·exact(ihn e.on (by omega) (by omega) (by simpa using hle)).elim
       rw[h0] at hmr
       cases hmr
    exact key (x+1) x (by omega) hxn hxl
   ·obtain⟨hjl,o,ho,hpre⟩:=mem_ready.1 hj
    have hjn:j<ops.size:=(Array.getElem?_eq_some_iff.1 ho).1
    have hjs:St.contains j=false:=by
     cases hc:St.contains j with
     |false=>rfl
     |true=>
      exfalso
      have h4:=List.all_eq_true.1 (List.all_eq_true.1 k4 j (by simpa using hc)) x (List.mem_range.2 hxn)
      rw[Bool.or_eq_true] at h4
      rcases h4 with h4|h4
      ·rw[hxs] at h4;cases h4
      ·have:=hto x (reach_listed I.closed _ _ _ o ho hpre h4)
       rw[hxl] at this;cases this
    have hop:=VaAll.at ops.toList 0 hall j o (by simpa using ho) (by simpa using hjs)
    rw[Nat.zero_add] at hop
    have hog:o.guard=none:=hg o (Array.mem_toList_iff.2 (Array.mem_of_getElem? ho))
    have hw:Region.wanted o (yielded ops a.tmps)=true:=by simp[Region.wanted,hog]
    unfold wpOp
    simp only[ho,hw,if_true]
    obtain⟨vo,hJ,hdn,hval⟩:=I.told
    have hvj:vo j=none:=by
     have:=hdn j hjn
     rw[hjl] at this
     cases hc:vo j with
     |none=>rfl
     |some v=>rw[hc] at this;cases this
    refine .inl (hop a w vo hJ hvj (λd hd=>?_) (λi p hp hany=>?_) _ (λv w' hJ'=>?_))
    ·rw[eval_tmp,eval_tmp,I.old d (λi p hp _ hpd=>?_)]
     have:d∈dstsOf ops:=List.mem_filterMap.2 ⟨p,Array.mem_toList_iff.2 (Array.mem_of_getElem? hp),hpd⟩
     rw[List.contains_iff_mem.2 this] at hd
     cases hd
    ·obtain⟨e,he,hh⟩:=any_mem hany
     rw[Bool.and_eq_true] at hh
     have hei:e.on=i:=by simpa using hh.2
     have hl:=hto i (hei▸hpre e he hh.1)
     have hs:=hdn i (Array.getElem?_eq_some_iff.1 hp).1
     rw[hl] at hs
     refine⟨hs,λd hpd=>?_⟩
     obtain⟨u,hu⟩:=Option.isSome_iff_exists.1 hs
     rw[eval_tmp,hval i p d u hp hpd hu,hu];rfl
    ·refine ih _ _ _ ?_ ?_
     ·have:=unl_set hjn hjl I.size;omega
     ·have hset:∀i,i≠j→(l.setIfInBounds j true).getD i true=l.getD i true:=λi hi=>getD_set_ne true (Ne.symm hi)
      have hsetj:(l.setIfInBounds j true).getD j true=true:=by simp[I.size,hjn]
      refine⟨by simp[I.size],?_,?_,by rw[put_defers];exact I.defers,by rw[put_size];exact I.tsize,?_,⟨_,hJ',?_,?_⟩⟩
      ·intro i p hp hl e he hb
       by_cases hij:i=j
       ·subst hij
        rw[ho] at hp;injection hp with hp;subst hp
        exact getD_set_true (hpre e he hb)
       ·have h5:l.getD i false=true:=by
         have:(l.setIfInBounds j true).getD i false=l.getD i false:=by simp only[Array.getD_eq_getD_getElem?,Array.getElem?_setIfInBounds,if_neg (Ne.symm hij)]
         rw[this] at hl;exact hl
        exact getD_set_true (I.closed i p hp h5 e he hb)
      ·intro s hs
       have hsj:s≠j:=λe=>by subst e;rw[List.contains_iff_mem.2 hs] at hjs;cases hjs
       rw[hset s hsj];exact I.rest s hs
      ·intro d hnd
       have hod:o.dst≠some d:=hnd j o ho hsetj
       rw[put_tmps,if_neg hod]
       refine I.old d (λi p hp hl=>?_)
       by_cases hij:i=j
       ·subst hij;rw[hjl] at hl;cases hl
       ·exact hnd i p hp (by rw[hset i hij];exact hl)
      ·intro i hi
       by_cases hij:i=j
       ·subst hij
        rw[if_pos rfl,hsetj];rfl
       ·rw[if_neg hij,hset i hij];exact hdn i hi
      ·intro i p d u hp hpd hu
       by_cases hij:i=j
       ·subst hij
        rw[ho] at hp;injection hp with hp;subst hp
        rw[if_pos rfl] at hu
        injection hu with hu
        subst hu
        have hdm:d∈dstsOf ops:=List.mem_filterMap.2 ⟨o,Array.mem_toList_iff.2 (Array.mem_of_getElem? ho),hpd⟩
        rw[put_tmps,if_pos hpd,if_pos (by rw[I.tsize];exact hsz d hdm)]
       ·rw[if_neg hij] at hu
        rw[put_tmps,if_neg (λe=>hij (hinj i j p o d (by simpa using hp) (by simpa using ho) hpd e))]
        exact hval i p d u hp hpd hu
theorem wp_region_va{id:Nat}{L:List Oper}{a0:Act}{w0:World}(St:List Nat)(J:(Nat→Option Value)→World→Prop)(hm:P.follows .mixedOrders=true)(hok:relOk .any L.toArray St=true)(hJ0:J (λ_=>none) w0.drew)
 (hsz:(dstsOf L.toArray).all (λd=>decide (d<a0.tmps.size))=true) (hall:VaAll P Q L.toArray J a0 St 0 L)
 (hend:∀(vals:Nat→Value) (w:World) (vo:Nat→Option Value),(∀i,i<L.toArray.size→St.contains i=false→vo i=some (vals i))→J vo w→wpList P L.toArray Q (St.filterMap (L.toArray[·]?)) (fillA St vals 0 L a0) w):
 (Code.region id L.toArray true).wp P Q a0 w0:=by
 refine wp_region_any hm ?_
 refine wp_va hok (λd hd=>by simpa using List.all_eq_true.1 hsz d hd) hall hend _ _ _ _ ?_ ?_
 ·unfold unl
  exact Nat.le_trans (List.length_filter_le _ _) (by simp)
 ·have hf:∀i,i<L.toArray.size→(Array.replicate L.toArray.size false).getD i true=false:=λi hi=>by simp at hi;simp[hi]
  refine⟨by simp,?_,?_,rfl,rfl,λd _=>rfl,⟨_,hJ0,λi hi=>by rw[hf i hi];rfl,λi o d v _ _ h=>by cases h⟩⟩
  ·intro j o ho h
   have hj:j<L.length:=by simpa using(Array.getElem?_eq_some_iff.1 ho).1
   simp[hj] at h
  ·intro s hs
   simp only[relOk,Bool.and_eq_true] at hok
   have:=List.all_eq_true.1 hok.1.1.1.1.1.1 s hs
   cases ho:L.toArray[s]? with
   |none=>rw[ho] at this;cases this
   |some o=>exact hf s (Array.getElem?_eq_some_iff.1 ho).1
end
end Go.Proofs.YtgmapdcdmomioaaGreatDoor
