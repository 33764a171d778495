/- Operations in any order that the model may choose: what they come to. Regions of the plain machine are the model's. Code of the plain machine is the model's. What a function of the plain machine answers is what the model's answers. What the plain machine answers is true of the program. The plain machine for a program; from any world. The plain machine's code, step by step, with all fuels from some on. Rules by which the plain machine's code is walked through. A function that only reads and allocates, and answers true, as one that is known by what it answers: from any memory of a run. Calls that are known by a run of their own: at these arguments, from this memory. -/
import Derived.Test.YtiheejdkkjfenaaGreatDoorQD
import Derived.Scope
import Derived.Recover
import Derived.Below
import Derived.KernelRfl
set_option linter.all false
set_option autoImplicit false
namespace Go.Proofs.YtiheejdkkjfenaaGreatDoor.Am
open Go
section
variable{T:Tb}{R:Caller}{ops:Array Oper}
theorem front{bf:Array Nat}(hnd:∀(k:Nat) o,ops[k]?=some o→isDefer o.op=none){i:Nat}{fin:St}:∀(n:Nat) (L1 L2:List Nat) (st:St) (tr:List Tr) (p:Option (Dat×Glob)),
 (∀j∈L1,(bf.getD i 0).testBit j=false∧∀oj oi,ops[j]?=some oj→ops[i]?=some oi→oj.apart ops oi=true)→
 runD T R ops bf n (L1++i::L2) st=some (tr,p,fin)→pairsOk bf tr=true→
 ∃oi,ops[i]?=some oi∧∃out st2,stepA T R ops oi st=some (out,st2)∧(∃t∈tr,TrEq t (trOf T R ops i oi st out st2))∧
  (∀x,out=.panic x→(feetA T R ops oi st).glob=some true∧p=some (x,st2.glob))∧
  (∀v,out=.val v→∃m tr',runD T R ops bf m (L1++L2) st2=some (tr',p,fin)∧pairsOk bf tr'=true∧∀t'∈tr',∃t∈tr,TrEq t t')
 |0,L1,L2,st,tr,p,hL,h,hp=>by cases L1<;>cases h
 |n+1,[],L2,st,tr,p,hL,h,hp=>by
  simp only[List.nil_append,runD] at h
  cases ho:ops[i]? with
  |none=>rw[ho] at h;cases h
  |some oi=>
   rw[ho] at h
   simp only at h
   refine⟨oi,rfl,?_⟩
   split at h
   ·cases h
   ·rename_i v st' hs
    split at h
    ·rename_i tr0 p0 fin0 hr
     cases h
     refine⟨_,_,hs,⟨_,List.mem_cons_self,TrEq.refl _⟩,λx hx=>(by cases hx),λv' hv'=>⟨n,tr0,hr,?_,λt' ht'=>⟨t',List.mem_cons_of_mem _ ht',TrEq.refl _⟩⟩⟩
     simp only[pairsOk,Bool.and_eq_true] at hp
     exact hp.2
    ·cases h
   ·rename_i x st' hs
    split at h
    ·rename_i tr0 fin0 hg hr
     cases h
     exact⟨_,_,hs,⟨_,List.mem_cons_self,TrEq.refl _⟩,λx' hx'=>(by cases hx';exact⟨hg,rfl⟩),λv' hv'=>by cases hv'⟩
    ·cases h
 |n+1,j::L1,L2,st,tr,p,hL,h,hp=>by
  obtain⟨hLj,hLa⟩:=hL j List.mem_cons_self
  have hL':∀j∈L1,(bf.getD i 0).testBit j=false∧∀oj oi,ops[j]?=some oj→ops[i]?=some oi→oj.apart ops oi=true:=λk hk=>hL k (List.mem_cons_of_mem _ hk)
  simp only[List.cons_append,runD] at h
  cases ho:ops[j]? with
  |none=>rw[ho] at h;cases h
  |some oj=>
   rw[ho] at h
   simp only at h
   split at h
   ·cases h
   ·rename_i u st1 hs
    split at h
    ·rename_i tr0 p0 fin0 hr
     cases h
     simp only[pairsOk,Bool.and_eq_true,List.all_eq_true] at hp
     obtain⟨hp1,hp2⟩:=hp
     obtain⟨oi,hoi,out,st2,hsi,⟨t,ht,hte⟩,hpan,hval⟩:=front hnd (i:=i) n L1 L2 st1 tr0 _ hL' hr hp2
     have hap:=hLa oj oi ho hoi
     have e1:=hp1 t ht
     rw[Bool.or_eq_true] at e1
     have e2:=e1.resolve_left (by
      have:t.i=i:=hte.i
      rw[this,hLj];simp)
     rw[apart_congr (TrEq.refl _) hte] at e2
     obtain⟨st1',a1,a2,a3,a4⟩:=swap (i:=i) (j:=j) (hnd j oj ho) (hnd i oi hoi) hap hs hsi (λx hx=>(hpan x hx).1) e2
     refine⟨oi,hoi,out,st1',a1,⟨t,List.mem_cons_of_mem _ ht,hte.trans a2⟩,λx hx=>?_,λv hv=>?_⟩
     ·obtain⟨b1,b2⟩:=hpan x hx
      refine⟨?_,by rw[a4 x hx];exact b2⟩
      have:feetA T R ops oi st1=feetA T R ops oi st:=a2.feet
      rw[←this];exact b1
     ·obtain⟨m,tr',c1,c2,c3⟩:=hval v hv
      obtain⟨d1,d2⟩:=a3 v hv
      refine⟨m+1,trOf T R ops j oj st1' (.val u) st2::tr',?_,?_,λt' ht'=>?_⟩
      ·simp only[List.cons_append,runD,ho,d1,c1]
       rfl
      ·simp only[pairsOk,Bool.and_eq_true,List.all_eq_true]
       refine⟨λb hb=>?_,c2⟩
       obtain⟨b0,hb0,hbe⟩:=c3 b hb
       have:=hp1 b0 hb0
       have e4:TrEq (⟨j,feetA T R ops oj st,readA T R ops oj st,st.glob,st1.glob⟩:Tr) (trOf T R ops j oj st1' (.val u) st2):=d2
       rw[hbe.i,apart_congr e4 hbe] at this
       exact this
      ·rcases List.mem_cons.1 ht' with rfl|ht'
       ·exact⟨_,List.mem_cons_self,d2⟩
       ·obtain⟨b0,hb0,hbe⟩:=c3 t' ht'
        exact⟨b0,List.mem_cons_of_mem _ hb0,hbe⟩
    ·cases h
   ·rename_i x st1 hs
    split at h
    ·rename_i tr0 fin0 hg hr
     cases h
     simp only[pairsOk,Bool.and_eq_true,List.all_eq_true] at hp
     obtain⟨hp1,hp2⟩:=hp
     have hfil:(L1++i::L2).filter (λk=>!(bf.getD k 0).testBit j)=L1.filter (λk=>!(bf.getD k 0).testBit j)++i::L2.filter (λk=>!(bf.getD k 0).testBit j):=by
      rw[List.filter_append,List.filter_cons,hLj];simp
     rw[hfil] at hr
     obtain⟨oi,hoi,out,st2,hsi,⟨t,ht,hte⟩,hpan,hval⟩:=front hnd (i:=i) n _ _ st tr0 none (λk hk=>hL' k (List.mem_filter.1 hk).1) hr hp2
     cases out with
     |panic y=>cases (hpan y rfl).2
     |val v=>
      have hap:=hLa oj oi ho hoi
      have e1:=hp1 t ht
      rw[Bool.or_eq_true] at e1
      have e2:=e1.resolve_left (by
       have:t.i=i:=hte.i
       rw[this,hLj];simp)
      rw[apart_congr (TrEq.refl _) hte] at e2
      obtain⟨st1',a1,a2,a3,a4⟩:=swap_panic (i:=i) (j:=j) (hnd j oj ho) (hnd i oi hoi) hap hs hg hsi e2
      refine⟨oi,hoi,_,st2,hsi,⟨t,List.mem_cons_of_mem _ ht,hte⟩,λx hx=>(by cases hx),λv' hv'=>?_⟩
      obtain⟨m,tr',c1,c2,c3⟩:=hval v rfl
      refine⟨m+1,trOf T R ops j oj st2 (.panic x) st1'::tr',?_,?_,λt' ht'=>?_⟩
      ·rw[←List.filter_append] at c1
       simp only[List.cons_append,runD,ho,a1,a2,c1]
       rw[a3]
       rfl
      ·simp only[pairsOk,Bool.and_eq_true,List.all_eq_true]
       refine⟨λb hb=>?_,c2⟩
       obtain⟨b0,hb0,hbe⟩:=c3 b hb
       have:=hp1 b0 hb0
       have e4:TrEq (⟨j,feetA T R ops oj st,readA T R ops oj st,st.glob,st.glob⟩:Tr) (trOf T R ops j oj st2 (.panic x) st1'):=a4
       rw[hbe.i,apart_congr e4 hbe] at this
       exact this
      ·rcases List.mem_cons.1 ht' with rfl|ht'
       ·exact⟨_,List.mem_cons_self,a4⟩
       ·obtain⟨b0,hb0,hbe⟩:=c3 t' ht'
        exact⟨b0,List.mem_cons_of_mem _ hb0,hbe⟩
    ·cases h
theorem bits_fold(acc:Array Nat)(j:Nat):∀(l:List Edge) (s:Nat),((l.foldl (λs e=>if Region.binds .any e then s ||| 2^e.on ||| acc.getD e.on 0 else s) s)).testBit j=true→
 s.testBit j=true∨∃e∈l,Region.binds .any e=true∧(j=e.on∨(acc.getD e.on 0).testBit j=true)
 |[],s,h=>.inl h
 |e::l,s,h=>by
  simp only[List.foldl_cons] at h
  rcases bits_fold acc j l _ h with h|⟨e',he',h⟩
  ·by_cases hb:Region.binds .any e=true
   ·simp only[hb,if_true,Nat.testBit_or,Bool.or_eq_true] at h
    rcases h with (h|h)|h
    ·exact .inl h
    ·refine .inr ⟨e,List.mem_cons_self,hb,.inl ?_⟩
     rw[Nat.testBit_two_pow] at h
     simpa using(of_decide_eq_true h).symm
    ·exact .inr ⟨e,List.mem_cons_self,hb,.inr h⟩
   ·simp only[hb] at h
    exact .inl h
  ·exact .inr ⟨e',List.mem_cons_of_mem _ he',h⟩
theorem before_fold(l0:List Oper):∀(l:List Oper) (acc:Array Nat) (pre:List Oper),l0=pre++l→acc.size=pre.length→
 (∀(k:Nat) j,(acc.getD k 0).testBit j=true→∃o,l0[k]?=some o∧∃e∈o.after,Region.binds .any e=true∧(j=e.on∨(acc.getD e.on 0).testBit j=true))→
 ∀(k:Nat) j,((l.foldl (λacc o=>acc.push (o.after.foldl (λs e=>if Region.binds .any e then s ||| 2^e.on ||| acc.getD e.on 0 else s) 0)) acc).getD k 0).testBit j=true→
  ∃o,l0[k]?=some o∧∃e∈o.after,Region.binds .any e=true∧
   (j=e.on∨((l.foldl (λacc o=>acc.push (o.after.foldl (λs e=>if Region.binds .any e then s ||| 2^e.on ||| acc.getD e.on 0 else s) 0)) acc).getD e.on 0).testBit j=true)
 |[],acc,pre,hl,hs,h=>h
 |o::l,acc,pre,hl,hs,h=>by
  simp only[List.foldl_cons]
  refine before_fold l0 l _ (pre++[o]) (by simp[hl]) (by simp[hs]) ?_
  intro k j hkj
  have old:∀k j,(acc.getD k 0).testBit j=true→((acc.push (o.after.foldl (λs e=>if Region.binds .any e then s ||| 2^e.on ||| acc.getD e.on 0 else s) 0)).getD k 0).testBit j=true:=λk j hkj=>by
   have hk:k<acc.size:=by
    rcases Nat.lt_or_ge k acc.size with h|h
    ·exact h
    ·simp[Array.getElem?_eq_none h] at hkj
   have:(acc.push (o.after.foldl (λs e=>if Region.binds .any e then s ||| 2^e.on ||| acc.getD e.on 0 else s) 0)).getD k 0=acc.getD k 0:=by
    simp only[Array.getD_eq_getD_getElem?,Array.getElem?_push_lt hk]
    simp[hk]
   rw[this];exact hkj
  by_cases hk:k=acc.size
  ·subst hk
   have e1:(acc.push (o.after.foldl (λs e=>if Region.binds .any e then s ||| 2^e.on ||| acc.getD e.on 0 else s) 0)).getD acc.size 0=o.after.foldl (λs e=>if Region.binds .any e then s ||| 2^e.on ||| acc.getD e.on 0 else s) 0:=by
    simp[Array.getD_eq_getD_getElem?]
   rw[e1,←Array.foldl_toList] at hkj
   rcases bits_fold acc j _ _ hkj with h0|⟨e,he,hb,hj⟩
   ·simp at h0
   ·refine⟨o,by rw[hl,hs];simp,e,by simpa using he,hb,hj.elim .inl (λe=>.inr (old _ _ e))⟩
  ·have hk':((acc.getD k 0)).testBit j=true:=by
    simp only[Array.getD_eq_getD_getElem?,Array.getElem?_push,hk,if_false] at hkj
    rw[Array.getD_eq_getD_getElem?]
    exact hkj
   obtain⟨o',ho',e,he,hb,hj⟩:=h k j hk'
   exact⟨o',ho',e,he,hb,hj.elim .inl (λe=>.inr (old _ _ e))⟩
theorem before_spec{k j:Nat}(h:((Region.before ops).getD k 0).testBit j=true):
 ∃o,ops[k]?=some o∧∃e∈o.after,Region.binds .any e=true∧(j=e.on∨((Region.before ops).getD e.on 0).testBit j=true):=by
 have key:=before_fold ops.toList ops.toList #[] [] rfl rfl (λk j h=>by simp at h) k j
 have e:Region.before ops=ops.toList.foldl (λacc o=>acc.push (o.after.foldl (λs e=>if Region.binds .any e then s ||| 2^e.on ||| acc.getD e.on 0 else s) 0)) #[]:=by
  unfold Region.before
  rw[←Array.foldl_toList]
 rw[e] at h⊢
 obtain⟨o,ho,r⟩:=key h
 exact⟨o,by simpa using ho,r⟩
end
end Go.Proofs.YtiheejdkkjfenaaGreatDoor.Am
namespace Go.Proofs.YtiheejdkkjfenaaGreatDoor.Am
open Go
section
variable{P:Program}{T:Tb}{R:Caller}{ops:Array Oper}{Q:Exit→Act→World→Prop}
theorem getD_tf{l:Array Bool}{j:Nat}(h:l.getD j true=true)(hj:j<l.size):l.getD j false=true:=by
 simp[hj] at h⊢;exact h
theorem getD_ft{l:Array Bool}{j:Nat}(h:l.getD j true=false):l.getD j false=false:=by
 rcases Nat.lt_or_ge j l.size with hj|hj
 ·simp[hj] at h⊢;exact h
 ·simp[Array.getElem?_eq_none hj] at h
theorem textOk_spec{bf:Array Nat}(h:textOk ops bf=true){i:Nat}{o:Oper}(hi:ops[i]?=some o):
 isDefer o.op=none∧(∀e∈o.after,Region.binds .any e=true→e.on<i)∧∀j,j<i→(bf.getD i 0).testBit j=false→∀p,ops[j]?=some p→p.apart ops o=true:=by
 have hlt:i<ops.size:=(Array.getElem?_eq_some_iff.1 hi).1
 unfold textOk at h
 rw[List.all_eq_true] at h
 have h1:=h i (by simpa using hlt)
 rw[hi] at h1
 simp only[Bool.and_eq_true,List.all_eq_true,Option.isNone_iff_eq_none] at h1
 obtain⟨⟨h1,h2⟩,h3⟩:=h1
 refine⟨h1,λe he hb=>?_,λj hj hn p hp=>?_⟩
 ·have:=Array.all_eq_true_iff_forall_mem.1 h2 e he
  simp only[hb,Bool.not_true,Bool.false_or,decide_eq_true_eq] at this
  exact this
 ·have:=h3 j (by simpa using hj)
  rw[hn,hp] at this
  simpa using this
theorem stepA_frame{o:Oper}{st st':St}{out:Out}(hd:isDefer o.op=none)(h:stepA T R ops o st=some (out,st')):st'.defs=st.defs∧st'.pin=st.pin:=by
 obtain⟨_,_,A,_,s,ha,hs⟩:=stepA_some hd h
 obtain⟨_,_,f3,f4,_⟩:=apply_frame ha
 rcases hs with ⟨v,_,rfl⟩|⟨x,_,rfl⟩
 ·cases o.dst<;>exact⟨f3,f4⟩
 ·exact⟨f3,f4⟩
theorem pairwise_cut{L1 L2:List Nat}{i:Nat}(h:(L1++i::L2).Pairwise (·<·)):(L1++L2).Pairwise (·<·)∧(∀j∈L1,j<i)∧i ∉ L1++L2:=by
 rw[List.pairwise_append,List.pairwise_cons] at h
 obtain⟨h1,⟨h2,h3⟩,h4⟩:=h
 refine⟨List.pairwise_append.2 ⟨h1,h3,λa ha b hb=>h4 a ha b (List.mem_cons_of_mem _ hb)⟩,λj hj=>h4 j hj i List.mem_cons_self,λhm=>?_⟩
 rcases List.mem_append.1 hm with hm|hm
 ·exact Nat.lt_irrefl _ (h4 i hm i List.mem_cons_self)
 ·exact Nat.lt_irrefl _ (h2 i hm)
theorem any_does{Bs:Em→World→Prop}(hT:T.Ok P)(hR:Sound P Bs R)(hok:textOk ops (Region.before ops)=true):∀(fuel:Nat) (L:List Nat) (listed:Array Bool) (n:Nat) (st:St) (E:Em) (w:World) (a:Act) (tr:List Tr) (p:Option (Dat×Glob)) (fin:St),
 L.length=fuel→L.Pairwise (·<·)→listed.size=ops.size→(∀j,j∈L↔j<ops.size∧listed.getD j true=false)→
 (∀k,listed.getD k false=true→∀j,((Region.before ops).getD k 0).testBit j=true→listed.getD j false=true)→
 runD T R ops (Region.before ops) n L st=some (tr,p,fin)→pairsOk (Region.before ops) tr=true→Bs E w→MRel E w st→LRel E w st a→
 (p=none→∀E' w' a',MRel E' w' fin→LRel E' w' fin a'→Up E w st.glob.toks E' w' fin.glob.toks→Q .normal a' w')→
 (∀x g,p=some (x,g)→∀E' w' a' u,Rep E' w' x u→GRel E' w' g→DRel E' w' st.defs st.pin a'→Up E w st.glob.toks E' w' g.toks→Q (.panic [{v:=u,recovered:=false}]) a' w')→
 wpAny P .any ops Q fuel listed a w
 |0,L,listed,n,st,E,w,a,tr,p,fin,hlen,hpw,hsz,hmem,hcl,hrun,hpo,hb,hm,hl,h1,h2=>by
  have hL:L=[]:=List.eq_nil_of_length_eq_zero hlen
  subst hL
  cases n with
  |zero=>cases hrun
  |succ n=>
   cases hrun
   refine⟨?_,h1 rfl E w a hm hl (Up.refl _ _ _)⟩
   refine List.eq_nil_iff_forall_not_mem.2 λj hj=>?_
   obtain⟨j1,o,ho,_⟩:=mem_ready.1 hj
   have:=(hmem j).2 ⟨(Array.getElem?_eq_some_iff.1 ho).1,j1⟩
   cases this
 |fuel+1,L,listed,n,st,E,w,a,tr,p,fin,hlen,hpw,hsz,hmem,hcl,hrun,hpo,hb,hm,hl,h1,h2=>by
  refine⟨λhnil=>?_,λi hi=>?_⟩
  ·exfalso
   cases L with
   |nil=>cases hlen
   |cons m L=>
    have hmm:=(hmem m).1 List.mem_cons_self
    have ho:ops[m]?=some ops[m]:=by simp[hmm.1]
    obtain⟨_,t2,_⟩:=textOk_spec hok ho
    have:m∈Region.ready .any ops listed:=mem_ready.2 ⟨hmm.2,_,ho,λe he hb=>by
     have hlt:=t2 e he hb
     have hsz':e.on<ops.size:=Nat.lt_trans hlt hmm.1
     refine getD_tf ?_ (by rw[hsz];exact hsz')
     cases hx:listed.getD e.on true with
     |true=>rfl
     |false=>
      have:=(hmem e.on).2 ⟨hsz',hx⟩
      rcases List.mem_cons.1 this with h|h
      ·omega
      ·have:=(List.pairwise_cons.1 hpw).1 _ h
       omega⟩
    rw[hnil] at this
    cases this
  ·obtain⟨i1,o,ho,hall⟩:=mem_ready.1 hi
   have hilt:=(Array.getElem?_eq_some_iff.1 ho).1
   have hiL:=(hmem i).2 ⟨hilt,i1⟩
   obtain⟨L1,L2,rfl⟩:=List.append_of_mem hiL
   obtain⟨c1,c2,c3⟩:=pairwise_cut hpw
   obtain⟨t1,t2,t3⟩:=textOk_spec hok ho
   have free:∀j,listed.getD j false=false→((Region.before ops).getD i 0).testBit j=false:=λj hj=>by
    cases hx:((Region.before ops).getD i 0).testBit j with
    |false=>rfl
    |true=>
     obtain⟨o',ho',e,he,hb,hor⟩:=before_spec hx
     rw[ho] at ho'
     cases ho'
     have hon:=hall e he hb
     rcases hor with rfl|hor
     ·rw[hon] at hj;cases hj
     ·rw[hcl _ hon j hor] at hj;cases hj
   have hL:∀j∈L1,((Region.before ops).getD i 0).testBit j=false∧∀oj oi,ops[j]?=some oj→ops[i]?=some oi→oj.apart ops oi=true:=λj hj=>by
    have hju:=((hmem j).1 (List.mem_append_left _ hj)).2
    have hf:=free j (getD_ft hju)
    refine⟨hf,λoj oi hoj hoi=>?_⟩
    rw[ho] at hoi
    cases hoi
    exact t3 j (c2 j hj) hf oj hoj
   obtain⟨oi,hoi,out,st2,hs,_,hpan,hval⟩:=front (λk o hk=>(textOk_spec hok hk).1) n L1 L2 st tr p hL hrun hpo
   rw[ho] at hoi
   cases hoi
   obtain⟨f1,f2⟩:=stepA_frame t1 hs
   refine wpOp_of ho (stepA_does hT hR hb hm hl hs ⟨λv hv E1 w1 a1 m1 l1 u1=>?_,λx hx E1 w1 u hu hg hd u1=>?_⟩)
   ·obtain⟨m,tr',r1,r2,_⟩:=hval v hv
    refine any_does hT hR hok fuel (L1++L2) (listed.setIfInBounds i true) m st2 E1 w1 a1 tr' p fin ?_ c1 (by simp[hsz]) ?_ ?_ r1 r2 (hR.base.up hb u1) m1 l1 ?_ ?_
    ·simp at hlen⊢;omega
    ·intro j
     by_cases hij:i=j
     ·subst hij
      refine⟨λh=>absurd h c3,λh=>?_⟩
      have hi2:i<listed.size:=by rw[hsz];exact hilt
      simp[hi2] at h
     ·rw[getD_set_ne true hij]
      rw[←hmem j]
      simp only[List.mem_append,List.mem_cons]
      constructor
      ·rintro (h|h)
       ·exact .inl h
       ·exact .inr (.inr h)
      ·rintro (h|h|h)
       ·exact .inl h
       ·exact absurd h.symm hij
       ·exact .inr h
    ·intro k hk j hj
     by_cases hik:i=k
     ·subst hik
      cases hx:listed.getD j false with
      |true=>exact getD_set_true hx
      |false=>rw[free j hx] at hj;cases hj
     ·rw[getD_set_ne false hik] at hk
      exact getD_set_true (hcl k hk j hj)
    ·exact λhp E' w' a' hm' hl' u'=>h1 hp E' w' a' hm' hl' (u1.trans u')
    ·intro x g hp E' w' a' u hu hg hd u'
     rw[f1,f2] at hd
     exact h2 x g hp E' w' a' u hu hg hd (u1.trans u')
   ·obtain⟨_,hp⟩:=hpan x hx
    rw[f1,f2] at hd
    exact h2 x st2.glob hp E1 w1 a u hu hg hd u1
theorem drew_up(E:Em)(w:World)(G:List (Nat×Nat))(n:Nat):Up E w G E {w with drawn:=n} G:=
 ⟨rfl,rfl,rfl,Nat.le_refl _,Nat.le_refl _,λ_ _=>rfl,λ_ _ h=>h,λ_ _ _=>rfl,λ_ _ h=>⟨rfl,h,λ_ h=>h⟩,λ_ _ n h=>⟨n,h,Nat.le_refl _,λ_=>rfl⟩,λ_ _ n h=>⟨n,h,Nat.le_refl _,λ_=>rfl⟩,λ_ _ h=>.inl h⟩
theorem MRel.drew{E:Em}{w:World}{st:St}(h:MRel E w st)(n:Nat):MRel E {w with drawn:=n} st:=by
 have keep:∀ow,Keep E w E {w with drawn:=n} ow:=λow b hb=>⟨rfl,hb,λ_=>Iff.rfl⟩
 exact h.step (drew_up E w _ n) (UpL.refl _ _ _) h.g.gk h.g.own_lt h.g.imm_lt h.g.ng (λi bx hb=>.inl ⟨hb,keep _⟩) (λi m n hb=>.inl ⟨hb,keep _,rfl⟩)
  (λk g bx hb=>.inl ⟨hb,keep _,rfl⟩) (λk g m n hb=>.inl ⟨hb,keep _,rfl⟩) h.g.own_g
theorem LRel.drew{E:Em}{w:World}{st:St}{a:Act}(h:LRel E w st a)(n:Nat):LRel E {w with drawn:=n} st a:=
 h.put (st':=st) (dst:=none) (v:=.undef) (x:=undef) (drew_up E w _ n) (UpL.refl _ _ _) rfl rfl rfl rfl (.undef _) rfl rfl
theorem drawn_does{Bs:Em→World→Prop}(hT:T.Ok P)(hR:Sound P Bs R)(hok:textOk ops (Region.before ops)=true){id n:Nat}{st:St}{E:Em}{w:World}{a:Act}{tr:List Tr}{p:Option (Dat×Glob)}{fin:St}
 (hrun:runD T R ops (Region.before ops) n (List.range ops.size) st=some (tr,p,fin)) (hpo:pairsOk (Region.before ops) tr=true) (hb:Bs E w) (hm:MRel E w st) (hl:LRel E w st a)
 (h1:p=none→∀E' w' a',MRel E' w' fin→LRel E' w' fin a'→Up E w st.glob.toks E' w' fin.glob.toks→Q .normal a' w')
 (h2:∀x g,p=some (x,g)→∀E' w' a' u,Rep E' w' x u→GRel E' w' g→DRel E' w' st.defs st.pin a'→Up E w st.glob.toks E' w' g.toks→Q (.panic [{v:=u,recovered:=false}]) a' w'):
 (Code.region id ops true).wp P Q a w:=by
 refine wp_region_any hT.mixed ?_
 have u0:=drew_up E w st.glob.toks (w.drawn+1)
 refine any_does hT hR hok ops.size (List.range ops.size) _ n st E _ a tr p fin (by simp) List.pairwise_lt_range (by simp) (λj=>?_) (λk hk j hj=>?_) hrun hpo (hR.base.up hb u0) (hm.drew _) (hl.drew _)
  (λhp E' w' a' hm' hl' u'=>h1 hp E' w' a' hm' hl' (u0.trans u')) (λx g hp E' w' a' u hu hg hd u'=>h2 x g hp E' w' a' u hu hg hd (u0.trans u'))
 ·rw[List.mem_range]
  refine⟨λh=>⟨h,by simp[h]⟩,λh=>h.1⟩
 ·by_cases h:k<ops.size
  ·simp[h] at hk
  ·simp[h] at hk
end
end Go.Proofs.YtiheejdkkjfenaaGreatDoor.Am
namespace Go.Proofs.YtiheejdkkjfenaaGreatDoor.Am
open Go
def Ex.out:Ex→Exit
 |.normal=>.normal
 |.exit i=>.exit i
 |.ret=>.ret
 |.panic _=>.ret
def Lands(Q:Exit→Act→World→Prop)(E:Em)(w:World)(st:St):Ex→St→Prop
 |.panic x,st'=>∀E' w' a' u,Rep E' w' x u→GRel E' w' st'.glob→DRel E' w' st'.defs st'.pin a'→Up E w st.glob.toks E' w' st'.glob.toks→Q (.panic [{v:=u,recovered:=false}]) a' w'
 |ex,st'=>∀E' w' a',MRel E' w' st'→LRel E' w' st' a'→Up E w st.glob.toks E' w' st'.glob.toks→Q ex.out a' w'
section
variable{P:Program}{T:Tb}{R:Caller}
theorem Lands.later{Q:Exit→Act→World→Prop}{E E1:Em}{w w1:World}{st st1 st':St}{ex:Ex}(h:Lands Q E w st ex st')(u:Up E w st.glob.toks E1 w1 st1.glob.toks):Lands Q E1 w1 st1 ex st':=by
 cases ex with
 |panic x=>exact λE' w' a' v hv hg hd u'=>h E' w' a' v hv hg hd (u.trans u')
 |normal=>exact λE' w' a' hm hl u'=>h E' w' a' hm hl (u.trans u')
 |exit i=>exact λE' w' a' hm hl u'=>h E' w' a' hm hl (u.trans u')
 |ret=>exact λE' w' a' hm hl u'=>h E' w' a' hm hl (u.trans u')
theorem exec_all{Bs:Em→World→Prop}(hT:T.Ok P)(hR:Sound P Bs R):∀(n:Nat),
 (∀(c:Code) (st st':St) (ex:Ex) (E:Em) (w:World) (a:Act) (Q:Exit→Act→World→Prop),exec T R n c st=some (ex,st')→Bs E w→MRel E w st→LRel E w st a→Lands Q E w st ex st'→c.wp P Q a w)∧
 (∀(c:Code) (st st':St) (ex:Ex) (E:Em) (w:World) (a:Act) (Q:Exit→Act→World→Prop),exec T R n (.loop c) st=some (ex,st')→Bs E w→MRel E w st→LRel E w st a→Lands Q E w st ex st'→Code.rounds P c Q n a w)
 |0=>⟨λc st st' ex E w a Q h=>(by cases h),λc st st' ex E w a Q h=>(by cases h)⟩
 |n+1=>by
  obtain⟨ih1,ih2⟩:=exec_all hT hR n
  have loop:∀(c:Code) (st st':St) (ex:Ex) (E:Em) (w:World) (a:Act) (Q:Exit→Act→World→Prop),exec T R (n+1) (.loop c) st=some (ex,st')→Bs E w→MRel E w st→LRel E w st a→Lands Q E w st ex st'→Code.rounds P c Q (n+1) a w:=by
   intro c st st' ex E w a Q h hb hm hl hq
   rw[rounds_succ]
   simp only[exec] at h
   split at h
   ·rename_i st1 h1
    exact ih1 c st st1 .normal E w a _ h1 hb hm hl (λE1 w1 a1 m1 l1 u1=>ih2 c st1 st' ex E1 w1 a1 Q h (hR.base.up hb u1) m1 l1 (hq.later u1))
   ·rename_i hne
    refine ih1 c st st' ex E w a _ h hb hm hl ?_
    cases ex with
    |normal=>exact absurd h (hne _)
    |panic x=>exact hq
    |exit i=>exact hq
    |ret=>exact hq
  refine⟨λc st st' ex E w a Q h hb hm hl hq=>?_,loop⟩
  cases c with
  |skip=>cases h;exact wp_skip (hq E w a hm hl (Up.refl _ _ _))
  |label l=>cases h;exact wp_label (hq E w a hm hl (Up.refl _ _ _))
  |exit id=>cases h;exact wp_exit (hq E w a hm hl (Up.refl _ _ _))
  |ret=>cases h;exact wp_ret (hq E w a hm hl (Up.refl _ _ _))
  |scope c=>
   simp only[exec] at h
   refine wp_scope_straight (ih1 c st st' ex E w a _ h hb hm hl ?_)
   cases ex<;>exact hq
  |loop c=>exact wp_loop_rounds (n+1) (loop c st st' ex E w a Q h hb hm hl hq)
  |block id c=>
   simp only[exec] at h
   refine wp_block ?_
   split at h
   ·rename_i i st1 h1
    split at h
    ·rename_i hi
     cases h
     refine ih1 c st _ _ E w a _ h1 hb hm hl (λE1 w1 a1 m1 l1 u1=>?_)
     simp only[Ex.out,Exit.inBlock,hi,if_true]
     exact hq E1 w1 a1 m1 l1 u1
    ·rename_i hi
     cases h
     refine ih1 c st _ _ E w a _ h1 hb hm hl (λE1 w1 a1 m1 l1 u1=>?_)
     simp only[Ex.out,Exit.inBlock,hi,if_false]
     exact hq E1 w1 a1 m1 l1 u1
   ·rename_i hne
    refine ih1 c st st' ex E w a _ h hb hm hl ?_
    cases ex with
    |exit i=>exact absurd h (hne _ _)
    |normal=>exact hq
    |panic x=>exact hq
    |ret=>exact hq
  |seq x y=>
   simp only[exec] at h
   refine wp_seq ?_
   split at h
   ·rename_i st1 h1
    exact ih1 x st st1 .normal E w a _ h1 hb hm hl (λE1 w1 a1 m1 l1 u1=>ih1 y st1 st' ex E1 w1 a1 Q h (hR.base.up hb u1) m1 l1 (hq.later u1))
   ·rename_i hne
    refine ih1 x st st' ex E w a _ h hb hm hl ?_
    cases ex with
    |normal=>exact absurd h (hne _)
    |panic x=>exact hq
    |exit i=>exact hq
    |ret=>exact hq
  |cond c x y=>
   simp only[exec] at h
   have hc:=ev_rep hl.regs c
   split at h
   ·rename_i h1
    rw[h1] at hc
    generalize hv:a.eval c=v at hc
    cases hc with
    |d _ _ hc=>
    cases hc
    exact wp_cond_true hv (ih1 x st st' ex E w a Q h hb hm hl hq)
   ·rename_i h1
    rw[h1] at hc
    generalize hv:a.eval c=v at hc
    cases hc with
    |d _ _ hc=>
    cases hc
    exact wp_cond_false hv (ih1 y st st' ex E w a Q h hb hm hl hq)
   ·cases h
  |region id ops draw=>
   simp only[exec] at h
   cases draw with
   |true=>
    simp only[if_true] at h
    split at h
    ·rename_i hok
     split at h
     ·rename_i tr p fin hrun
      split at h
      ·rename_i hpo
       refine drawn_does hT hR hok hrun hpo hb hm hl (λhp=>?_) (λx g hp=>?_)
       ·subst hp
        cases h
        exact hq
       ·subst hp
        cases h
        exact hq
      ·cases h
     ·cases h
    ·cases h
   |false=>
    simp only[Bool.false_eq_true,if_false] at h
    refine wp_region ?_
    have hlen:ops.size=ops.toList.length:=by simp
    split at h
    ·rename_i st1 h1
     cases h
     have:=regionA_does (Q:=Q) hT hR ops.toList 0 st E w a none _ rfl hb hm hl h1 (λ_=>hq) (λx hx=>by cases hx)
     rw[List.range_eq_range']
     simpa using this
    ·rename_i x st1 h1
     cases h
     have:=regionA_does (Q:=Q) hT hR ops.toList 0 st E w a (some x) _ rfl hb hm hl h1 (λhx=>by cases hx) (λx' hx=>by cases hx;exact hq)
     rw[List.range_eq_range']
     simpa using this
    ·cases h
  |_=>cases h
theorem exec_does{Bs:Em→World→Prop}(hT:T.Ok P)(hR:Sound P Bs R){n:Nat}{c:Code}{st st':St}{ex:Ex}{E:Em}{w:World}{a:Act}{Q:Exit→Act→World→Prop}(h:exec T R n c st=some (ex,st'))(hb:Bs E w)(hm:MRel E w st)(hl:LRel E w st a)
 (hq:Lands Q E w st ex st'):c.wp P Q a w:=(exec_all hT hR n).1 c st st' ex E w a Q h hb hm hl hq
end
end Go.Proofs.YtiheejdkkjfenaaGreatDoor.Am
namespace Go.Proofs.YtiheejdkkjfenaaGreatDoor.Am
open Go
section
variable{P:Program}{T:Tb}{R:Caller}{E E':Em}{w w':World}{st st':St}{a:Act}
def oneRes(tmps:Array Value):ResultVar→Sem Value
 |.tmp t=>pure (tmps.getD t undef)
 |.cell a t=>do loadVar t (←asAddr (tmps.getD a undef))
def outV:List Value→Value
 |[v]=>v
 |vs=>.tuple vs.toArray
theorem mapM_list{tmps:Array Value}:∀{rs:List ResultVar} {vs:List Value},Els (λr v=>(oneRes tmps r).run P w=.ok v w) rs vs→(rs.mapM (oneRes tmps)).run P w=.ok vs w
 |[],vs,h=>by
  have:vs=[]:=List.eq_nil_of_length_eq_zero h.1.symm
  subst this
  rfl
 |r::rs,vs,h=>by
  cases vs with
  |nil=>cases h.1
  |cons v vs=>
   obtain⟨h1,h2⟩:=h.tail
   rw[List.mapM_cons]
   simp only[Sem.run_bind,h1,Result.andThen_ok,mapM_list h2,Sem.run_pure]
theorem results_run{fn:Func}{tmps:Array Value}{vs:List Value}(h:Els (λr v=>(oneRes tmps r).run P w=.ok v w) fn.results.toList vs):(results fn tmps).run P w=.ok (outV vs) w:=by
 have e:results fn tmps=(do
  let vs←fn.results.mapM (oneRes tmps)
  pure (if h:vs.size=1 then vs[0] else .tuple vs)):=rfl
 rw[e]
 generalize hr:fn.results=rs at h
 obtain⟨l⟩:=rs
 rw[List.mapM_toArray]
 have:=mapM_list h
 simp only[Sem.run_bind,Sem.run_map,this,Result.andThen_ok,Sem.run_pure]
 match vs with
 |[]=>rfl
 |[v]=>rfl
 |v::v'::vs=>rfl
theorem resultOne_run(hT:T.Ok P)(hm:MRel E w st)(hl:LRel E w st a){r:ResultVar}{v:Val}(h:resultOne T st r=some v):∃u,(oneRes a.tmps r).run P w=.ok u w∧RepV E w st.tabs v u:=by
 cases r with
 |tmp t=>
  have h:st.regs.get t=some v:=h
  have:=hl.regs t
  rw[h] at this
  exact⟨_,rfl,this⟩
 |cell x t=>
  simp only[resultOne] at h
  have hx:=hl.regs x
  have fin:∀{b o:Nat} {u:Value},a.tmps.getD x undef=.pointer (some ⟨b,o,none⟩)→(Instr.loadAt t (.pointer (some ⟨b,o,none⟩))).run P w=.ok u w→(oneRes a.tmps (.cell x t)).run P w=.ok u w:=λh1 h2=>by
   simp only[oneRes,h1,asAddr,Sem.run_bind,Sem.run_pure,Result.andThen_ok]
   simpa[Instr.loadAt,Instr.sureAddr] using h2
  split at h
  ·rename_i k g o hg
   rw[hg] at hx
   simp only[Option.getD_some] at hx
   generalize hv:a.tmps.getD x undef=vx at hx
   cases hx with
   |loc _ _ _ _ hx=>
   obtain⟨b,g',bx,rfl,hb,hle,hbx⟩:=hx
   have hb:st.boxes.get k=some (g',bx):=hb
   rw[hb] at h
   cases bx with
   |iter s pos=>cases h
   |map es c=>cases h
   |cells cs=>
    simp only at h
    split at h
    ·rename_i e
     have hbb:=hbx e.symm
     subst hbb
     obtain⟨_,_,hat⟩:=hm.boxes k g' _ hb
     obtain⟨u,h1,h2⟩:=loadV_run (w:=w) (E:=E) (Tt:=st.tabs) (b:=E.bx k) (o:=o) hT h (λj c hc=>by
      rw[List.getElem?_drop] at hc
      exact CellsAt.cell hat _ c hc)
     exact⟨u,fin hv h1,h2⟩
    ·cases h
  ·rename_i i o hg
   rw[hg] at hx
   simp only[Option.getD_some] at hx
   generalize hv:a.tmps.getD x undef=vx at hx
   cases hx with
   |d _ _ hx=>
   cases hx with
   |ptr _ _ hi=>
   cases hb:st.glob.boxes[i]? with
   |none=>rw[hb] at h;cases h
   |some bx=>
    rw[hb] at h
    cases bx with
    |map es c=>cases h
    |cells cs=>
     obtain⟨_,_,hat⟩:=hm.g.boxes i _ hb
     obtain⟨u,h1,h2⟩:=loadV_run (w:=w) (E:=E) (Tt:=st.tabs) (b:=E.gb i) (o:=o) hT h (λj c hc=>by
      rw[List.map_drop,List.getElem?_drop] at hc
      obtain⟨e1,u,e2,e3⟩:=CellsAt.cell hat _ c hc
      exact⟨e1,u,e2,e3.ofG _ _⟩)
     exact⟨u,fin hv h1,h2⟩
  ·cases h
theorem outOne_rep{B:Nat}(hm:MRel E w st)(hB:∀b k,E.owner b=some (.tok k)→B≤b){uq:Bool}{v v':Val}{u:Value}(h:outOne st uq v=some v')(hv:RepV E w st.tabs v u):
 RepO1 E.glob w B v' u∧((∃x,v'=.d x)∨∃m xs,v'=.uq m xs):=by
 have flat:∀{x:Dat},v.toD=some x→v'=.d x→RepO1 E.glob w B v' u∧((∃x,v'=.d x)∨∃m xs,v'=.uq m xs):=λh1 h2=>by
  subst h2
  exact⟨Rep.same (E:=E) (E':=E.glob) rfl rfl ⟨rfl,rfl,rfl⟩ (hv.toD h1),.inl ⟨_,rfl⟩⟩
 have other:(v.toD.map Val.d)=some v'→RepO1 E.glob w B v' u∧((∃x,v'=.d x)∨∃m xs,v'=.uq m xs):=λh1=>by
  cases hd:v.toD with
  |none=>rw[hd] at h1;cases h1
  |some x=>rw[hd] at h1;cases h1;exact flat hd rfl
 cases v with
 |own k g m xs=>
  simp only[outOne] at h
  split at h
  ·rename_i hc
   cases h
   rw[Bool.and_eq_true] at hc
   obtain⟨_,hc⟩:=hc
   cases hv with
   |own _ _ _ _ _ hr hown=>
   obtain⟨g',r,k1,k2,k3⟩:=hown
   have k1:st.toks.get k=some (g',r):=k1
   unfold isOwn at hc
   rw[k1] at hc
   cases r with
   |none=>cases hc
   |some mn=>
    obtain⟨m',n⟩:=mn
    simp only[Bool.and_eq_true,beq_iff_eq] at hc
    obtain⟨⟨rfl,rfl⟩,rfl⟩:=hc
    have hu:=(k3 rfl _ _ rfl).2 rfl
    obtain⟨b,cap,cur,t,e1,e2,e3,e4,e5,e6,e7⟩:=hm.toks k g' m' xs.length k1
    refine⟨⟨Rep.same (E:=E) (E':=E.glob) rfl rfl ⟨rfl,rfl,rfl⟩ hr,b,cap,cur,t,by rw[hu,e1],e2,e3,e4,e5,hB b k e6,by simp[Em.glob,e6],e7⟩,.inr ⟨_,_,rfl⟩⟩
  ·cases h
   exact flat (x:=.sl m xs) rfl rfl
 |_=>exact other h
theorem outAll_rep{B:Nat}(hm:MRel E w st)(hB:∀b k,E.owner b=some (.tok k)→B≤b):∀{vs vs':List Val} {us:List Value} {uq:Bool},outAll st uq vs=some vs'→Els (RepV E w st.tabs) vs us→
 Els (RepO1 E.glob w B) vs' us∧∀v∈vs',(∃x,v=.d x)∨∃m xs,v=.uq m xs
 |[],vs',us,uq,h,hv=>by
  cases h
  have:us=[]:=List.eq_nil_of_length_eq_zero hv.1.symm
  subst this
  exact⟨⟨rfl,λj a b ha=>by simp at ha⟩,λv hv=>by cases hv⟩
 |v::vs,vs',us,uq,h,hv=>by
  cases us with
  |nil=>cases hv.1
  |cons u us=>
   obtain⟨h1,h2⟩:=hv.tail
   simp only[outAll] at h
   split at h
   ·rename_i v1 e1
    split at h
    ·rename_i r e2
     cases h
     obtain⟨i1,i2⟩:=outAll_rep hm hB e2 h2
     obtain⟨j1,j2⟩:=outOne_rep hm hB e1 h1
     exact⟨Els.cons j1 i1,λx hx=>by
      rcases List.mem_cons.1 hx with rfl|hx
      ·exact j2
      ·exact i2 x hx⟩
    ·cases h
   ·cases h
theorem RepO_outV{B:Nat}{vs:List Val}{us:List Value}(h:Els (RepO1 E w B) vs us)(hk:∀v∈vs,(∃x,v=.d x)∨∃m xs,v=.uq m xs){v:Val}(hv:(match vs with|[v]=>v|us=>.tuple us)=v):
 RepO E w B v (outV us):=by
 match vs,us,h with
 |[],[],h=>subst hv;exact⟨[],rfl,h⟩
 |[],_::_,h=>cases h.1
 |[v0],[],h=>cases h.1
 |[v0],[u],h=>
  have hv:v0=v:=hv
  subst hv
  have:=h.tail.1
  rcases hk v0 (by simp) with ⟨x,rfl⟩|⟨m,xs,rfl⟩<;>exact this
 |[v0],u::u'::us,h=>simp[Els] at h
 |v0::v1::vs,[],h=>cases h.1
 |v0::v1::vs,[u],h=>simp[Els] at h
 |v0::v1::vs,u::u'::us,h=>subst hv;exact⟨_,rfl,h⟩
theorem els_of_optAll{α β γ:Type}{R:α→γ→Prop}{f:α→Option β}{S:β→γ→Prop}{l:List α}{r:List β}(h:optAll (l.map f)=some r)(hf:∀a b,a∈l→f a=some b→∃c,R a c∧S b c):
 ∃cs:List γ,Els R l cs∧Els S r cs:=by
 induction l generalizing r with
 |nil=>cases h;exact⟨[],⟨rfl,λj a b ha=>by simp at ha⟩,⟨rfl,λj a b ha=>by simp at ha⟩⟩
 |cons a l ih=>
  simp only[List.map_cons] at h
  cases hb:f a with
  |none=>rw[hb] at h;cases h
  |some b=>
   rw[hb] at h
   simp only[optAll] at h
   split at h
   ·rename_i r' hr
    cases h
    obtain⟨c,c1,c2⟩:=hf a b List.mem_cons_self hb
    obtain⟨cs,d1,d2⟩:=ih hr (λa b ha=>hf a b (List.mem_cons_of_mem _ ha))
    exact⟨c::cs,Els.cons c1 d1,Els.cons c2 d2⟩
   ·cases h
theorem resultA_run(hT:T.Ok P)(hm:MRel E w st)(hl:LRel E w st a){B:Nat}(hB:∀b k,E.owner b=some (.tok k)→B≤b){fn:Func}{v:Val}(h:resultA T fn st=some v):
 ∃u,(results fn a.tmps).run P w=.ok u w∧RepO E.glob w B v u:=by
 unfold resultA at h
 split at h
 ·rename_i vs hvs
  obtain⟨us,h1,h2⟩:=els_of_optAll (R:=λr v=>(oneRes a.tmps r).run P w=.ok v w) (S:=RepV E w st.tabs) hvs (λr v hr hv=>resultOne_run hT hm hl hv)
  refine⟨_,results_run h1,?_⟩
  cases ho:outAll st true vs with
  |none=>rw[ho] at h;cases h
  |some vs'=>
   rw[ho] at h
   obtain⟨i1,i2⟩:=outAll_rep hm hB ho h2
   refine RepO_outV i1 i2 ?_
   match vs',h with
   |[],h=>cases h;rfl
   |[x],h=>cases h;rfl
   |x::y::l,h=>cases h;rfl
 ·cases h
theorem get_setRegs(t:Nat):∀(ds:List Dat) (i:Nat) (m:Mp Val),(entry.setRegs i ds m).get t=if i≤t then(match ds[t-i]? with|some d=>some (.d d)|none=>m.get t) else m.get t
 |[],i,m=>by simp[entry.setRegs]
 |d::ds,i,m=>by
  simp only[entry.setRegs]
  rw[get_setRegs t ds (i+1) _,Mp.get_set]
  by_cases h:i=t
  ·subst h
   have:¬i+1≤i:=by omega
   simp[this]
  ·by_cases h2:i≤t
   ·have h3:i+1≤t:=by omega
    have h4:t-i=(t-(i+1))+1:=by omega
    simp only[h,h2,h3,if_true,if_false,h4,List.getElem?_cons_succ]
   ·have h3:¬i+1≤t:=by omega
    simp only[h,h2,h3,if_false]
theorem entry_rel{f:FuncId}{fn:Func}{ds:List Dat}{vs:List Value}{g:Glob}(hg:GRel E w g)(hd:ReL E w ds vs):
 MRel E w (entry T f fn ds g)∧LRel E w (entry T f fn ds g) {tmps:=vs.toArray++Array.replicate (fn.ntmps-vs.toArray.size) undef,defers:=[]}:=by
 refine⟨⟨hg,λk g bx h=>?_,λk g m n h=>?_⟩,⟨?_,λt=>?_,λp hp=>(by cases hp),⟨rfl,λj d x hj=>by simp at hj⟩⟩⟩
 ·simp[entry,Mp.get_empty] at h
 ·simp[entry,Mp.get_empty] at h
 ·simp[entry,hd.1];omega
 ·simp only[entry]
  rw[get_setRegs]
  simp only[Nat.zero_le,if_true,Nat.sub_zero,Mp.get_empty,Array.getD_eq_getD_getElem?]
  cases h:ds[t]? with
  |none=>exact .undef _
  |some d=>
   have ht:t<vs.length:=by rw[←hd.1];exact(List.getElem?_eq_some_iff.1 h).1
   have:(vs.toArray++Array.replicate (fn.ntmps-vs.toArray.size) undef)[t]?=some vs[t]:=by
    rw[Array.getElem?_append_left (by simpa using ht)]
    simp[ht]
   rw[this]
   exact .d _ _ (hd.2 t d _ h (List.getElem?_eq_getElem ht))
theorem tok_fresh{w0:World}{G G':List (Nat×Nat)}{E0:Em}(ho:GlobOnly E0)(u:Up E0 w0 G E w G'):∀b k,E.owner b=some (.tok k)→w0.heap.size≤b:=λb k h=>by
 rcases u.tok b k h with h|h
 ·rcases ho b _ h with ⟨i,e⟩|⟨i,e⟩<;>cases e
 ·exact h
theorem Up.toGlob{G G':List (Nat×Nat)}(u:Up E w G E' w' G'):Up E w G E'.glob w' G':=
 ⟨u.os,u.tape,u.output,u.size,u.ng,u.gb,u.imm,u.cell,λb hb ho=>by
  obtain⟨a,c,d⟩:=u.alien b hb ho
  exact⟨a,by simp[Em.glob,c],d⟩,u.gtoks,u.gk,λb k h=>by
  rcases E'.glob_only b _ h with ⟨i,e⟩|⟨i,e⟩<;>cases e⟩
theorem DRel.glob{defs:List (FuncId×List Dat)}{pin:List (Nat×Nat×Nat)}(h:DRel E w defs pin a):DRel E.glob w defs pin a:=
 ⟨h.pins,⟨h.defs.1,λj d x hd hx=>by
  obtain⟨as,cs,h1,h2⟩:=h.defs.2 j d x hd hx
  exact⟨as,cs,h1,h2.1,λj d v hd hv=>Rep.same (E:=E) (E':=E.glob) rfl rfl ⟨rfl,rfl,rfl⟩ (h2.2 j d v hd hv)⟩⟩⟩
end
end Go.Proofs.YtiheejdkkjfenaaGreatDoor.Am
namespace Go.Proofs.YtiheejdkkjfenaaGreatDoor.Am
open Go
section
variable{P:Program}{T:Tb}{R:Caller}{E E':Em}{w w':World}{st st':St}{a:Act}
def ModeRep(E:Em)(w:World):Option Dat→FrameMode→Prop
 |none,u=>u=.returning
 |some x,u=>∃v,u=.panicking [{v:=v,recovered:=false}]∧Rep E w x v
def Pins(E:Em)(tmps:Array Value)(pin:List (Nat×Nat×Nat)):Prop:=∀p∈pin,p.2.1<E.ng∧tmps.getD p.1 undef=.pointer (some ⟨E.gb p.2.1,p.2.2,none⟩)
theorem ModeRep.run_ne{p:Option Dat}{u:FrameMode}(h:ModeRep E w p u):u≠.run:=by
 cases p with
 |none=>rw[show u=.returning from h];simp
 |some x=>obtain⟨v,rfl,_⟩:=h;simp
theorem ModeRep.settled{p:Option Dat}{u:FrameMode}(h:ModeRep E w p u):settle u=u:=by
 cases p with
 |none=>rw[show u=.returning from h];rfl
 |some x=>obtain⟨v,rfl,_⟩:=h;rfl
theorem ModeRep.up{G G':List (Nat×Nat)}(u:Up E w G E' w' G'){p:Option Dat}{m:FrameMode}(h:ModeRep E w p m):ModeRep E' w' p m:=by
 cases p with
 |none=>exact h
 |some x=>obtain⟨v,rfl,hr⟩:=h;exact⟨v,rfl,hr.up u⟩
theorem Pins.up{G G':List (Nat×Nat)}(u:Up E w G E' w' G'){tmps:Array Value}{pin:List (Nat×Nat×Nat)}(h:Pins E tmps pin):Pins E' tmps pin:=
 λp hp=>let ⟨h1,h2⟩:=h p hp;⟨Nat.lt_of_lt_of_le h1 u.ng,by rw[u.gb _ h1];exact h2⟩
def DPost(E:Em)(w:World)(g:Glob)(p':Option Dat)(g':Glob):Ending→FrameMode→World→Prop:=λe u' w'=>
 (∃v,e=.returned v)∧∃E',Up E w g.toks E' w' g'.toks∧GRel E' w' g'∧GlobOnly E'∧ModeRep E' w' p' (settle u')
theorem ended_spec{fn:Func}{r:Option (Ex×St)}{g':Glob}(h:ended T fn r=some g'):∃ex st',r=some (ex,st')∧(ex=.normal∨ex=.ret)∧st'.defs=[]∧(∃v,resultA T fn st'=some v)∧g'=st'.glob:=by
 unfold ended at h
 split at h
 ·split at h
  ·rename_i st' hc
   cases h
   rw[Bool.and_eq_true,List.isEmpty_iff,Option.isSome_iff_exists] at hc
   exact⟨_,_,rfl,.inl rfl,hc.1,hc.2,rfl⟩
  ·cases h
 ·split at h
  ·rename_i st' hc
   cases h
   rw[Bool.and_eq_true,List.isEmpty_iff,Option.isSome_iff_exists] at hc
   exact⟨_,_,rfl,.inr rfl,hc.1,hc.2,rfl⟩
  ·cases h
 ·cases h
theorem defs_nil{l:List Deferred}(h:DefsRep E w l []):l=[]:=List.eq_nil_of_length_eq_zero h.1
theorem lands_end{Q:Exit→Act→World→Prop}{ex:Ex}(he:ex=.normal∨ex=.ret)(h:∀e,(e=.normal∨e=.ret)→∀E' w' a',MRel E' w' st'→LRel E' w' st' a'→Up E w st.glob.toks E' w' st'.glob.toks→Q e a' w'):Lands Q E w st ex st':=by
 rcases he with rfl|rfl
 ·exact h .normal (.inl rfl)
 ·exact h .ret (.inr rfl)
theorem recovers_spec{c c':Code}{d:Nat}(h:recovers c=some (d,c')):∃id o ts,c=.seq (.region id ⟨[o]⟩ false) c'∧o.op=.call ⟨.builtin .recover,⟨[]⟩,ts⟩∧o.guard=none∧o.dst=some d:=by
 unfold recovers at h
 split at h
 ·split at h
  ·rename_i h1 h2 h3
   cases h
   exact⟨_,_,_,rfl,h1,h2,h3⟩
  ·cases h
 ·cases h
theorem runDef_does{Bs:Em→World→Prop}(hT:T.Ok P)(hR:Sound P Bs R){n:Nat}{f:FuncId}{ds:List Dat}{p p':Option Dat}{g g':Glob}(h:runDef T R n f ds p g=some (p',g')):
 Enters P f∧∀{E:Em} {w:World} {vs:List Value} {u:FrameMode},Bs E w→ReL E w ds vs→GRel E w g→GlobOnly E→ModeRep E w p u→CallsD P f vs.toArray u w (DPost E w g p' g'):=by
 unfold runDef at h
 split at h
 ·cases h
 ·rename_i fn hfn
  split at h
  ·cases h
  ·rename_i c hb
   refine⟨⟨fn,hT.fn f fn hfn,hT.name f fn hfn,by rw[hb];rfl⟩,λ{E w vs u} hb' hd hg ho hu=>?_⟩
   obtain⟨em,el⟩:=entry_rel (T:=T) (f:=f) (fn:=fn) hg hd
   split at h
   ·rename_i d c' hrec
    split at h
    ·rename_i hdn
     obtain⟨id,o,ts,rfl,o1,o2,o3⟩:=recovers_spec hrec
     simp only[Option.map_eq_some_iff] at h
     obtain⟨g1,hend,he⟩:=h
     cases he
     obtain⟨ex,st',hex,hk,hdf,⟨v,hv⟩,rfl⟩:=ended_spec hend
     refine callsD_of_wpS (hT.fn f fn hfn) hb (λc₀ cs hc₀=>wpS_seq (wpS_region ?_))
     have hwant:∀y,Region.wanted o y=true:=λy=>by unfold Region.wanted;rw[o2]
     have hrun:∀ρ,(execOp ρ o).run P w=.ok .recover w:=λρ=>by simp[execOp,o1,resolve,invoke,builtin]
     have e1:List.range (⟨[o]⟩:Array Oper).size=[0]:=rfl
     have e2:(⟨[o]⟩:Array Oper)[0]?=some o:=rfl
     rw[e1]
     simp only[wpOpsS,e2,hwant,if_true,hrun]
     have go:∀(x:Value) (cs':List Frame) (u':FrameMode),cs'={c₀ with mode:=u'}::cs→settle u'=.returning→Rep E w (p.getD .nilIface) x→
      (c'.wpS P (bodyPostS P fn c₀ cs (DPost E w g none st'.glob)) (Act.put {tmps:=vs.toArray++Array.replicate (fn.ntmps-vs.toArray.size) undef,defers:=[]} o.dst x) cs' w):=λx cs' u' hcs hset hx=>by
      refine wpS_of_wp ?_
      rw[o3]
      refine exec_does hT hR hex hb' (em.put _ _) (el.put (st':=entry T f fn ds g) (Up.refl _ _ _) (UpL.refl _ _ _) rfl rfl rfl rfl (.d _ _ hx) (by simpa[dstOk] using hdn) rfl) (lands_end hk λe he E1 w1 a1 m1 l1 u1=>?_)
      obtain⟨res,r1,_⟩:=resultA_run hT m1 l1 (B:=0) (λ_ _ _=>Nat.zero_le _) hv
      have hdn:a1.defers=[]:=by have:=l1.defs;rw[hdf] at this;exact defs_nil this
      have fin:a1.defers=[]∧∃u',cs'={c₀ with mode:=u'}::cs∧∃v,(results fn a1.tmps).run P w1=.ok v w1∧DPost E w g none st'.glob (.returned v) u' w1:=
       ⟨hdn,u',hcs,res,r1,⟨_,rfl⟩,E1.glob,u1.toGlob,m1.g.glob,E1.glob_only,hset⟩
      rcases he with rfl|rfl<;>exact fin
     cases p with
     |none=>
      have hmode:c₀.mode=.returning:=by rw[hc₀];exact hu
      have:recoverD (c₀::cs)=none:=by simp[recoverD,hmode]
      rw[this]
      exact go .nilIface (c₀::cs) .returning (by rw[←hmode]) rfl .nilIface
     |some x=>
      obtain⟨v',hu',hr⟩:=hu
      have:recoverD (c₀::cs)=some (v',{c₀ with mode:=.panicking ({v:=v',recovered:=true}::[])}::cs):=by
       simp only[recoverD]
       rw[hc₀,hu']
      rw[this]
      exact go v' _ _ rfl rfl hr
    ·cases h
   ·simp only[Option.map_eq_some_iff] at h
    obtain⟨g1,hend,he⟩:=h
    cases he
    obtain⟨ex,st',hex,hk,hdf,⟨v,hv⟩,rfl⟩:=ended_spec hend
    refine(callsD_of_wp (u:=u) (R:=λe w'=>(∃v,e=.returned v)∧∃E',Up E w g.toks E' w' st'.glob.toks∧GRel E' w' st'.glob∧GlobOnly E') (hT.fn f fn hfn) hb ?_).mono ?_
    ·refine exec_does hT hR hex hb' em el (lands_end hk λe he E1 w1 a1 m1 l1 u1=>?_)
     obtain⟨res,r1,_⟩:=resultA_run hT m1 l1 (B:=0) (λ_ _ _=>Nat.zero_le _) hv
     have hdn:a1.defers=[]:=by have:=l1.defs;rw[hdf] at this;exact defs_nil this
     have fin:a1.defers=[]∧∃v,(results fn a1.tmps).run P w1=.ok v w1∧((∃v',Ending.returned v=.returned v')∧∃E',Up E w g.toks E' w1 st'.glob.toks∧GRel E' w1 st'.glob∧GlobOnly E'):=
      ⟨hdn,res,r1,⟨_,rfl⟩,E1.glob,u1.toGlob,m1.g.glob,E1.glob_only⟩
     rcases he with rfl|rfl<;>exact fin
    ·rintro e u' w' ⟨rfl,h1,E1,h2,h3,h4⟩
     exact⟨h1,E1,h2,h3,h4,by rw[hu.settled];exact hu.up h2⟩
theorem leave_does{Bs:Em→World→Prop}(hT:T.Ok P)(hR:Sound P Bs R){n:Nat}{fn:Func}{tmps:Array Value}{pin:List (Nat×Nat×Nat)}{Rr:Ending→World→Prop}{p':Option Dat}{g':Glob}:
 ∀(ds:List (FuncId×List Dat)) (dl:List Deferred) (p:Option Dat) (g:Glob) (E:Em) (w:World) (u:FrameMode),leaveA (runDef T R n) ds p g=some (p',g')→Bs E w→DefsRep E w dl ds→Pins E tmps pin→GRel E w g→GlobOnly E→ModeRep E w p u→
 (∀E' w' u',Up E w g.toks E' w' g'.toks→GRel E' w' g'→GlobOnly E'→Pins E' tmps pin→ModeRep E' w' p' u'→Leaves P fn tmps Rr [] u' w')→Leaves P fn tmps Rr dl u w
 |[],dl,p,g,E,w,u,h,hb,hd,hp,hg,ho,hu,fin=>by
  cases h
  rw[defs_nil hd]
  exact fin E w u (Up.refl _ _ _) hg ho hp hu
 |(f,ds0)::ds,dl,p,g,E,w,u,h,hb,hd,hp,hg,ho,hu,fin=>by
  cases dl with
  |nil=>cases hd.1
  |cons d dl=>
   simp only[leaveA] at h
   split at h
   ·rename_i p1 g1 h1
    obtain⟨as,cs,rfl,hr⟩:=hd.2 0 d (f,ds0) rfl rfl
    obtain⟨⟨gf,q1,q2,q3⟩,hc⟩:=runDef_does hT hR h1
    have hinv:(invoke (.fn (.func f) cs.toArray) as.toArray).run P w=.ok (.enter f (as++cs).toArray) w:=by
     have q2':¬gf.name= "runtime.NumGoroutine" :=by simpa using q2
     have q3':¬gf.body=none:=by intro h;simp[h] at q3
     simp[invoke,callFunc,q1,q2',q3']
    refine leaves_cons hu.run_ne hinv ((hc hb hr hg ho hu).mono ?_)
    rintro e u' w' ⟨⟨v,rfl⟩,E1,h2,h3,h4,h5⟩
    refine leave_does hT hR ds dl p1 g1 E1 w' _ h (hR.base.up hb h2) ?_ (hp.up h2) h3 h4 h5 (λE' w'' u'' k1 k2 k3 k4 k5=>fin E' w'' u'' (h2.trans k1) k2 k3 k4 k5)
    refine DefsRep.up h2 ⟨by simpa using hd.1,λj d x hdj hxj=>hd.2 (j+1) d x (by simpa using hdj) (by simpa using hxj)⟩
   ·cases h
theorem lookup_mem{t:Nat}{q:Nat×Nat}:∀{l:List (Nat×Nat×Nat)},l.lookup t=some q→(t,q)∈l
 |[],h=>by cases h
 |(k,v)::l,h=>by
  rw[List.lookup_cons] at h
  split at h
  ·rename_i hk
   cases h
   have:t=k:=by simpa using hk
   subst this
   exact List.mem_cons_self
  ·exact List.mem_cons_of_mem _ (lookup_mem h)
theorem pinned_run(hT:T.Ok P){g:Glob}(hg:GRel E w g){tmps:Array Value}{pin:List (Nat×Nat×Nat)}(hp:Pins E tmps pin){r:ResultVar}{v:Val}(h:pinned T pin g r=some v):
 ∃u,(oneRes tmps r).run P w=.ok u w∧RepV E w ⟨⟨[]⟩,⟨[]⟩,g.toks⟩ v u:=by
 cases r with
 |tmp t=>cases h
 |cell t ty=>
  simp only[pinned] at h
  split at h
  ·rename_i i o hlk
   obtain⟨_,hv⟩:=hp _ (lookup_mem hlk)
   cases hb:g.boxes[i]? with
   |none=>rw[hb] at h;cases h
   |some bx=>
    rw[hb] at h
    cases bx with
    |map es c=>cases h
    |cells cs=>
     obtain⟨_,_,hat⟩:=hg.boxes i _ hb
     obtain⟨u,h1,h2⟩:=loadV_run (w:=w) (E:=E) (Tt:=⟨⟨[]⟩,⟨[]⟩,g.toks⟩) (b:=E.gb i) (o:=o) hT h (λj c hc=>by
      rw[List.map_drop,List.getElem?_drop] at hc
      exact CellsAt.cell hat _ c hc)
     refine⟨u,?_,h2⟩
     have hv:tmps.getD t undef=.pointer (some ⟨E.gb i,o,none⟩):=hv
     simp only[oneRes,hv,asAddr,Sem.run_bind,Sem.run_pure,Result.andThen_ok]
     simpa[Instr.loadAt,Instr.sureAddr] using h1
  ·cases h
theorem pinnedAll_run(hT:T.Ok P){g:Glob}(hg:GRel E w g){fn:Func}{tmps:Array Value}{pin:List (Nat×Nat×Nat)}(hp:Pins E tmps pin){B:Nat}{v:Val}(h:pinnedAll T fn pin g=some v):
 ∃u,(results fn tmps).run P w=.ok u w∧RepO E w B v u:=by
 unfold pinnedAll at h
 split at h
 ·rename_i vs hvs
  obtain⟨us,h1,h2⟩:=els_of_optAll (R:=λr v=>(oneRes tmps r).run P w=.ok v w) (S:=RepV E w ⟨⟨[]⟩,⟨[]⟩,g.toks⟩) hvs (λr v hr hv=>pinned_run hT hg hp hv)
  refine⟨_,results_run h1,?_⟩
  cases ho:optAll (vs.map λv=>v.toD.map Val.d) with
  |none=>rw[ho] at h;cases h
  |some vs'=>
   rw[ho] at h
   obtain⟨hl,hgt⟩:=optAll_get ho
   have key:∀(j:Nat) x y,vs[j]?=some x→vs'[j]?=some y→∃d,x.toD=some d∧y=.d d:=λj x y hx hy=>by
    have:=hgt j x y hx hy
    rw[Option.map_eq_some_iff] at this
    obtain⟨d,h1,h2⟩:=this
    exact⟨d,h1,h2.symm⟩
   have i1:Els (RepO1 E w B) vs' us:=⟨hl.symm.trans h2.1,λj y u hy hu=>by
    have hj:j<vs.length:=by rw[hl];exact(List.getElem?_eq_some_iff.1 hy).1
    obtain⟨d,d1,rfl⟩:=key j _ y (List.getElem?_eq_getElem hj) hy
    exact(h2.2 j _ u (List.getElem?_eq_getElem hj) hu).toD d1⟩
   refine RepO_outV i1 (λy hy=>?_) ?_
   ·obtain⟨j,hj⟩:=List.mem_iff_getElem?.1 hy
    have hj':j<vs.length:=by rw[hl];exact(List.getElem?_eq_some_iff.1 hj).1
    obtain⟨d,_,rfl⟩:=key j _ y (List.getElem?_eq_getElem hj') hj
    exact .inl ⟨d,rfl⟩
   ·match vs',h with
    |[],h=>cases h;rfl
    |[x],h=>cases h;rfl
    |x::y::l,h=>cases h;rfl
 ·cases h
def ExtOk(P:Program)(Bs:Em→World→Prop)(T:Tb):Prop:=
 ∀f s,T.ext f=some s→∀ds g out g',s ds g=some (out,g')→Enters P f∧∀E w vs,Bs E w→GRel E w g→GlobOnly E→ReL E w ds vs→Calls P f vs.toArray w (Post E w g out g')
theorem run_sound{Bs:Em→World→Prop}(hB:BaseOk Bs)(hT:T.Ok P)(hx:ExtOk P Bs T):∀n,Sound P Bs (run T n)
 |0=>⟨hB,λf ds g out g' h=>by cases h⟩
 |n+1=>⟨hB,λf ds g out g' h=>by
  have ih:=run_sound hB hT hx n
  simp only[run] at h
  split at h
  ·rename_i s hs
   exact hx f s hs ds g out g' h
  ·split at h
   ·cases h
   ·rename_i fn hfn
    split at h
    ·cases h
    ·rename_i c hb
     refine⟨⟨fn,hT.fn f fn hfn,hT.name f fn hfn,by rw[hb];rfl⟩,λE w vs hb' hg ho hd=>?_⟩
     obtain⟨em,el⟩:=entry_rel (T:=T) (f:=f) (fn:=fn) hg hd
     refine calls_of_wp_defers (hT.fn f fn hfn) hb ?_
     -- a panic,or a result,behind deferred calls
     have behind:∀(p p':Option Dat) (st':St) (gl:Glob),leaveA (runDef T (run T n) n) st'.defs p st'.glob=some (p',gl)→gl=g'→
      (∀E' w',GRel E' w' g'→GlobOnly E'→∀(a':Act),Pins E' a'.tmps st'.pin→Up E w g.toks E' w' g'.toks→∀u',ModeRep E' w' p' u'→Leaves P fn a'.tmps (Post E w g out g') [] u' w')→
      ∀E1 w1 a1 u,GRel E1 w1 st'.glob→DRel E1 w1 st'.defs st'.pin a1→Up E w g.toks E1 w1 st'.glob.toks→ModeRep E1 w1 p u→Leaves P fn a1.tmps (Post E w g out g') a1.defers u w1:=λp p' st' gl hlv hgl fin E1 w1 a1 u hg1 hd1 u1 hu=>by
      subst hgl
      have hd2:=hd1.glob
      have hu':ModeRep E1.glob w1 p u:=by
       cases p with
       |none=>exact hu
       |some x=>obtain⟨v,rfl,hr⟩:=hu;exact⟨v,rfl,Rep.same (E:=E1) (E':=E1.glob) rfl rfl ⟨rfl,rfl,rfl⟩ hr⟩
      exact leave_does hT ih st'.defs a1.defers p st'.glob E1.glob w1 u hlv (hB.glob (hB.up hb' u1)) hd2.defs hd2.pins hg1.glob E1.glob_only hu' (λE' w' u' k1 k2 k3 k4 k5=>fin E' w' k2 k3 a1 k4 (u1.toGlob.trans k1) u' k5)
     have plainEnd:∀st',st'.defs=[]→resultA T fn st'=some (match out with|.val v=>v|.panic _=>.undef)→(∃v,out=.val v)→g'=st'.glob→
       ∀E1 w1 a1,MRel E1 w1 st'→LRel E1 w1 st' a1→Up E w g.toks E1 w1 st'.glob.toks→Leaves P fn a1.tmps (Post E w g out g') a1.defers .returning w1:=λst' hdf hres ⟨v,hout⟩ hgl E1 w1 a1 m1 l1 u1=>by
      subst hout hgl
      have hdn:a1.defers=[]:=by have:=l1.defs;rw[hdf] at this;exact defs_nil this
      rw[hdn]
      obtain⟨u,r1,r2⟩:=resultA_run hT m1 l1 (tok_fresh ho u1) hres
      exact⟨u,r1,E1.glob,u1.toGlob,m1.g.glob,E1.glob_only,u,rfl,r2⟩
     have ending:∀st',(match st'.defs with
       |[]=>(match resultA T fn st' with
        |some v=>some (Out.val v,st'.glob)
        |none=>none)
       |ds=>(match leaveA (runDef T (run T n) n) ds none st'.glob with
        |some (none,g)=>(pinnedAll T fn st'.pin g).map λv=>(Out.val v,g)
        |_=>none))=some (out,g')→
       ∀E1 w1 a1,MRel E1 w1 st'→LRel E1 w1 st' a1→Up E w g.toks E1 w1 st'.glob.toks→Leaves P fn a1.tmps (Post E w g out g') a1.defers .returning w1:=λst' h E1 w1 a1 m1 l1 u1=>by
      split at h
      ·rename_i hdf
       split at h
       ·rename_i v hres
        cases h
        exact plainEnd st' hdf hres ⟨_,rfl⟩ rfl E1 w1 a1 m1 l1 u1
       ·cases h
      ·split at h
       ·rename_i gl hlv
        rw[Option.map_eq_some_iff] at h
        obtain⟨v,hpin,he⟩:=h
        cases he
        refine behind none none st' _ hlv rfl (λE' w' hg' ho' a' hp' u' m hm'=>?_) E1 w1 a1 .returning m1.g l1.drel u1 rfl
        rw[show m=.returning from hm']
        obtain⟨u,r1,r2⟩:=pinnedAll_run hT hg' hp' hpin
        exact⟨u,r1,E',u',hg',ho',u,rfl,r2⟩
       ·cases h
     unfold finish at h
     split at h
     ·rename_i st' hex
      exact exec_does hT ih hex hb' em el (λE1 w1 a1 m1 l1 u1=>ending st' h E1 w1 a1 m1 l1 u1)
     ·rename_i st' hex
      exact exec_does hT ih hex hb' em el (λE1 w1 a1 m1 l1 u1=>ending st' h E1 w1 a1 m1 l1 u1)
     ·rename_i x st' hex
      refine exec_does hT ih hex hb' em el (λE1 w1 a1 u hu hg1 hd1 u1=>?_)
      show Leaves P fn a1.tmps (Post E w g out g') a1.defers (.panicking [{v:=u,recovered:=false}]) w1
      split at h
      ·rename_i hdf
       cases h
       rw[hdf] at hd1
       rw[defs_nil hd1.defs]
       exact⟨E1.glob,u1.toGlob,hg1.glob,E1.glob_only,u,rfl,Rep.same (E:=E1) (E':=E1.glob) rfl rfl ⟨rfl,rfl,rfl⟩ hu⟩
      ·split at h
       ·rename_i gl hlv
        rw[Option.map_eq_some_iff] at h
        obtain⟨v,hpin,he⟩:=h
        cases he
        refine behind (some x) none st' _ hlv rfl (λE' w' hg' ho' a' hp' u' m hm'=>?_) E1 w1 a1 _ hg1 hd1 u1 ⟨u,rfl,hu⟩
        rw[show m=.returning from hm']
        obtain⟨u,r1,r2⟩:=pinnedAll_run hT hg' hp' hpin
        exact⟨u,r1,E',u',hg',ho',u,rfl,r2⟩
       ·rename_i y gl hlv
        cases h
        refine behind (some x) (some y) st' _ hlv rfl (λE' w' hg' ho' a' hp' u' m hm'=>?_) E1 w1 a1 _ hg1 hd1 u1 ⟨u,rfl,hu⟩
        obtain⟨v,rfl,hr⟩:=hm'
        exact⟨E',u',hg',ho',v,rfl,hr⟩
       ·cases h
     ·cases h⟩
end
end Go.Proofs.YtiheejdkkjfenaaGreatDoor.Am
namespace Go.Proofs.YtiheejdkkjfenaaGreatDoor.Am
open Go Go.RowKit
def methOf(P:Program)(t:TypeId)(m:String):Option FuncId:=
 match P.info? t with
 |some i=>(match i.methods.find? (·.name==m) with
  |some r=>(match r.path.toList,r.func,P.underlying t with
   |[],some (f,true),some (.pointer _)=>some f
   |[],some (f,false),some d=>if isP (some d) then none else some f
   |_,_,_=>none)
  |none=>none)
 |none=>none
theorem methOf_run{P:Program}{t:TypeId}{m:String}{f:FuncId}(h:methOf P t m=some f)(v:Value)(w:World):(Go.method (P.types.size+Made.depth) t v m).run P w=.ok (f,v) w:=by
 unfold methOf at h
 split at h
 ·rename_i i hi
  split at h
  ·rename_i r hr
   have h0:0<Made.depth:=by decide
   obtain⟨n,hn⟩:∃n,P.types.size+Made.depth=n+1:=⟨P.types.size+Made.depth-1,by omega⟩
   rw[hn]
   unfold Go.method
   have ht:(typeInfo t).run P w=.ok i w:=by simp[typeInfo,hi]
   split at h
   ·rename_i f' e hp hf hu
    cases h
    simp only[Sem.run_bind,ht,Result.andThen_ok,hr,hp,follow,Sem.run_pure,hf,receiverAt,run_underlying hu w,Place.get]
   ·rename_i f' d hp hf hu
    split at h
    ·cases h
    ·rename_i hd
     cases h
     have h2:∀(nm:Option String),(receiverAt t (.val v) false nm).run P w=.ok v w:=λnm=>by
      simp only[receiverAt,Sem.run_bind,run_underlying hu w,Result.andThen_ok]
      cases d<;>first|exact absurd rfl hd|rfl
     simp only[Sem.run_bind,ht,Result.andThen_ok,hr,hp,follow,Sem.run_pure,hf,h2]
   ·cases h
  ·cases h
 ·cases h
def tbOf(P:Program)(plains:List TypeId)(esc:FuncId→List Nat):Tb:=
 {und:=P.underlying,zero:=λt=>(P.info? t).bind λi=>i.zero.bind ofV,size:=λt=>(P.info? t).map (·.size),bytes:=λt=>(P.info? t).map (·.bytes),
  plain:=λt=>plains.contains t,fn:=λf=>P.funcs[f]?,esc:=esc,ext:=λ_=>none,meth:=methOf P}
def plainsOk(P:Program)(plains:List TypeId):Bool:=plains.all λt=>!(P.stoodInHeld t)&&!(P.eqGuardType P.depth t)
def namesOk(P:Program):Bool:=P.funcs.toList.all λfn=>!(fn.name== "runtime.NumGoroutine")
theorem tbOf_ok{P:Program}{plains:List TypeId}{esc:FuncId→List Nat}(h1:plainsOk P plains=true)(h2:namesOk P=true)(h3:P.follows .mixedOrders=true):(tbOf P plains esc).Ok P where
 und t d h:=h
 zero t z h:=by
  simp only[tbOf,Option.bind_eq_some_iff] at h
  obtain⟨i,h1,zv,h2,h3⟩:=h
  exact⟨i,zv,h1,h2,λE w=>ofV_rep h3⟩
 size t n h:=by
  simp only[tbOf,Option.map_eq_some_iff] at h
  exact h
 bytes t n h:=by
  simp only[tbOf,Option.map_eq_some_iff] at h
  exact h
 plain t h:=by
  simp only[tbOf,List.contains_iff_mem] at h
  have:=(List.all_eq_true.1 h1) t h
  simpa using this
 fn f fn h:=h
 name f fn h:=by
  have hm:fn∈P.funcs.toList:=by simpa using Array.mem_of_getElem? h
  have:=(List.all_eq_true.1 h2) fn hm
  simpa using this
 mixed:=h3
 meth t m f h v w:=methOf_run h v w
def startE(n:Nat):Em:={owner:=λ_=>none,imm:=λb _=>b<n,gk:=λ_=>none,ng:=0,gb:=λ_=>0,gt:=λ_=>undef,bx:=λ_=>0,tk:=λ_=>undef}
theorem start_rel(w:World):GRel (startE w.heap.size) w ⟨[],[]⟩ where
 own_lt b ow h:=by cases h
 own_g b i h:=by cases h
 gk i:=by simp[startE]
 imm_lt b o h:=h
 ng:=rfl
 boxes i bx h:=by simp at h
 toks i m n h:=by simp at h
theorem start_only(n:Nat):GlobOnly (startE n):=λb ow h=>by cases h
theorem start_below{w w':World}{E':Em}{G G':List (Nat×Nat)}(u:Up (startE w.heap.size) w G E' w' G'):Below w.heap.size w w':=
 ⟨u.os,u.tape,u.output,u.size,λk hk=>(u.alien k hk rfl).1⟩
theorem base_true:BaseOk (λ_ _=>True):=⟨λ_ _=>trivial,λ_=>trivial⟩
def Based(w0:World)(E:Em)(w:World):Prop:=Below w0.heap.size w0 w∧∀b,b<w0.heap.size→E.owner b=none
theorem based_ok(w0:World):BaseOk (Based w0) where
 up {E w G E' w' G'} h u:=by
  obtain⟨hb,ho⟩:=h
  have key:∀b,b<w0.heap.size→w'.heap[b]?=w.heap[b]?∧E'.owner b=none:=λb hlt=>by
   have:=u.alien b (Nat.lt_of_lt_of_le hlt hb.size) (ho b hlt)
   exact⟨this.1,this.2.1⟩
  exact⟨⟨u.os.trans hb.os,u.tape.trans hb.tape,u.output.trans hb.output,Nat.le_trans hb.size u.size,λb hlt=>(key b hlt).1.trans (hb.block b hlt)⟩,λb hlt=>(key b hlt).2⟩
 glob {E w} h:=⟨h.1,λb hlt=>by
  have:=h.2 b hlt
  simp only[Em.glob,this]⟩
theorem start_calls{P:Program}{T:Tb}{Bs:Em→World→Prop}(hB:BaseOk Bs)(hT:T.Ok P)(hx:ExtOk P Bs T){n:Nat}{f:FuncId}{ds:List Dat}{out:Out}{g':Glob}(h:run T n f ds ⟨[],[]⟩=some (out,g')){w:World}(hbs:Bs (startE w.heap.size) w){vs:List Value}(hd:ReL (startE w.heap.size) w ds vs):
 Calls P f vs.toArray w λe w'=>Below w.heap.size w w'∧∃E',Up (startE w.heap.size) w [] E' w' g'.toks∧OutRep E' w' w.heap.size out e:=
 (((run_sound hB hT hx n).calls f ds ⟨[],[]⟩ out g' h).2 _ w vs hbs (start_rel w) (start_only _) hd).mono λe w' ⟨E',u,_,_,ho⟩=>⟨start_below u,E',u,ho⟩
def isTrue:Option (Out×Glob)→Bool
 |some (.val (.d (.bool true)),_)=>true
 |_=>false
theorem isTrue_spec{r:Option (Out×Glob)}(h:isTrue r=true):∃g,r=some (.val (.d (.bool true)),g):=by
 unfold isTrue at h
 split at h
 ·exact⟨_,rfl⟩
 ·cases h
theorem start_true{P:Program}{T:Tb}(hT:T.Ok P)(hx:ExtOk P (λ_ _=>True) T){n:Nat}{f:FuncId}(h:isTrue (run T n f [] ⟨[],[]⟩)=true)(w:World):
 Calls P f #[] w λe w'=>e=.returned (.bool true)∧Below w.heap.size w w':=by
 obtain⟨g,h⟩:=isTrue_spec h
 refine(start_calls base_true hT hx h (w:=w) trivial (vs:=[]) ⟨rfl,λj d v h=>by simp at h⟩).mono λe w' ⟨hb,E',u,ho⟩=>⟨?_,hb⟩
 obtain⟨v,rfl,hv⟩:=ho
 cases hv
 rfl
end Go.Proofs.YtiheejdkkjfenaaGreatDoor.Am
namespace Go.Proofs.YtiheejdkkjfenaaGreatDoor.Am
open Go
variable(T:Tb)
def EvX(c:Code)(st:St)(Q:Ex→St→Prop):Prop:=∃ex st',Q ex st'∧∃n,∀m,n≤m→∀k,n≤k→exec T (run T m) k c st=some (ex,st')
def EvO(ops:Array Oper)(l:List Oper)(st:St)(K:Option Dat→St→Prop):Prop:=∃p st',K p st'∧∃n,∀m,n≤m→regionA T (run T m) ops l st=some (p,st')
def EvF(f:FuncId)(ds:List Dat)(g:Glob)(Q:OGP):Prop:=∃out g',Q out g'∧∃n,∀m,n≤m→run T m f ds g=some (out,g')
variable{T}{ops:Array Oper}{l:List Oper}{o:Oper}{st st':St}{Q Q':Ex→St→Prop}{K K':Option Dat→St→Prop}{a b c:Code}{f:FuncId}{ds:List Dat}{g:Glob}
theorem EvF.mono{Q Q':Out→Glob→Prop}(h:EvF T f ds g Q)(hq:∀out g',Q out g'→Q' out g'):EvF T f ds g Q':=let ⟨ex,st',q,r⟩:=h;⟨ex,st',hq _ _ q,r⟩
def SeqK(T:Tb)(b:Code)(Q:Ex→St→Prop):Ex→St→Prop
 |.normal,st=>EvX T b st Q
 |ex,st=>Q ex st
theorem EvX.seq(h:EvX T a st (SeqK T b Q)):EvX T (.seq a b) st Q:=by
 obtain⟨ex,st1,hq,n,h⟩:=h
 cases ex with
 |normal=>
  obtain⟨ex2,st2,hq2,n2,h2⟩:=hq
  refine⟨ex2,st2,hq2,n+n2+1,λm hm k hk=>?_⟩
  obtain⟨k,rfl⟩:∃k',k=k'+1:=⟨k-1,by omega⟩
  simp only[exec,h m (by omega) k (by omega),h2 m (by omega) k (by omega)]
 |_=>
  refine⟨_,st1,hq,n+1,λm hm k hk=>?_⟩
  obtain⟨k,rfl⟩:∃k',k=k'+1:=⟨k-1,by omega⟩
  simp only[exec,h m (by omega) k (by omega)]
def LoopK(T:Tb)(c:Code)(Q:Ex→St→Prop):Ex→St→Prop
 |.normal,st=>EvX T (.loop c) st Q
 |ex,st=>Q ex st
theorem EvX.loop(h:EvX T a st (LoopK T a Q)):EvX T (.loop a) st Q:=by
 obtain⟨ex,st1,hq,n,h⟩:=h
 cases ex with
 |normal=>
  obtain⟨ex2,st2,hq2,n2,h2⟩:=hq
  refine⟨ex2,st2,hq2,n+n2+1,λm hm k hk=>?_⟩
  obtain⟨k,rfl⟩:∃k',k=k'+1:=⟨k-1,by omega⟩
  simp only[exec,h m (by omega) k (by omega),h2 m (by omega) k (by omega)]
 |_=>
  refine⟨_,st1,hq,n+1,λm hm k hk=>?_⟩
  obtain⟨k,rfl⟩:∃k',k=k'+1:=⟨k-1,by omega⟩
  simp only[exec,h m (by omega) k (by omega)]
def BlockK(id:Nat)(Q:Ex→St→Prop):Ex→St→Prop
 |.exit i,st=>if i=id then Q .normal st else Q (.exit i) st
 |ex,st=>Q ex st
theorem EvX.block{id:Nat}(h:EvX T a st (BlockK id Q)):EvX T (.block id a) st Q:=by
 obtain⟨ex,st1,hq,n,h⟩:=h
 cases ex with
 |exit i=>
  by_cases hi:i=id
  ·simp only[BlockK,hi,if_true] at hq
   refine⟨_,st1,hq,n+1,λm hm k hk=>?_⟩
   obtain⟨k,rfl⟩:∃k',k=k'+1:=⟨k-1,by omega⟩
   simp only[exec,h m (by omega) k (by omega),hi,if_true]
  ·simp only[BlockK,hi,if_false] at hq
   refine⟨_,st1,hq,n+1,λm hm k hk=>?_⟩
   obtain⟨k,rfl⟩:∃k',k=k'+1:=⟨k-1,by omega⟩
   simp only[exec,h m (by omega) k (by omega),hi,if_false]
 |_=>
  refine⟨_,st1,hq,n+1,λm hm k hk=>?_⟩
  obtain⟨k,rfl⟩:∃k',k=k'+1:=⟨k-1,by omega⟩
  simp only[exec,h m (by omega) k (by omega)]
theorem EvX.scope(h:EvX T a st Q):EvX T (.scope a) st Q:=by
 obtain⟨ex,st1,hq,n,h⟩:=h
 refine⟨_,st1,hq,n+1,λm hm k hk=>?_⟩
 obtain⟨k,rfl⟩:∃k',k=k'+1:=⟨k-1,by omega⟩
 simp only[exec,h m (by omega) k (by omega)]
theorem EvX.skip(h:Q .normal st):EvX T .skip st Q:=by
 refine⟨_,st,h,1,λm hm k hk=>?_⟩
 obtain⟨k,rfl⟩:∃k',k=k'+1:=⟨k-1,by omega⟩
 rfl
theorem EvX.label{i:Nat}(h:Q .normal st):EvX T (.label i) st Q:=by
 refine⟨_,st,h,1,λm hm k hk=>?_⟩
 obtain⟨k,rfl⟩:∃k',k=k'+1:=⟨k-1,by omega⟩
 rfl
theorem EvX.exit{i:Nat}(h:Q (.exit i) st):EvX T (.exit i) st Q:=by
 refine⟨_,st,h,1,λm hm k hk=>?_⟩
 obtain⟨k,rfl⟩:∃k',k=k'+1:=⟨k-1,by omega⟩
 rfl
theorem EvX.ret(h:Q .ret st):EvX T .ret st Q:=by
 refine⟨_,st,h,1,λm hm k hk=>?_⟩
 obtain⟨k,rfl⟩:∃k',k=k'+1:=⟨k-1,by omega⟩
 rfl
theorem EvX.cond{x:Operand}{t:Bool}(hc:ev st.regs x=.d (.bool t))(h1:t=true→EvX T a st Q)(h2:t=false→EvX T b st Q):EvX T (.cond x a b) st Q:=by
 cases t with
 |true=>
  obtain⟨ex,st1,hq,n,h⟩:=h1 rfl
  refine⟨_,st1,hq,n+1,λm hm k hk=>?_⟩
  obtain⟨k,rfl⟩:∃k',k=k'+1:=⟨k-1,by omega⟩
  simp only[exec,hc,h m (by omega) k (by omega)]
 |false=>
  obtain⟨ex,st1,hq,n,h⟩:=h2 rfl
  refine⟨_,st1,hq,n+1,λm hm k hk=>?_⟩
  obtain⟨k,rfl⟩:∃k',k=k'+1:=⟨k-1,by omega⟩
  simp only[exec,hc,h m (by omega) k (by omega)]
def RegK(Q:Ex→St→Prop):Option Dat→St→Prop
 |none,st=>Q .normal st
 |some x,st=>Q (.panic x) st
theorem EvX.region{id:Nat}{l:List Oper}(h:EvO T ⟨l⟩ l st (RegK Q)):EvX T (.region id ⟨l⟩ false) st Q:=by
 obtain⟨p,st1,hq,n,h⟩:=h
 cases p with
 |none=>
  refine⟨_,st1,hq,n+1,λm hm k hk=>?_⟩
  obtain⟨k,rfl⟩:∃k',k=k'+1:=⟨k-1,by omega⟩
  simp only[exec,Bool.false_eq_true,if_false,h m (by omega)]
 |some x=>
  refine⟨_,st1,hq,n+1,λm hm k hk=>?_⟩
  obtain⟨k,rfl⟩:∃k',k=k'+1:=⟨k-1,by omega⟩
  simp only[exec,Bool.false_eq_true,if_false,h m (by omega)]
theorem EvO.nil(h:K none st):EvO T ops [] st K:=⟨_,_,h,0,λm hm=>rfl⟩
theorem EvO.step{v:Val}{st1:St}(hs:∀R,stepA T R ops o st=some (.val v,st1))(h:EvO T ops l st1 K):EvO T ops (o::l) st K:=by
 obtain⟨p,st2,hq,n,h⟩:=h
 exact⟨p,st2,hq,n,λm hm=>by simp only[regionA,hs,h m hm]⟩
theorem EvO.panic{x:Dat}{st1:St}(hs:∀R,stepA T R ops o st=some (.panic x,st1))(h:K (some x) st1):EvO T ops (o::l) st K:=
 ⟨_,_,h,0,λm hm=>by simp only[regionA,hs]⟩
def backA(st:St)(dst:Option Nat)(v:Val)(g:Glob):St:=
 match dst with
 |none=>{st with glob:=g}
 |some k=>match adopt k (genOf (st.toks.get k)) v with
  |(v',some n)=>{st with regs:=st.regs.set k v',toks:=st.toks.set k (genOf (st.toks.get k),some n),glob:=g}
  |(v',none)=>{st with regs:=st.regs.set k v',glob:=g}
def CallK(T:Tb)(ops:Array Oper)(l:List Oper)(st:St)(dst:Option Nat)(K:Option Dat→St→Prop):Out→Glob→Prop
 |.val v,g=>EvO T ops l (backA st dst v g) K
 |.panic x,g=>K (some x) {st with glob:=g}
theorem EvO.call{dst:Option Nat}{fo:Operand}{args:Array Operand}{ats:Array TypeId}{ty:TypeId}{pos:String}{after:Array Edge}{guard:Option (Nat×Bool)}{fn:FuncId}{cap ds:List Dat}
 (hd:(dstOk st.nt dst&&notPinned st.pin dst)=true)
 (hw:wantedA ops ⟨dst,.call ⟨.value fo,args,ats⟩,ty,pos,after,guard⟩ st.regs=some true)
 (hf:ev st.regs fo=.d (.clo fn cap)) (ha:optAll (args.toList.map λx=>(ev st.regs x).toD)=some ds)
 (h:EvF T fn (ds++cap) st.glob (CallK T ops l st dst K)):EvO T ops (⟨dst,.call ⟨.value fo,args,ats⟩,ty,pos,after,guard⟩::l) st K:=by
 obtain⟨out,g',hq,n,h⟩:=h
 have hk:∀R,kindA T R ops ⟨dst,.call ⟨.value fo,args,ats⟩,ty,pos,after,guard⟩ st=some (doCall R fn (ds++cap) dst):=λR=>by
  unfold kindA
  rw[hw]
  simp only[doing,hf,ha]
 have hs:∀R,stepA T R ops ⟨dst,.call ⟨.value fo,args,ats⟩,ty,pos,after,guard⟩ st=doA T R ops ⟨dst,.call ⟨.value fo,args,ats⟩,ty,pos,after,guard⟩ st:=λR=>by
  unfold stepA
  simp only[hd,if_true]
  rfl
 cases out with
 |val v=>
  obtain⟨p,st2,hq2,n2,h2⟩:=hq
  refine⟨p,st2,hq2,n+n2,λm hm=>?_⟩
  have hr:=h m (by omega)
  have h2:=h2 m (by omega)
  have hst:∃u,stepA T (run T m) ops ⟨dst,.call ⟨.value fo,args,ats⟩,ty,pos,after,guard⟩ st=some (.val u,backA st dst v g'):=by
   rw[hs]
   unfold doA
   rw[hk]
   cases dst with
   |none=>simp only[doCall,Doing.apply,Doing.look,Doing.put,hr];exact⟨_,rfl⟩
   |some k=>
    simp only[doCall,Doing.apply,Doing.look,Doing.put,hr,backA]
    cases had:adopt k (genOf (st.toks.get k)) v with
    |mk v' q=>cases q<;>exact⟨_,rfl⟩
  obtain⟨u,hst⟩:=hst
  simp only[regionA,hst,h2]
 |panic x=>
  refine⟨_,_,hq,n,λm hm=>?_⟩
  have hr:=h m hm
  have hst:stepA T (run T m) ops ⟨dst,.call ⟨.value fo,args,ats⟩,ty,pos,after,guard⟩ st=some (.panic x,{st with glob:=g'}):=by
   rw[hs]
   unfold doA
   rw[hk]
   cases dst with
   |none=>simp only[doCall,Doing.apply,Doing.look,Doing.put,hr]
   |some k=>simp only[doCall,Doing.apply,Doing.look,Doing.put,hr]
  simp only[regionA,hst]
def EvL(T:Tb)(ds:List (FuncId×List Dat))(p:Option Dat)(g:Glob)(K:Option Dat→Glob→Prop):Prop:=∃p' g',K p' g'∧∃n,∀m,n≤m→leaveA (runDef T (run T m) m) ds p g=some (p',g')
def DefE(T:Tb)(fn:Func)(ds:List (FuncId×List Dat))(pin:List (Nat×Nat×Nat))(p:Option Dat)(g:Glob)(Q:OGP):Prop:=
 EvL T ds p g λp' g'=>match p' with
  |none=>∃v,pinnedAll T fn pin g'=some v∧Q (.val v) g'
  |some y=>p.isSome=true∧Q (.panic y) g'
def EndK(T:Tb)(fn:Func)(Q:OGP):Ex→St→Prop
 |.normal,st|.ret,st=>(st.defs=[]∧∃v,resultA T fn st=some v∧Q (.val v) st.glob)∨(st.defs≠[]∧fn.results.toList≠[]∧DefE T fn st.defs st.pin none st.glob Q)
 |.panic x,st=>(st.defs=[]∧Q (.panic x) st.glob)∨(st.defs≠[]∧fn.results.toList≠[]∧DefE T fn st.defs st.pin (some x) st.glob Q)
 |_,_=>False
theorem EvF.enter{fn:Func}{Q:OGP}(hx:T.ext f=none)(hf:T.fn f=some fn)(hb:fn.body=some c)(h:EvX T c (entry T f fn ds g) (EndK T fn Q)):EvF T f ds g Q:=by
 obtain⟨ex,st1,hq,n,h⟩:=h
 have key:∀out g',(∀D,finish T D fn (some (ex,st1))=some (out,g'))→Q out g'→EvF T f ds g Q:=λout g' hfin hQ=>by
  refine⟨out,g',hQ,n+1,λm hm=>?_⟩
  obtain⟨m,rfl⟩:∃k',m=k'+1:=⟨m-1,by omega⟩
  simp only[run,hx,hf,hb,h m (by omega) m (by omega),hfin]
 have keyD:∀out g' n2,(∀m,n2≤m→finish T (runDef T (run T m) m) fn (some (ex,st1))=some (out,g'))→Q out g'→EvF T f ds g Q:=λout g' n2 hfin hQ=>by
  refine⟨out,g',hQ,n+n2+1,λm hm=>?_⟩
  obtain⟨m,rfl⟩:∃k',m=k'+1:=⟨m-1,by omega⟩
  simp only[run,hx,hf,hb,h m (by omega) m (by omega),hfin m (by omega)]
 have fin:∀p,(ex=.normal∨ex=.ret)∧p=none∨(∃x,ex=.panic x∧p=some x)→st1.defs≠[]→DefE T fn st1.defs st1.pin p st1.glob Q→EvF T f ds g Q:=λp hp hne hD=>by
  obtain⟨p',g',hK,n2,h2⟩:=hD
  cases hd:st1.defs with
  |nil=>exact absurd hd hne
  |cons d dl=>
   rw[hd] at h2
   cases p' with
   |none=>
    obtain⟨v,hv,hQ⟩:=hK
    refine keyD _ _ n2 (λm hm=>?_) hQ
    have e:=h2 m hm
    rcases hp with ⟨rfl|rfl,rfl⟩|⟨x,rfl,rfl⟩<;>simp only[finish,hd,e,hv,Option.map_some]
   |some y=>
    obtain⟨h3,hQ⟩:=hK
    rcases hp with ⟨_,rfl⟩|⟨x,rfl,rfl⟩
    ·cases h3
    ·exact keyD _ _ n2 (λm hm=>by simp only[finish,hd,h2 m hm]) hQ
 cases ex with
 |normal=>
  rcases hq with ⟨hd,v,hv,hQ⟩|⟨hd,_,hD⟩
  ·exact key _ _ (λD=>by simp only[finish,hd,hv]) hQ
  ·exact fin none (.inl ⟨.inl rfl,rfl⟩) hd hD
 |ret=>
  rcases hq with ⟨hd,v,hv,hQ⟩|⟨hd,_,hD⟩
  ·exact key _ _ (λD=>by simp only[finish,hd,hv]) hQ
  ·exact fin none (.inl ⟨.inr rfl,rfl⟩) hd hD
 |panic x=>
  rcases hq with ⟨hd,hQ⟩|⟨hd,_,hD⟩
  ·exact key _ _ (λD=>by simp only[finish,hd]) hQ
  ·exact fin (some x) (.inr ⟨x,rfl,rfl⟩) hd hD
 |exit i=>exact hq.elim
theorem EvL.one{fn:Func}{c':Code}{d:Nat}{p:Option Dat}{K:Option Dat→Glob→Prop}(hf:T.fn f=some fn)(hb:fn.body=some c)(hr:recovers c=some (d,c'))(hd:d<(entry T f fn ds g).nt)(hn:fn.results.toList=[])
 (h:EvX T c' ((entry T f fn ds g).put (some d) (.d (p.getD .nilIface))) (EndK T fn λout g'=>match out with|.val _=>K none g'|.panic _=>False)):EvL T [(f,ds)] p g K:=by
 obtain⟨ex,st1,hq,n,h⟩:=h
 have key:∀(he:ex=.normal∨ex=.ret) {v:Val},st1.defs=[]→resultA T fn st1=some v→K none st1.glob→EvL T [(f,ds)] p g K:=λhe v h1 h2 h3=>by
  refine⟨none,st1.glob,h3,n,λm hm=>?_⟩
  have e:=h m hm m hm
  have e2:ended T fn (some (ex,st1))=some st1.glob:=by rcases he with rfl|rfl<;>simp[ended,h1,h2]
  simp only[leaveA,runDef,hf,hb,hr,hd,if_true,e,e2,Option.map_some]
 cases ex with
 |normal=>
  rcases hq with ⟨h1,v,h2,h3⟩|⟨_,h1,_⟩
  ·exact key (.inl rfl) h1 h2 h3
  ·exact absurd hn h1
 |ret=>
  rcases hq with ⟨h1,v,h2,h3⟩|⟨_,h1,_⟩
  ·exact key (.inr rfl) h1 h2 h3
  ·exact absurd hn h1
 |panic x=>
  rcases hq with ⟨_,h1⟩|⟨_,h1,_⟩
  ·exact h1.elim
  ·exact absurd hn h1
 |exit i=>exact hq.elim
structure Sk where
 i:Nat
 feet:Feet
 rd:Option (Glob→Option Val)
 g0:Glob
 g1:Glob
def rdOk(a:Option (Glob→Option Val))(g0 g1:Glob):Bool:=
 match a with
 |some f=>sameRead f g0 g1
 |none=>false
def Sk.apart(a b:Sk):Bool:=
 (match a.feet.box,b.feet.box with|some (k,w),some (k',w')=>k !=k'||(!w&&!w')|_,_=>true)&&
 (match a.feet.tok,b.feet.tok with|some k,some k'=>k !=k'|_,_=>true)&&
 (match a.feet.glob,b.feet.glob with
  |some true,some true=>false
  |some false,some true=>a.feet.box.isNone&&a.feet.tok.isNone&&rdOk a.rd b.g0 b.g1
  |some true,some false=>b.feet.box.isNone&&b.feet.tok.isNone&&rdOk b.rd a.g0 a.g1
  |_,_=>true)
def skOk(bf:Array Nat):List Sk→Bool
 |[]=>true
 |a::l=>l.all (λb=>(bf.getD b.i 0).testBit a.i||a.apart b)&&skOk bf l
structure SkOf(s:Sk)(t:Tr):Prop where
 i:s.i=t.i
 feet:s.feet=t.feet
 rd:∀f,s.rd=some f→t.f=f
 g0:s.g0=t.g0
 g1:s.g1=t.g1
theorem rdOk_of{s:Sk}{t:Tr}(h:SkOf s t){g0 g1:Glob}(hr:rdOk s.rd g0 g1=true):sameRead t.f g0 g1=true:=by
 unfold rdOk at hr
 split at hr
 ·rename_i f hf;rw[h.rd f hf];exact hr
 ·cases hr
theorem apart_of{s s':Sk}{t t':Tr}(h:SkOf s t)(h':SkOf s' t')(ha:s.apart s'=true):t.apart t'=true:=by
 unfold Sk.apart at ha
 unfold Tr.apart
 rw[←h.feet,←h'.feet,←h.g0,←h.g1,←h'.g0,←h'.g1]
 simp only[Bool.and_eq_true] at ha⊢
 refine⟨ha.1,?_⟩
 have h3:=ha.2
 cases hA:s.feet.glob with
 |none=>rfl
 |some c=>
  cases hB:s'.feet.glob with
  |none=>cases c<;>rfl
  |some d=>
   rw[hA,hB] at h3
   cases c<;>cases d
   ·rfl
   ·simp only[Bool.and_eq_true] at h3⊢
    exact⟨h3.1,rdOk_of h h3.2⟩
   ·simp only[Bool.and_eq_true] at h3⊢
    exact⟨h3.1,rdOk_of h' h3.2⟩
   ·simp at h3
theorem pairs_of{bf:Array Nat}:∀{sk:List Sk} {tr:List Tr},Els SkOf sk tr→skOk bf sk=true→pairsOk bf tr=true
 |[],tr,h,hk=>by
  have:tr=[]:=List.eq_nil_of_length_eq_zero h.1.symm
  subst this;rfl
 |s::sk,tr,h,hk=>by
  cases tr with
  |nil=>cases h.1
  |cons t tr=>
   obtain⟨h1,h2⟩:=h.tail
   simp only[skOk,Bool.and_eq_true,List.all_eq_true] at hk
   simp only[pairsOk,Bool.and_eq_true,List.all_eq_true]
   refine⟨λb hb=>?_,pairs_of h2 hk.2⟩
   obtain⟨j,hj⟩:=List.mem_iff_getElem?.1 hb
   have hlt:j<sk.length:=by rw[h2.1];exact(List.getElem?_eq_some_iff.1 hj).1
   have hs:=List.getElem?_eq_getElem hlt
   have hsk:=h2.2 j _ b hs hj
   have:=hk.1 _ (List.mem_of_getElem? hs)
   rw[Bool.or_eq_true] at this⊢
   rw[←hsk.i,←h1.i]
   exact this.elim .inl (λe=>.inr (apart_of h1 hsk e))
variable(T) in
def EvD(ops:Array Oper)(bf:Array Nat)(l:List Nat)(st:St)(pre:List Sk)(K:St→Prop):Prop:=
 ∃fin sk,K fin∧skOk bf (pre.reverse++sk)=true∧∃n,∀m,n≤m→∀k,l.length<k→∃tr,runD T (run T m) ops bf k l st=some (tr,none,fin)∧Els SkOf sk tr
theorem EvD.nil{bf:Array Nat}{pre:List Sk}{K:St→Prop}(h:K st)(hk:skOk bf pre.reverse=true):EvD T ops bf [] st pre K:=by
 refine⟨st,[],h,by simpa using hk,0,λm hm k hlt=>⟨[],?_,rfl,λj a b ha=>by simp at ha⟩⟩
 obtain⟨k,rfl⟩:∃k',k=k'+1:=⟨k-1,by omega⟩
 rfl
end Go.Proofs.YtiheejdkkjfenaaGreatDoor.Am
namespace Go.Proofs.YtiheejdkkjfenaaGreatDoor.Am
open Go
variable{T:Tb}{ops:Array Oper}{l:List Oper}{o:Oper}{st s st1:St}{Q Q':Ex→St→Prop}{K:Option Dat→St→Prop}{a b c:Code}{f:FuncId}{ds:List Dat}{g:Glob}
theorem wExitHere{id:Nat}(h:Q .normal st):BlockK id Q (.exit id) st:=by simp only[BlockK,if_true];exact h
theorem wExitOn{id i:Nat}(hne:i≠id)(h:Q (.exit i) st):BlockK id Q (.exit i) st:=by simp only[BlockK,hne,if_false];exact h
def ownBox(k:Nat)(cs:List Val):Doing:=Doing.mk (some (k,true)) none none λb _ gl=>some (.val (.loc k (nextGen b) 0),some (nextGen b,.cells cs),none,gl)
theorem newBox_own{esc:List Nat}{k:Nat}{cs:List Val}(h1:cs.all Val.one=true)(h2:esc.contains k=false):newBox esc (some k) cs=some (ownBox k cs):=by
 unfold newBox ownBox
 simp only[h1,h2,if_true,Bool.false_eq_true,if_false]
 congr 1
 congr 1
 funext b _ gl
 cases b<;>rfl
theorem ownBox_apply{k:Nat}{cs:List Val}:(ownBox k cs).apply st=some (.val (.loc k (nextGen (st.boxes.get k)) 0),{st with boxes:=st.boxes.set k (nextGen (st.boxes.get k),.cells cs)}):=rfl
theorem kindOn{R:Caller}{A:Doing}(hw:wantedA ops o st.regs=some true)(hA:doing T R st.esc (ev st.regs) o=some A):kindA T R ops o st=some A:=by
 unfold kindA
 rw[hw]
 exact hA
theorem kindOff{R:Caller}(hw:wantedA ops o st.regs=some false):kindA T R ops o st=some (.ret (.tuple [])):=by
 unfold kindA
 rw[hw]
theorem backA_glob(st:St)(dst:Option Nat)(v:Val)(g:Glob):(backA st dst v g).glob=g:=by
 unfold backA
 cases dst with
 |none=>rfl
 |some k=>
  simp only
  cases adopt k (genOf (st.toks.get k)) v with
  |mk v' q=>cases q<;>rfl
def codeAt:Code→List Nat→Code
 |c,[]=>c
 |.seq a _,0::p=>codeAt a p
 |.seq _ b,_::p=>codeAt b p
 |.cond _ a _,0::p=>codeAt a p
 |.cond _ _ b,_::p=>codeAt b p
 |.block _ a,_::p=>codeAt a p
 |.loop a,_::p=>codeAt a p
 |.scope a,_::p=>codeAt a p
 |c,_::_=>c
def bodyOf(fn:Func):Code:=fn.body.getD .skip
end Go.Proofs.YtiheejdkkjfenaaGreatDoor.Am
namespace Go.Proofs.YtiheejdkkjfenaaGreatDoor.Am
open Go Go.RowKit
theorem up_below{E:Em}{w w':World}{g:Glob}(hg:GRel E w g)(hb:Below w.heap.size w w'):Up E w g.toks E w' g.toks:=
 ⟨hb.os,hb.tape,hb.output,hb.size,Nat.le_refl _,λ_ _=>rfl,λ_ _ h=>h,
  λb o h=>by simp only[World.cell?,hb.block b (hg.imm_lt b o h)],
  λb h ho=>⟨hb.block b h,ho,λ_ h=>h⟩,λ_ _ n h=>⟨n,h,Nat.le_refl _,λ_=>rfl⟩,λ_ _ n h=>⟨n,h,Nat.le_refl _,λ_=>rfl⟩,λ_ _ h=>.inl h⟩
theorem GRel.below{E:Em}{w w':World}{g:Glob}(hg:GRel E w g)(hb:Below w.heap.size w w'):GRel E w' g where
 own_lt b ow h:=Nat.lt_of_lt_of_le (hg.own_lt b ow h) hb.size
 own_g:=hg.own_g
 gk:=hg.gk
 imm_lt b o h:=Nat.lt_of_lt_of_le (hg.imm_lt b o h) hb.size
 ng:=hg.ng
 boxes i bx h:=by
  obtain⟨h1,h2,h3⟩:=hg.boxes i bx h
  exact⟨h1,h2,h3.up (up_below hg hb) (hb.block _ (hg.own_lt _ _ h1))⟩
 toks i m n h:=(hg.toks i m n h).up λb hw=>⟨hb.block b (hg.own_lt b _ hw),hw,λ_=>Iff.rfl⟩
def saysTrue:List Dat→Glob→Option (Out×Glob)
 |[],g=>some (.val (.d (.bool true)),g)
 |_,_=>none
theorem saysTrue_ok{P:Program}{Bs:Em→World→Prop}{f:FuncId}(hf:Enters P f)(h:∀w,Calls P f #[] w λe w'=>e=.returned (.bool true)∧Below w.heap.size w w'):
 ∀ds g out g',saysTrue ds g=some (out,g')→Enters P f∧∀E w vs,Bs E w→GRel E w g→GlobOnly E→ReL E w ds vs→Calls P f vs.toArray w (Post E w g out g'):=by
 intro ds g out g' hs
 refine⟨hf,λE w vs _ hg ho hr=>?_⟩
 cases ds with
 |cons d ds=>cases hs
 |nil=>
  cases hs
  obtain rfl:vs=[]:=List.eq_nil_of_length_eq_zero hr.1.symm
  refine(h w).mono λe w' ⟨he,hb⟩=>?_
  exact⟨E,up_below hg hb,hg.below hb,ho,.bool true,he,.bool true⟩
theorem withExt_ok{P:Program}{T:Tb}{ext:FuncId→Option (List Dat→Glob→Option (Out×Glob))}(h:T.Ok P):({T with ext:=ext}:Tb).Ok P:=
 ⟨h.und,h.zero,h.size,h.bytes,h.plain,h.fn,h.name,h.mixed,h.meth⟩
end Go.Proofs.YtiheejdkkjfenaaGreatDoor.Am
namespace Go.Proofs.YtiheejdkkjfenaaGreatDoor.Am
open Go Go.RowKit
def GVal.beq:GVal→GVal→Bool
 |.d a,.d b=>a.beq b
 |.own g m xs,.own g' m' ys=>Nat.beq g g'&&(Nat.beq m m'&&Dat.beqs xs ys)
 |_,_=>false
theorem GVal.eq_of_beq{a b:GVal}(h:a.beq b=true):a=b:=by
 cases a<;>cases b<;>simp only[GVal.beq,Bool.and_eq_true] at h
 ·rw[Dat.eq_of_beq h]
 ·cases h
 ·cases h
 ·rw[Nat.eq_of_beq_eq_true h.1,Nat.eq_of_beq_eq_true h.2.1,Dat.eq_of_beqs h.2.2]
def gvBeqs:List GVal→List GVal→Bool
 |[],[]=>true
 |a::l,b::r=>a.beq b&&gvBeqs l r
 |_,_=>false
theorem eq_of_gvBeqs:∀{a b:List GVal},gvBeqs a b=true→a=b
 |[],[],_=>rfl
 |[],_::_,h=>by cases h
 |_::_,[],h=>by cases h
 |a::l,b::r,h=>by
  simp only[gvBeqs,Bool.and_eq_true] at h
  rw[GVal.eq_of_beq h.1,eq_of_gvBeqs h.2]
def entBeqs:Entries→Entries→Bool
 |[],[]=>true
 |(k,v,n)::l,(k',v',n')::r=>k.beq k'&&(v.beq v'&&(Nat.beq n n'&&entBeqs l r))
 |_,_=>false
theorem eq_of_entBeqs:∀{a b:Entries},entBeqs a b=true→a=b
 |[],[],_=>rfl
 |[],_::_,h=>by cases h
 |_::_,[],h=>by cases h
 |(k,v,n)::l,(k',v',n')::r,h=>by
  simp only[entBeqs,Bool.and_eq_true] at h
  rw[Dat.eq_of_beq h.1,Dat.eq_of_beq h.2.1,Nat.eq_of_beq_eq_true h.2.2.1,eq_of_entBeqs h.2.2.2]
def GBox.beq:GBox→GBox→Bool
 |.cells a,.cells b=>gvBeqs a b
 |.map a c,.map b d=>entBeqs a b&&Nat.beq c d
 |_,_=>false
theorem GBox.eq_of_beq{a b:GBox}(h:a.beq b=true):a=b:=by
 cases a<;>cases b<;>simp only[GBox.beq,Bool.and_eq_true] at h
 ·rw[eq_of_gvBeqs h]
 ·cases h
 ·cases h
 ·rw[eq_of_entBeqs h.1,Nat.eq_of_beq_eq_true h.2]
def gbBeqs:List GBox→List GBox→Bool
 |[],[]=>true
 |a::l,b::r=>a.beq b&&gbBeqs l r
 |_,_=>false
theorem eq_of_gbBeqs:∀{a b:List GBox},gbBeqs a b=true→a=b
 |[],[],_=>rfl
 |[],_::_,h=>by cases h
 |_::_,[],h=>by cases h
 |a::l,b::r,h=>by
  simp only[gbBeqs,Bool.and_eq_true] at h
  rw[GBox.eq_of_beq h.1,eq_of_gbBeqs h.2]
def tkBeqs:List (Nat×Nat)→List (Nat×Nat)→Bool
 |[],[]=>true
 |(a,b)::l,(c,d)::r=>Nat.beq a c&&(Nat.beq b d&&tkBeqs l r)
 |_,_=>false
theorem eq_of_tkBeqs:∀{a b:List (Nat×Nat)},tkBeqs a b=true→a=b
 |[],[],_=>rfl
 |[],_::_,h=>by cases h
 |_::_,[],h=>by cases h
 |(a,b)::l,(c,d)::r,h=>by
  simp only[tkBeqs,Bool.and_eq_true] at h
  rw[Nat.eq_of_beq_eq_true h.1,Nat.eq_of_beq_eq_true h.2.1,eq_of_tkBeqs h.2.2]
def Glob.beq(a b:Glob):Bool:=gbBeqs a.boxes b.boxes&&tkBeqs a.toks b.toks
theorem Glob.eq_of_beq{a b:Glob}(h:a.beq b=true):a=b:=by
 cases a
 cases b
 simp only[Glob.beq,Bool.and_eq_true] at h
 rw[eq_of_gbBeqs h.1,eq_of_tkBeqs h.2]
structure Ran where
 ds:List Dat
 g:Glob
 out:Out
 g':Glob
def ran:List Ran→List Dat→Glob→Option (Out×Glob)
 |[],_,_=>none
 |t::l,ds,g=>bif Dat.beqs t.ds ds&&t.g.beq g then some (t.out,t.g') else ran l ds g
theorem ran_inv:∀{l:List Ran} {ds:List Dat} {g:Glob} {r:Out×Glob},ran l ds g=some r→∃t∈l,t.ds=ds∧t.g=g∧r=(t.out,t.g')
 |[],_,_,_,h=>by cases h
 |t::l,ds,g,r,h=>by
  simp only[ran] at h
  cases hc:(Dat.beqs t.ds ds&&t.g.beq g) with
  |true=>
   rw[hc] at h
   cases h
   simp only[Bool.and_eq_true] at hc
   exact⟨t,by simp,Dat.eq_of_beqs hc.1,Glob.eq_of_beq hc.2,rfl⟩
  |false=>
   rw[hc] at h
   obtain⟨t',h1,h2⟩:=ran_inv (l:=l) h
   exact⟨t',List.mem_cons_of_mem _ h1,h2⟩
theorem ran_ok{P:Program}{T:Tb}{Bs:Em→World→Prop}(hB:BaseOk Bs)(hT:T.Ok P)(hx:ExtOk P Bs T){n:Nat}{f:FuncId}{l:List Ran}(h:∀t∈l,run T n f t.ds t.g=some (t.out,t.g')):
 ∀ds g out g',ran l ds g=some (out,g')→Enters P f∧∀E w vs,Bs E w→GRel E w g→GlobOnly E→ReL E w ds vs→Calls P f vs.toArray w (Post E w g out g'):=by
 intro ds g out g' hs
 obtain⟨t,h1,h2,h3,h4⟩:=ran_inv hs
 have:=h t h1
 rw[h2,h3] at this
 cases h4
 exact(run_sound hB hT hx n).calls f ds g _ _ this
end Go.Proofs.YtiheejdkkjfenaaGreatDoor.Am
