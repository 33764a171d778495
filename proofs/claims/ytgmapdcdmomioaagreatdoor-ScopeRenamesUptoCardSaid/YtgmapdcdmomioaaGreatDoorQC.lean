/- What the plain machine's operations do is what the model's do: new boxes, new slices. What the plain machine's operations do is what the model's do: append, make. What the plain machine's operations do is what the model's do: append, make. What the plain machine's operations do is what the model's do: make, conversions. What the plain machine's operations do is what the model's do: maps. What the plain machine's operations do is what the model's do: new maps, strings' letters, lengths, the builtins. -/
import Derived.Test.YtgmapdcdmomioaaGreatDoorQB
import Derived.IntWalk
import Derived.Laws.MakeOwn
import Derived.Laws.IdiomStrings
set_option linter.all false
set_option autoImplicit false
namespace Go.Proofs.YtgmapdcdmomioaaGreatDoor.Am
open Go
section
variable{P:Program}{E:Em}{w w':World}{st st':St}{T:Tb}
theorem Rep.cells{d:Dat}{v:Value}(h:Rep E w d v):∃vs:List Value,v.cells=vs.toArray∧(∀u∈vs,u.oneCell'=true)∧(∀c∈d.cells,c.one=true)∧Els (Rep E w) d.cells vs:=by
 cases h with
 |agg cs vs hl h1 h=>
  refine⟨vs,rfl,λu hu=>?_,h1,hl,λj a b ha hb=>h j a b ha hb⟩
  obtain⟨j,hj⟩:=List.mem_iff_getElem?.1 hu
  have hlt:j<cs.length:=by rw[hl];exact(List.getElem?_eq_some_iff.1 hj).1
  exact(h j _ u (List.getElem?_eq_getElem hlt) hj).oneCell (h1 _ (List.getElem_mem hlt))
 |gsl t m xs v n h hk hn ht=>
  have hr':=Rep.gsl t m xs _ n h hk hn ht
  have hc:v.cells=#[v]:=by cases h<;>rfl
  refine⟨[v],hc,λu hu=>by rw[List.mem_singleton.1 hu];exact hr'.oneCell rfl,by simp[Dat.cells,Dat.one],rfl,λj a b ha hb=>?_⟩
  match j with
  |0=>
   simp[Dat.cells] at ha hb
   subst ha;subst hb
   exact hr'
  |j+1=>simp[Dat.cells] at ha
 |_=>
  refine⟨[_],rfl,by simp[Value.oneCell'],by simp[Dat.cells,Dat.one],rfl,λj a b ha hb=>?_⟩
  match j with
  |0=>
   simp[Dat.cells] at ha hb
   subst ha;subst hb
   first|assumption|(constructor<;>assumption)|constructor
  |j+1=>simp[Dat.cells] at ha
theorem newBox_run(hm:MRel E w st){esc:List Nat}{dst:Option Nat}{cs:List Val}{vs:List Value}(t:TypeId)(hv:Els (RepV E w st.tabs) cs vs){A:Doing}(h:newBox esc dst cs=some A)
 {out:Out} (ha:A.apply st=some (out,st')) {s:Sem Value} (hs:s.run P w=.ok (.pointer (some ⟨w.heap.size,0,none⟩)) (w.alloc (.cells vs.toArray t))):
 ∃v,out=.val v∧DoesS P s E w st v st':=by
 unfold newBox at h
 split at h
 ·cases h
 ·rename_i k
  split at h
  ·rename_i hall
   split at h
   ·split at h
    ·rename_i ds hds
     cases h
     simp only[Doing.apply,Doing.look,Doing.put] at ha
     cases ha
     obtain⟨hl,hg⟩:=optAll_get hds
     obtain⟨r1,r2,r3⟩:=hm.newGlob (pushed_alloc w (.cells vs.toArray t)) (.cells (ds.map .d)) (λE' f=>by
      refine⟨vs.toArray,t,(pushed_alloc w _).new,by simp[←hl,hv.1],λc hc=>?_,λj c u hc hu=>?_⟩
      ·simp only[List.map_map] at hc
       obtain⟨d,hd,rfl⟩:=List.mem_map.1 hc
       obtain⟨j,hj⟩:=List.mem_iff_getElem?.1 hd
       have hjl:j<cs.length:=by rw[hl];exact(List.getElem?_eq_some_iff.1 hj).1
       exact(dat?_one (hg j _ d (List.getElem?_eq_getElem hjl) hj)).2
      ·simp only[List.map_map,List.getElem?_map,Option.map_eq_some_iff] at hc
       obtain⟨d,hd,rfl⟩:=hc
       have hjl:j<cs.length:=by rw[hl];exact(List.getElem?_eq_some_iff.1 hd).1
       have hc':=List.getElem?_eq_getElem hjl
       exact .d _ _ (f _ _ ((hv.2 j _ u hc' (by simpa using hu)).dat (hg j _ d hc' hd)).1))
     refine⟨_,rfl,_,_,_,hs,?_,r3,r1,r2⟩
     have e:(E.newGlob w.heap.size).gb st.glob.boxes.length=w.heap.size:=by rw[←hm.g.ng];simp[Em.newGlob]
     refine .d _ _ ?_
     have:=Rep.ptr (E:=E.newGlob w.heap.size) (w:=w.alloc (.cells vs.toArray t)) st.glob.boxes.length 0 (by simp[Em.newGlob,hm.g.ng])
     rw[e] at this
     exact this
    ·cases h
   ·cases h
    simp only[Doing.apply,Doing.look,Doing.put] at ha
    obtain⟨r1,r2,r3⟩:=hm.newBox (pushed_alloc w (.cells vs.toArray t)) k (.cells cs) (λE' T' f _=>
     ⟨vs.toArray,t,(pushed_alloc w _).new,by simp[hv.1],λc hc=>by rw[List.all_eq_true] at hall;exact hall c hc,λj c u hc hu=>f c u (hv.2 j c u hc (by simpa using hu))⟩)
    have loc:∀g,LocOk (E.newBox k w.heap.size) ⟨st.boxes.set k (g,.cells cs),st.toks,st.glob.toks⟩ k g 0 (.pointer (some ⟨w.heap.size,0,none⟩)):=λg=>
     ⟨w.heap.size,g,_,rfl,Mp.get_set_same _ _ _,Nat.le_refl _,λ_=>by simp[Em.newBox]⟩
    cases hb:st.boxes.get k with
    |none=>
     rw[hb] at ha r2 r3
     cases ha
     exact⟨_,rfl,_,_,_,hs,.loc _ _ _ _ (loc 0),r3,r1,r2⟩
    |some x=>
     obtain⟨g,bx⟩:=x
     rw[hb] at ha r2 r3
     cases ha
     exact⟨_,rfl,_,_,_,hs,.loc _ _ _ _ (loc (g+1)),r3,r1,r2⟩
  ·cases h
theorem alloc_run(hT:T.Ok P)(hm:MRel E w st){esc:List Nat}{dst:Option Nat}{t:TypeId}{z:Dat}(hz:T.zero t=some z){A:Doing}(h:newBox esc dst (z.cells.map .d)=some A)
 {out:Out} (ha:A.apply st=some (out,st')):∃v,out=.val v∧DoesS P (Instr.alloc t true (.tuple #[])) E w st v st':=by
 obtain⟨i,zv,hi,hzv,hr⟩:=hT.zero _ _ hz
 obtain⟨vs,e1,e2,e3,e4⟩:=(hr E w).cells
 refine newBox_run hm t (vs:=vs) ⟨by simpa using e4.1,λj a b hja hjb=>?_⟩ h ha ?_
 ·simp only[List.getElem?_map,Option.map_eq_some_iff] at hja
  obtain⟨d,hd,rfl⟩:=hja
  exact .d _ _ (e4.2 j d b hd hjb)
 ·simp only[Instr.alloc,Sem.run_bind,zeroValue_run hi hzv,Result.andThen_ok,newVar,newRow,e1,run_newObj,Sem.run_pure]
  rfl
theorem box_run(hm:MRel E w st){esc:List Nat}{dst:Option Nat}{t:TypeId}{x:Val}{vx:Value}(hx:RepV E w st.tabs x vx){A:Doing}(h:newBox esc dst x.cells=some A)
 {out:Out} (ha:A.apply st=some (out,st')):∃v,out=.val v∧DoesS P (Instr.box t vx) E w st v st':=by
 have hall:x.cells.all Val.one=true:=by
  unfold newBox at h
  split at h
  ·cases h
  ·split at h
   ·assumption
   ·cases h
 obtain⟨vs,e1,e2,e3,e4⟩:=hx.cells hall
 refine newBox_run hm t (vs:=vs) ⟨e2.symm,e4⟩ h ha ?_
 simp only[Instr.box,Sem.run_bind,newVar,newRow,e1,run_newObj,Result.andThen_ok,Sem.run_pure]
 rfl
def Flat(E:Em)(w:World)(m:Nat)(xs:List Dat)(cur:List Value):Prop:=
 xs.length*m≤cur.length∧(∀x∈xs,x.cells.length=m)∧∀(i:Nat) x,xs[i]?=some x→∀(j:Nat) d,x.cells[j]?=some d→d.one=true∧∃u,cur[i*m+j]?=some u∧Rep E w d u
theorem newOwn_run(hm:MRel E w st){k m cap:Nat}{xs:List Dat}{cur:Array Value}{t:TypeId}(p:Pushed w w' (.cells cur t (0,0)))(hf:Flat E w m xs cur.toList)(hcap:xs.length≤cap)
 (hcur:cur.size=cap*m) (h0:0<m) {out:Out} (ha:(newOwn k m xs).apply st=some (out,st')) {s:Sem Value} (hs:s.run P w=.ok (.slice (some ⟨w.heap.size,0,none⟩) xs.length cap) w'):
 ∃v,out=.val v∧DoesS P s E w st v st':=by
 obtain⟨r1,r2,r3⟩:=hm.newTok p k m xs.length cap hcap hcur h0
 have hr:Rep (E.newTok k w.heap.size (xs.length*m) (.slice (some ⟨w.heap.size,0,none⟩) xs.length cap)) w' (.sl m xs) (.slice (some ⟨w.heap.size,0,none⟩) xs.length cap):=by
  refine Rep.sl_of hcap hf.2.1 (λi x hx j d hd=>?_)
  obtain⟨h1,u,hu,hr⟩:=hf.2.2 i x hx j d hd
  have hi:i<xs.length:=(List.getElem?_eq_some_iff.1 hx).1
  have hj:j<m:=by rw[←hf.2.1 x (List.mem_of_getElem? hx)];exact(List.getElem?_eq_some_iff.1 hd).1
  have hlt:i*m+j<xs.length*m:=by
   have:(i+1)*m≤xs.length*m:=Nat.mul_le_mul_right _ hi
   rw[Nat.add_mul] at this
   omega
  refine⟨h1,.inr ⟨rfl,by omega⟩,u,?_,hr.up r1⟩
  simp only[Nat.zero_add,World.cell?,p.new,Option.isSome_none,Bool.false_eq_true,if_false]
  simpa using hu
 have own:∀g,OwnOk (E.newTok k w.heap.size (xs.length*m) (.slice (some ⟨w.heap.size,0,none⟩) xs.length cap)) ⟨st.boxes,st.toks.set k (g,some (m,xs.length)),st.glob.toks⟩ k g xs.length (.slice (some ⟨w.heap.size,0,none⟩) xs.length cap):=λg=>
  ⟨g,_,Mp.get_set_same _ _ _,Nat.le_refl _,λ_ m' n' e=>by cases e;exact⟨Nat.le_refl _,λ_=>by simp[Em.newTok]⟩⟩
 simp only[newOwn,Doing.apply,Doing.look,Doing.put] at ha
 cases hb:st.toks.get k with
 |none=>
  rw[hb] at ha r2 r3
  cases ha
  exact⟨_,rfl,_,_,_,hs,.own _ _ _ _ _ hr (own 0),r3,r1,r2⟩
 |some x=>
  obtain⟨g,bx⟩:=x
  rw[hb] at ha r2 r3
  cases ha
  exact⟨_,rfl,_,_,_,hs,.own _ _ _ _ _ hr (own (g+1)),r3,r1,r2⟩
theorem newGown_run(hm:MRel E w st){m cap:Nat}{xs:List Dat}{cur:Array Value}{t:TypeId}(p:Pushed w w' (.cells cur t (0,0)))(hf:Flat E w m xs cur.toList)(hcap:xs.length≤cap)
 (hcur:cur.size=cap*m) (h0:0<m) {out:Out} (ha:(newGown m xs).apply st=some (out,st')) {s:Sem Value} (hs:s.run P w=.ok (.slice (some ⟨w.heap.size,0,none⟩) xs.length cap) w'):
 ∃v,out=.val v∧DoesS P s E w st v st':=by
 obtain⟨r1,r2,r3⟩:=hm.pushGtok p hcap hcur h0
 have hr:Rep (E.newGtok st.glob.toks.length w.heap.size (xs.length*m) (m,xs.length) (.slice (some ⟨w.heap.size,0,none⟩) xs.length cap)) w' (.sl m xs) (.slice (some ⟨w.heap.size,0,none⟩) xs.length cap):=by
  refine Rep.sl_of hcap hf.2.1 (λi x hx j d hd=>?_)
  obtain⟨h1,u,hu,hr⟩:=hf.2.2 i x hx j d hd
  have hi:i<xs.length:=(List.getElem?_eq_some_iff.1 hx).1
  have hj:j<m:=by rw[←hf.2.1 x (List.mem_of_getElem? hx)];exact(List.getElem?_eq_some_iff.1 hd).1
  have hlt:i*m+j<xs.length*m:=by
   have:(i+1)*m≤xs.length*m:=Nat.mul_le_mul_right _ hi
   rw[Nat.add_mul] at this
   omega
  refine⟨h1,.inr ⟨rfl,by omega⟩,u,?_,hr.up r1⟩
  simp only[Nat.zero_add,World.cell?,p.new,Option.isSome_none,Bool.false_eq_true,if_false]
  simpa using hu
 cases ha
 exact⟨_,rfl,_,_,_,hs,.d _ _ (.gsl _ _ _ _ xs.length hr (upd_same E.gk st.glob.toks.length _) (Nat.le_refl _) (λ_=>(upd_same E.gt st.glob.toks.length _).symm)),r3,r1,r2⟩
theorem putAll_get{β:Type}(cs vs:List β)(o:Nat)(h:o+vs.length≤cs.length)(j:Nat):
 (putAll cs o vs)[j]?=if j<o then cs[j]? else if j<o+vs.length then vs[j-o]? else cs[j]?:=by
 rw[putAll_eq vs cs o h,List.append_assoc,List.getElem?_append]
 have hl:(cs.take o).length=o:=by simp;omega
 rw[hl]
 by_cases h1:j<o
 ·simp[h1]
 ·simp only[h1,if_false]
  rw[List.getElem?_append]
  by_cases h2:j<o+vs.length
  ·rw[if_pos h2,if_pos (by omega)]
  ·rw[if_neg h2,if_neg (by omega),List.getElem?_drop]
   congr 1
   omega
theorem zeros_flat{z:Dat}{zv:Value}(hr:Rep E w z zv){m:Nat}(hm:z.cells.length=m)(h0:0<m)(n N:Nat)(hN:n*m≤N):
 Flat E w m (List.replicate n z) ((Array.range N).map (zv.cells[·%zv.cells.size]!)).toList:=by
 obtain⟨vs,e1,e2,e3,e4⟩:=hr.cells
 have hsz:zv.cells.size=m:=by rw[e1];simp[←e4.1,hm]
 refine⟨by simpa using hN,λx hx=>by rw[(List.mem_replicate.1 hx).2];exact hm,λi x hx j d hd=>?_⟩
 rw[List.getElem?_replicate] at hx
 split at hx
 ·rename_i hi
  cases hx
  have hj:j<m:=by rw[←hm];exact(List.getElem?_eq_some_iff.1 hd).1
  have hjv:j<vs.length:=by rw[←e4.1,hm];exact hj
  have hlt:i*m+j<n*m:=by
   have:(i+1)*m≤n*m:=Nat.mul_le_mul_right _ hi
   rw[Nat.add_mul] at this
   omega
  refine⟨e3 d (List.mem_of_getElem? hd),vs[j],?_,e4.2 j d _ hd (List.getElem?_eq_getElem hjv)⟩
  have hmod:(i*m+j)%m=j:=by
   rw[Nat.add_comm,Nat.add_mul_mod_self_right]
   exact Nat.mod_eq_of_lt hj
  rw[Array.getElem?_toList,Array.getElem?_map,Array.getElem?_range,if_pos (by omega)]
  have hvm:vs.length=m:=by rw[←e4.1,hm]
  simp[e1,hvm,hmod]
  rw[List.getElem?_eq_getElem hjv]
  rfl
 ·cases hx
theorem Flat.set{m:Nat}{xs:List Dat}{cur:List Value}(h:Flat E w m xs cur){i:Nat}(hi:i<xs.length){x:Dat}{vs:List Value}(hx:x.cells.length=m)(h1:∀c∈x.cells,c.one=true)
 (hv:Els (Rep E w) x.cells vs):Flat E w m (xs.set i x) (putAll cur (i*m) vs):=by
 have hvl:vs.length=m:=by rw[←hv.1];exact hx
 have hfit:i*m+vs.length≤cur.length:=by
  have:(i+1)*m≤xs.length*m:=Nat.mul_le_mul_right _ hi
  rw[Nat.add_mul] at this
  have:=h.1
  omega
 refine⟨by simpa[putAll_length] using h.1,λy hy=>?_,λi' y hy j d hd=>?_⟩
 ·rcases List.mem_or_eq_of_mem_set hy with hy|rfl
  ·exact h.2.1 y hy
  ·exact hx
 ·rw[putAll_get _ _ _ hfit]
  have hjm:j<m:=by
   have hjl:j<y.cells.length:=(List.getElem?_eq_some_iff.1 hd).1
   have:y.cells.length=m:=by
    rcases List.mem_or_eq_of_mem_set (List.mem_of_getElem? hy) with hy|rfl
    ·exact h.2.1 y hy
    ·exact hx
   omega
  by_cases e:i=i'
  ·subst e
   rw[List.getElem?_set_self hi] at hy
   cases hy
   rw[if_neg (by omega),if_pos (by omega)]
   have:i*m+j-i*m=j:=by omega
   rw[this]
   have hjv:j<vs.length:=by omega
   exact⟨h1 d (List.mem_of_getElem? hd),vs[j],List.getElem?_eq_getElem hjv,hv.2 j d _ hd (List.getElem?_eq_getElem hjv)⟩
  ·rw[List.getElem?_set_ne e] at hy
   have:=h.2.2 i' y hy j d hd
   rcases Nat.lt_or_gt_of_ne e with hlt|hlt
   ·have:(i+1)*m≤i'*m:=Nat.mul_le_mul_right _ hlt
    rw[Nat.add_mul] at this
    rw[if_neg (by omega),if_neg (by omega)]
    assumption
   ·have:(i'+1)*m≤i*m:=Nat.mul_le_mul_right _ hlt
    rw[Nat.add_mul] at this
    rw[if_pos (by omega)]
    assumption
theorem fill_flat{m:Nat}:∀(ps:List (Nat×Dat)) (vps:List (Nat×Value)) (xs:List Dat) (us:Array Value),Flat E w m xs us.toList→us.size=xs.length*m→
 Els (λ(p:Nat×Dat) (q:Nat×Value)=>p.1=q.1∧Rep E w p.2 q.2∧p.2.cells.length=m∧p.1<xs.length) ps vps→
 ∃us',Instr.fill (λi=>some (i*m,m)) us vps=some us'∧us'.size=us.size∧Flat E w m (ps.foldl (λl p=>l.set p.1 p.2) xs) us'.toList
 |[],vps,xs,us,hf,hs,hp=>by
  cases vps with
  |nil=>exact⟨us,rfl,rfl,hf⟩
  |cons _ _=>cases hp.1
 |(i,x)::ps,vps,xs,us,hf,hs,hp=>by
  cases vps with
  |nil=>cases hp.1
  |cons q vps=>
   obtain⟨i',v⟩:=q
   obtain⟨⟨e,hv,hx,hi⟩,hp'⟩:=hp.tail
   simp only at e hv hx hi
   subst e
   obtain⟨vs,e1,e2,e3,e4⟩:=hv.cells
   have hvl:vs.length=m:=by rw[←e4.1];exact hx
   have hfit:i*m+vs.length≤us.size:=by
    have:(i+1)*m≤xs.length*m:=Nat.mul_le_mul_right _ hi
    rw[Nat.add_mul] at this
    omega
   have hfp:=foldl_putAll vs 0 us (i*m)
   simp only[Nat.add_zero] at hfp
   generalize hus':((vs.toArray.zipIdx.foldl (λ(cs:Array Value) (x:Value×Nat)=>match x with|(c,j)=>cs.setIfInBounds (i*m+j) c) us))=us'
   have hus'':us'.toList=putAll us.toList (i*m) vs:=by
    rw[←hus',←hfp]
    congr 1
    simp
   have hsz':us'.size=us.size:=by
    have:=congrArg List.length hus''
    simpa[putAll_length] using this
   obtain⟨us2,k1,k2,k3⟩:=fill_flat ps vps (xs.set i x) us' (by rw[hus''];exact hf.set hi hx e3 e4) (by rw[hsz',hs];simp) ⟨hp'.1,λj a b ha hb=>by
    obtain⟨q1,q2,q3,q4⟩:=hp'.2 j a b ha hb
    exact⟨q1,q2,q3,by simpa using q4⟩⟩
   refine⟨us2,?_,by rw[k2,hsz'],k3⟩
   simp only[Instr.fill,e1]
   rw[if_neg (by simp[hvl];omega),hus']
   exact k1
theorem buildSlice_run(hT:T.Ok P)(hm:MRel E w st){t:TypeId}{len:Nat}{parts:List (Nat×Val)}{vparts:List (Nat×Value)}{esc:List Nat}{dst:Option Nat}
 (hp:Els (λ(p:Nat×Val) (q:Nat×Value)=>p.1=q.1∧RepV E w st.tabs p.2 q.2) parts vparts) {A:Doing} (h:doBuildSlice T esc t len parts dst=some A) {out:Out} (ha:A.apply st=some (out,st')):
 ∃v,out=.val v∧DoesS P (Instr.buildSlice t len vparts.toArray) E w st v st':=by
 unfold doBuildSlice at h
 split at h
 ·rename_i k e he
  unfold slElem at he
  split at he
  ·rename_i e' hu
   cases he
   have hu:=hT.und _ _ hu
   split at h
   ·rename_i m z hs hz
    have hs:=hT.size _ _ hs
    obtain⟨i,zv,hi,hzv,hrz⟩:=hT.zero _ _ hz
    split at h
    ·rename_i hc
     obtain⟨h0,h24,hzl⟩:=hc
     split at h
     ·rename_i ps hps
      obtain⟨hl,hg⟩:=optAll_get hps
      have hflat:=zeros_flat (hrz E w) hzl h0 len (len*m) (Nat.le_refl _)
      have hsz:((Array.range (len*m)).map (zv.cells[·%zv.cells.size]!)).size=(List.replicate len z).length*m:=by simp
      obtain⟨us',f1,f2,f3⟩:=fill_flat ps vparts (List.replicate len z) _ hflat hsz ⟨by rw[←hl];exact hp.1,λj a b hja hjb=>by
       have hjl:j<parts.length:=by rw[hl];exact(List.getElem?_eq_some_iff.1 hja).1
       have hpj:=List.getElem?_eq_getElem hjl
       have hgj:=hg j _ a hpj hja
       obtain⟨q1,q2⟩:=hp.2 j _ b hpj hjb
       cases hd:(parts[j]).2.toD with
       |none=>rw[hd] at hgj;cases hgj
       |some x=>
        rw[hd] at hgj
        simp only at hgj
        split at hgj
        ·rename_i hcx
         cases hgj
         exact⟨q1,q2.toD hd,hcx.1,by simpa using hcx.2⟩
        ·cases hgj⟩
      have hlen:(ps.foldl (λl p=>l.set p.1 p.2) (List.replicate len z)).length=len:=by
       have:∀(ps:List (Nat×Dat)) (l:List Dat),(ps.foldl (λl p=>l.set p.1 p.2) l).length=l.length:=λps=>by
        induction ps with
        |nil=>intro l;rfl
        |cons p ps ih=>intro l;simp[ih]
       rw[this];simp
      have hrun:(Instr.buildSlice t len vparts.toArray).run P w=.ok (.slice (some ⟨w.heap.size,0,none⟩) len len) (w.alloc (.cells us' e)):=by
       have hn:¬(len*m>2^24):=by omega
       simp only[Instr.buildSlice,Sem.run_bind,run_underlying hu w,Result.andThen_ok,sizeOf_run hs,hn,if_false,Sem.run_pure]
       by_cases hz0:len*m=0
       ·have hl0:len=0:=by
         rcases Nat.mul_eq_zero.1 hz0 with h|h
         ·exact h
         ·omega
        subst hl0
        have e0:Array.range 0=#[]:=rfl
        have f1':Instr.fill (λi=>some (i*m,m)) #[] vparts=some us':=by
         rw[Nat.zero_mul,e0,Array.map_empty] at f1
         exact f1
        simp only[Nat.zero_mul,if_true,Sem.run_bind,Sem.run_pure,Result.andThen_ok,e0,Array.map_empty,f1',newRow,run_newObj]
        rfl
       ·simp only[hz0,if_false,Sem.run_bind,zeroValue_run hi hzv,Result.andThen_ok,Sem.run_pure]
        rw[f1]
        simp only[newRow,Sem.run_bind,run_newObj,Result.andThen_ok,Sem.run_pure]
        rfl
      have hrun':(Instr.buildSlice t len vparts.toArray).run P w=.ok (.slice (some ⟨w.heap.size,0,none⟩) (ps.foldl (λl p=>l.set p.1 p.2) (List.replicate len z)).length len) (w.alloc (.cells us' e)):=by
       rw[hrun]
       congr 2
       exact hlen.symm
      simp only[Option.some.injEq] at h
      subst h
      split at ha
      ·exact newGown_run hm (pushed_alloc w (.cells us' e)) f3 (cap:=len) (by rw[hlen];exact Nat.le_refl _) (by rw[f2,hsz];simp) h0 ha hrun'
      ·exact newOwn_run hm (pushed_alloc w (.cells us' e)) f3 (cap:=len) (by rw[hlen];exact Nat.le_refl _) (by rw[f2,hsz];simp) h0 ha hrun'
     ·cases h
    ·cases h
   ·cases h
  ·cases he
 ·cases h
end
end Go.Proofs.YtgmapdcdmomioaaGreatDoor.Am
namespace Go.Proofs.YtgmapdcdmomioaaGreatDoor.Am
open Go
section
variable{P:Program}{E E':Em}{w w':World}{st st':St}{T:Tb}
theorem rep_row{G G':List (Nat×Nat)}(u:Up E w G E' w' G'){b m cap:Nat}{zs:List Dat}{cur:Array Value}{t:TypeId}(hb:w'.heap[b]?=some (.cells cur t (0,0)))(hf:Flat E w m zs cur.toList)
 (hcap:zs.length≤cap) (hi:∀o,o<zs.length*m→E'.imm b o):Rep E' w' (.sl m zs) (.slice (some ⟨b,0,none⟩) zs.length cap):=by
 refine Rep.sl_of hcap hf.2.1 (λi x hx j d hd=>?_)
 obtain⟨h1,v,hv,hr⟩:=hf.2.2 i x hx j d hd
 have hil:i<zs.length:=(List.getElem?_eq_some_iff.1 hx).1
 have hj:j<m:=by rw[←hf.2.1 x (List.mem_of_getElem? hx)];exact(List.getElem?_eq_some_iff.1 hd).1
 have hlt:i*m+j<zs.length*m:=by
  have:(i+1)*m≤zs.length*m:=Nat.mul_le_mul_right _ hil
  rw[Nat.add_mul] at this
  omega
 refine⟨h1,by rw[Nat.zero_add];exact hi _ hlt,v,?_,hr.up u⟩
 simp only[Nat.zero_add,World.cell?,hb,Option.isSome_none,Bool.false_eq_true,if_false]
 simpa using hv
theorem Flat.app{m:Nat}{xs ys:List Dat}{olds news:List Value}(hx:Flat E w m xs olds)(hl:olds.length=xs.length*m)(hy:Flat E w m ys news)(rest:List Value):
 Flat E w m (xs++ys) (olds++news++rest):=by
 refine⟨by have:=hy.1;simp[Nat.add_mul];omega,λx h=>?_,λi x h j d hd=>?_⟩
 ·rcases List.mem_append.1 h with h|h
  ·exact hx.2.1 x h
  ·exact hy.2.1 x h
 ·have hm:x.cells.length=m:=by
   rcases List.mem_append.1 (List.mem_of_getElem? h) with h|h
   ·exact hx.2.1 x h
   ·exact hy.2.1 x h
  have hj:j<m:=by rw[←hm];exact(List.getElem?_eq_some_iff.1 hd).1
  rw[List.getElem?_append] at h
  split at h
  ·rename_i hi
   obtain⟨h1,u,hu,hr⟩:=hx.2.2 i x h j d hd
   refine⟨h1,u,?_,hr⟩
   have hlt:i*m+j<olds.length:=(List.getElem?_eq_some_iff.1 hu).1
   rw[List.append_assoc,List.getElem?_append_left hlt]
   exact hu
  ·rename_i hi
   obtain⟨h1,u,hu,hr⟩:=hy.2.2 _ x h j d hd
   refine⟨h1,u,?_,hr⟩
   have hlt:(i-xs.length)*m+j<news.length:=(List.getElem?_eq_some_iff.1 hu).1
   have e:i*m=xs.length*m+(i-xs.length)*m:=by
    rw[←Nat.add_mul]
    congr 1
    omega
   rw[List.append_assoc,List.getElem?_append_right (by omega),List.getElem?_append_left (by omega)]
   have e2:i*m+j-olds.length=(i-xs.length)*m+j:=by omega
   rw[e2]
   exact hu
theorem Rep.flat{m:Nat}{xs:List Dat}{v:Value}(h:Rep E w (.sl m xs) v):∃news:List Value,news.length=xs.length*m∧(∀u∈news,u.oneCell'=true)∧Flat E w m xs news∧
 (xs=[]∨∃b o c,v=.slice (some ⟨b,o,none⟩) xs.length c∧∀(j:Nat) u,news[j]?=some u→w.cell? ((⟨b,o,none⟩:Addr).add j)=some u):=by
 obtain⟨news,h1,h2,h3,h4⟩:=h.sl_news
 obtain⟨a,c,_,_,hm,hcell⟩:=h.sl_inv
 refine⟨news,h1,h2,⟨by omega,hm,λi x hx j d hd=>?_⟩,h4⟩
 obtain⟨u,hu,hr⟩:=h3 i x hx j d hd
 rcases hcell with rfl|⟨b,o,_,hcell⟩
 ·simp at hx
 ·exact⟨(hcell i x hx j d hd).1,u,hu,hr⟩
theorem setCells_row(b:Nat)(t:TypeId):∀(vs:List Value) (o:Nat) (cur:Array Value) (w:World),w.heap[b]?=some (.cells cur t (0,0))→w.setCells b o vs=w.setRow b (putAll cur.toList o vs).toArray
 |[],o,cur,w,hb=>by
  simp only[World.setCells,putAll,Array.toArray_toList]
  rw[setRow_self w b cur t (0,0) hb]
 |v::vs,o,cur,w,hb=>by
  simp only[World.setCells,putAll]
  rw[setCell_eq_setRow w b o cur t (0,0) v hb,setCells_row b t vs (o+1) (cur.setIfInBounds o v) _ (setRow_heap w b cur _ t _ hb),setRow_setRow]
  simp
theorem src_of(hT:T.Ok P){tx:TypeId}{x:Val}{vx:Value}(hx:RepV E w st.tabs x vx){m m':Nat}{ys:List Dat}(hm:m'=m)(hne:ys≠[])
 (h:srcElems T tx x=some (m',ys)):
 ∃news,Src P m tx vx ys.length news w∧Flat E w m ys news:=by
 subst hm
 unfold srcElems at h
 split at h
 ·rename_i b
  split at h
  ·rename_i hs
   cases h
   have hu:=hT.und _ _ (isS_of hs)
   cases hx with
   |d _ _ hx=>
   cases hx
   have hsrc:=Src.ofString (P:=P) w hu ⟨b.toArray⟩
   rw[ba_size] at hsrc
   refine⟨_,by simpa using hsrc,by simp[byteCells],λx hx=>?_,λi x hx j d hd=>?_⟩
   ·obtain⟨c,_,rfl⟩:=List.mem_map.1 hx;rfl
   ·rw[List.getElem?_map] at hx
    simp only[Option.map_eq_some_iff] at hx
    obtain⟨c,hc,rfl⟩:=hx
    match j with
    |0=>
     simp[Dat.cells] at hd
     subst hd
     exact⟨rfl,.int .u8 c.toNat,by simp[byteCells,hc],.int _ _⟩
    |j+1=>simp[Dat.cells] at hd
  ·cases h
 ·split at h
  ·rename_i hl
   obtain⟨e,hu⟩:=isL_of hl
   have hu:=hT.und _ _ hu
   obtain⟨hr,a,c,rfl,hc⟩:=elems_inv hx h
   obtain⟨news,h1,h2,h3,h4⟩:=hr.flat
   rcases h4 with h4|⟨b,o,c',e1,h4⟩
   ·exact absurd h4 hne
   ·cases e1
    exact⟨news,Src.ofSlice w hu _ _ _ _ h1 h4 h2,h3⟩
  ·cases h
theorem append_none(hT:T.Ok P){t tx e:TypeId}(hu:P.underlying t=some (.slice e)){x:Val}{vx:Value}(hx:RepV E w st.tabs x vx){m m':Nat}(hs:∃i,P.info? e=some i∧i.size=m)
 (h:srcElems T tx x=some (m',([]:List Dat))) (a:Option Addr) (n c:Nat) (hn:n≤c) (ty:TypeId):
 (Builtin.append_ #[t,tx] ty #[.slice a n c,vx]).run P w=.ok (.slice a n c) w:=by
 have key:((∃e',P.underlying tx=some (.slice e'))∨P.underlying tx=some .string)→(∀w',(Builtin.lenOf vx).run P w'=.ok 0 w')→(Builtin.firstCells m 0 vx).run P w=.ok #[] w→
  (Builtin.append_ #[t,tx] ty #[.slice a n c,vx]).run P w=.ok (.slice a n c) w:=λhk hl hf=>by
  obtain⟨i,hi,rfl⟩:=hs
  rcases hk with ⟨e',hk⟩|hk<;>cases a<;>simp[Builtin.append_,run_underlying hu,run_underlying hk,sizeOf,typeInfo,hi,hl,hn,hf,storeCells]
 unfold srcElems at h
 split at h
 ·rename_i b
  split at h
  ·rename_i hss
   simp at h
   obtain⟨rfl,rfl⟩:=h
   cases hx with
   |d _ _ hx=>
   cases hx
   refine key (.inr (hT.und _ _ (isS_of hss))) (λ_=>by simp[Builtin.lenOf,ba_size]) ?_
   simp[Builtin.firstCells]
  ·cases h
 ·split at h
  ·rename_i hl
   obtain⟨e',hu'⟩:=isL_of hl
   obtain⟨hr,a',c',rfl,hc⟩:=elems_inv hx h
   refine key (.inl ⟨_,hT.und _ _ hu'⟩) (λ_=>by simp[Builtin.lenOf]) ?_
   cases a' with
   |none=>simp[Builtin.firstCells]
   |some a'=>simp[Builtin.firstCells,loadCells,loadCellsFrom]
  ·cases h
end
end Go.Proofs.YtgmapdcdmomioaaGreatDoor.Am
namespace Go.Proofs.YtgmapdcdmomioaaGreatDoor.Am
open Go
section
variable{P:Program}{E:Em}{w:World}{st st':St}{T:Tb}
theorem fits_of{n b:Nat}(h:fits n b=true):n≤2^40∧n*b≤2^46:=by
 unfold fits at h
 simp only[Bool.and_eq_true,decide_eq_true_eq] at h
 exact h
theorem grow_run{t tx ty e:TypeId}(hu:P.underlying t=some (.slice e)){i:TypeInfo}(hi:P.info? e=some i){zv:Value}(hz:i.zero=some zv){m by':Nat}(hsz:i.size=m)(hby:i.bytes=by')
 {z:Dat} (hzr:Rep E w z zv) (hzm:z.cells.length=m) {xs ys:List Dat} {base:Option Addr} {cap:Nat} {olds news:List Value} {vx:Value} (hx:Flat E w m xs olds) (hol:olds.length=xs.length*m)
 (hold:(Builtin.firstCells m xs.length (.slice base xs.length cap)).run P w.drew=.ok olds.toArray w.drew) (hs:Src P m tx vx ys.length news w) (hy:Flat E w m ys news)
 (hg:cap<xs.length+ys.length) (hf:fits (xs.length+ys.length) by'=true):
 ∃cur cap',(Builtin.append_ #[t,tx] ty #[.slice base xs.length cap,vx]).run P w=.ok (.slice (some ⟨w.heap.size,0,none⟩) (xs.length+ys.length) cap') (w.drew.alloc (.cells cur e))∧
  xs.length+ys.length≤cap'∧cur.size=cap'*m∧Flat E w m (xs++ys) cur.toList:=by
 obtain⟨hf1,hf2⟩:=fits_of hf
 subst hsz
 subst hby
 have hrun:=run_append_grow_src (P:=P) w t tx ty e i zv hu hi hz base xs.length cap olds hold vx ys.length news hs hg (by omega) (growslice_fits hg (by omega))
 refine⟨_,_,hrun,grownCap_ge w _ _ _,?_,?_⟩
 ·obtain⟨vs,e1,_,_,e4⟩:=hzr.cells
  have hzs:zv.cells.size=i.size:=by rw[e1];simp[←e4.1,hzm]
  have hge:=grownCap_ge w (xs.length+ys.length) cap e
  simp only[Array.size_append,List.size_toArray,size_zeroCells,hzs,List.length_append,hol,hs.newsLen,←Nat.add_mul]
  congr 1
  omega
 ·have:=hx.app hol hy (Builtin.zeroCells zv.cells (grownCap w (xs.length+ys.length) cap e-(xs.length+ys.length))).toList
  simpa using this
theorem firstCells_old{m:Nat}{xs:List Dat}{v:Value}(h:Rep E w (.sl m xs) v):∃olds:List Value,olds.length=xs.length*m∧Flat E w m xs olds∧
 ∀a c,v=.slice a xs.length c→(Builtin.firstCells m xs.length (.slice a xs.length c)).run P w.drew=.ok olds.toArray w.drew:=by
 obtain⟨news,h1,h2,h3,h4⟩:=h.flat
 refine⟨news,h1,h3,λa c hv=>?_⟩
 rcases h4 with rfl|⟨b,o,c',rfl,h4⟩
 ·have:news=[]:=List.eq_nil_of_length_eq_zero (by simpa using h1)
  subst this
  cases a with
  |none=>simp[Builtin.firstCells]
  |some a=>simp[Builtin.firstCells,loadCells,loadCellsFrom]
 ·cases hv
  exact run_firstCells_some w.drew m xs.length _ _ _ news h1 (by simpa using h4)
theorem room_run{t tx ty e:TypeId}(hu:P.underlying t=some (.slice e)){i:TypeInfo}(hi:P.info? e=some i){m:Nat}(hsz:i.size=m){xs ys:List Dat}{b cap:Nat}{cur:Array Value}{te:TypeId}
 (hb:w.heap[b]?=some (.cells cur te (0,0))) (hcur:cur.size=cap*m) {news:List Value} {vx:Value} (hr:Rep E w (.sl m xs) (.slice (some ⟨b,0,none⟩) xs.length cap))
 (hs:Src P m tx vx ys.length news w) (hy:Flat E w m ys news) (hroom:xs.length+ys.length≤cap):
 ∃cur',(Builtin.append_ #[t,tx] ty #[.slice (some ⟨b,0,none⟩) xs.length cap,vx]).run P w=.ok (.slice (some ⟨b,0,none⟩) (xs.length+ys.length) cap) (w.setRow b cur')∧
  cur'.size=cur.size∧(∀o,o<xs.length*m→cur'[o]?=cur[o]?)∧Flat E w m (xs++ys) cur'.toList:=by
 subst hsz
 have hle:xs.length*i.size+news.length≤cur.size:=by
  rw[hs.newsLen,hcur,←Nat.add_mul]
  exact Nat.mul_le_mul_right _ hroom
 have hrun:=run_append_room_src (P:=P) w t tx ty e i hu hi b 0 xs.length cap vx ys.length news hs hroom (λj hj=>by
  have:0+xs.length*i.size+j<cur.size:=by omega
  simp only[World.cell?,hb,Option.isSome_none,Bool.false_eq_true,if_false]
  simp
  omega) (λj hj=>by simp[World.frozen?,hb])
 rw[setCells_row b te news _ cur w hb,Nat.zero_add] at hrun
 refine⟨_,hrun,by simp[putAll_length],λo ho=>?_,?_⟩
 ·have:=putAll_get cur.toList news (xs.length*i.size) (by simpa using hle) o
  rw[if_pos ho] at this
  simpa using this
 ·rw[List.toList_toArray]
  have hfl:Flat E w i.size xs (cur.toList.take (xs.length*i.size)):=by
   obtain⟨a,c,e1,_,hm,hcell⟩:=hr.sl_inv
   cases e1
   refine⟨by simp;omega,hm,λj x hx k d hd=>?_⟩
   rcases hcell with rfl|⟨b',o',e2,hcell⟩
   ·simp at hx
   ·cases e2
    obtain⟨h1,_,u,hu,hru⟩:=hcell j x hx k d hd
    refine⟨h1,u,?_,hru⟩
    have hjl:j<xs.length:=(List.getElem?_eq_some_iff.1 hx).1
    have hk:k<i.size:=by rw[←hm x (List.mem_of_getElem? hx)];exact(List.getElem?_eq_some_iff.1 hd).1
    have hlt:j*i.size+k<xs.length*i.size:=by
     have:(j+1)*i.size≤xs.length*i.size:=Nat.mul_le_mul_right _ hjl
     rw[Nat.add_mul] at this
     omega
    rw[List.getElem?_take,if_pos hlt]
    simp only[Nat.zero_add,World.cell?,hb,Option.isSome_none,Bool.false_eq_true,if_false] at hu
    simpa using hu
  have:=hfl.app (by simp;omega) hy (cur.toList.drop (xs.length*i.size+news.length))
  rw[putAll_eq _ _ _ (by simpa using hle)]
  exact this
theorem append_run(hT:T.Ok P)(hm:MRel E w st){t tx ty:TypeId}{s x:Val}{vs vx:Value}{esc:List Nat}{dst:Option Nat}(hs:RepV E w st.tabs s vs)(hx:RepV E w st.tabs x vx){A:Doing}(h:doAppend T esc t tx s x dst=some A)
 {out:Out} (ha:A.apply st=some (out,st')):∃v,out=.val v∧DoesS P (Builtin.append_ #[t,tx] ty #[vs,vx]) E w st v st':=by
 unfold doAppend at h
 split at h
 ·cases h
 ·rename_i e he
  unfold slElem at he
  split at he
  ·rename_i e' hu
   cases he
   have hu:=hT.und _ _ hu
   split at h
   ·rename_i m by' z m' ys hsz hby hz hys
    obtain⟨i,hi,hisz⟩:=hT.size _ _ hsz
    obtain⟨i2,hi2,hiby⟩:=hT.bytes _ _ hby
    rw[hi] at hi2
    cases hi2
    obtain⟨i3,zv,hi3,hizv,hzr⟩:=hT.zero _ _ hz
    rw[hi] at hi3
    cases hi3
    split at h
    ·rename_i hc
     obtain⟨h0,hzm⟩:=hc
     cases hye:ys with
     |nil=>
      subst hye
      simp only[List.isEmpty_nil,if_true] at h
      split at h
      ·rename_i hse
       cases h
       rw[ret_apply] at ha
       cases ha
       obtain⟨⟨m1,xs⟩,hse⟩:=Option.isSome_iff_exists.1 hse
       obtain⟨hr,a,c,rfl,hac⟩:=elems_inv hs hse
       exact⟨_,rfl,_,w,E,append_none hT hu hx ⟨i,hi,hisz⟩ hys a xs.length c hac ty,hs,hm,Up.refl _ _ _,UpL.refl _ _ _⟩
      ·cases h
     |cons y0 ys0=>
      have hne:ys≠[]:=by rw[hye];simp
      have hemp:ys.isEmpty=false:=by rw[hye];rfl
      rw[←hye] at*
      clear hye
      have hpos:0<ys.length:=List.length_pos_iff.2 hne
      simp only[hemp,Bool.false_eq_true,if_false] at h
      split at h
      ·cases h
      ·rename_i hmm
       have hmm:m'=m:=Classical.byContradiction hmm
       obtain⟨news,hsrc,hfl⟩:=src_of hT hx hmm hne hys
       subst hmm
       split at h
       ·split at h
        ·rename_i hfit
         cases hs with
         |d _ _ hs=>
         cases hs with
         |nil base=>
         obtain⟨cur,cap',r1,r2,r3,r4⟩:=grow_run (ty:=ty) (base:=base) (cap:=0) (xs:=[]) (olds:=[]) hu hi hizv hisz hiby (hzr E w) hzm ⟨by simp,by simp,by simp⟩ (by simp)
          (by cases base<;>simp[Builtin.firstCells,loadCells,loadCellsFrom]) hsrc hfl (by simpa using hpos) (by simpa using hfit)
         simp only[List.length_nil,Nat.zero_add,List.nil_append] at r1 r2 r4
         split at h
         ·cases h
          exact newGown_run hm (pushed_drew w (.cells cur e)) r4 r2 r3 h0 ha r1
         ·cases dst with
          |none=>cases h
          |some k=>
           cases h
           exact newOwn_run hm (pushed_drew w (.cells cur e)) r4 r2 r3 h0 ha r1
        ·cases h
       ·rename_i k g mo xs
        split at h
        ·rename_i hc
         obtain⟨rfl,hfit⟩:=hc
         cases h
         simp only[Doing.apply,Doing.look,Doing.put] at ha
         by_cases hk:st.toks.get k=some (g,some (mo,xs.length))
         ·simp only[hk,if_true] at ha
          ·cases ha
           cases hs with
           |own _ _ _ _ _ hr hown=>
           obtain⟨g2,rr,k1,k2,k3⟩:=hown
           have k1:st.toks.get k=some (g2,rr):=k1
           rw[hk] at k1
           cases k1
           have htk:=(k3 rfl mo xs.length rfl).2 rfl
           obtain⟨b,cap,cur,te,e1,e2,e3,e4,e5,e6,e7⟩:=hm.toks k g mo xs.length hk
           rw[←htk] at e1
           subst e1
           have hlen:(xs++ys).length=xs.length+ys.length:=by simp
           by_cases hroom:xs.length+ys.length≤cap
           ·obtain⟨cur',r1,r2,r3,r4⟩:=room_run (ty:=ty) hu hi hisz e2 e4 hr hsrc hfl hroom
            have hw:=wrote_setRow w b cur cur' te e2
            obtain⟨s1,s2,s3⟩:=hm.roomTok hk htk.symm e2 hw r2 r3 hpos hroom
            refine⟨_,rfl,_,_,_,r1,?_,s3,s1,s2⟩
            refine .own _ _ _ _ _ ?_ ?_
            ·have:=rep_row s1 hw.new r4 (cap:=cap) (by rw[hlen];exact hroom) (λo ho=>.inr ⟨rfl,by rw[hlen] at ho;exact ho⟩)
             rw[hlen] at this
             exact this
            ·refine⟨g,_,Mp.get_set_same _ _ _,Nat.le_refl _,λ_ m' n' e=>?_⟩
             cases e
             exact⟨by rw[hlen];exact Nat.le_refl _,λ_=>by simp⟩
           ·obtain⟨olds,f1,f2,f3⟩:=firstCells_old (P:=P) hr
            obtain⟨cur2,cap',r1,r2,r3,r4⟩:=grow_run (ty:=ty) (base:=some ⟨b,0,none⟩) (cap:=cap) hu hi hizv hisz hiby (hzr E w) hzm f2 f1 (f3 _ _ rfl) hsrc hfl (by omega) hfit
            obtain⟨s1,s2,s3⟩:=hm.growTok hk (pushed_drew w (.cells cur2 e)) hpos r2 r3 h0
            refine⟨_,rfl,_,_,_,r1,?_,s3,s1,s2⟩
            refine .own _ _ _ _ _ ?_ ?_
            ·have:=rep_row s1 (pushed_drew w (.cells cur2 e)).new r4 (cap:=cap') (by rw[hlen];exact r2) (λo ho=>.inr ⟨rfl,by rw[hlen] at ho;exact ho⟩)
             rw[hlen] at this
             exact this
            ·refine⟨g,_,Mp.get_set_same _ _ _,Nat.le_refl _,λ_ m' n' e=>?_⟩
             cases e
             exact⟨by rw[hlen];exact Nat.le_refl _,λ_=>by simp[Em.newTok]⟩
         ·simp only[hk,if_false] at ha
          cases ha
        ·cases h
       ·rename_i g mo xs
        split at h
        ·rename_i hc
         obtain⟨rfl,hfit⟩:=hc
         cases h
         simp only[Doing.apply,Doing.look,Doing.put] at ha
         by_cases hk:st.glob.toks[g]?=some (mo,xs.length)
         ·simp only[hk,if_true] at ha
          ·cases ha
           cases hs with
           |d _ _ hs=>
           cases hs with
           |gsl _ _ _ _ n2 hr k1 k2 k3=>
           rw[hm.g.gk,hk] at k1
           cases k1
           have htk:=k3 rfl
           obtain⟨b,cap,cur,te,e1,e2,e3,e4,e5,e6,e7⟩:=hm.g.toks g mo xs.length hk
           rw[←htk] at e1
           subst e1
           have hlen:(xs++ys).length=xs.length+ys.length:=by simp
           have hgl:g<st.glob.toks.length:=(List.getElem?_eq_some_iff.1 hk).1
           by_cases hroom:xs.length+ys.length≤cap
           ·obtain⟨cur',r1,r2,r3,r4⟩:=room_run (ty:=ty) hu hi hisz e2 e4 hr hsrc hfl hroom
            have hw:=wrote_setRow w b cur cur' te e2
            obtain⟨s1,s2,s3⟩:=hm.roomGtok hk htk.symm e2 hw r2 r3 hpos hroom
            refine⟨_,rfl,_,_,_,r1,?_,s3,s1,s2⟩
            refine .d _ _ (.gsl _ _ _ _ (xs.length+ys.length) ?_ ?_ (by rw[hlen];exact Nat.le_refl _) (λ_=>?_))
            ·have:=rep_row s1 hw.new r4 (cap:=cap) (by rw[hlen];exact hroom) (λo ho=>.inr ⟨rfl,by rw[hlen] at ho;exact ho⟩)
             rw[hlen] at this
             exact this
            ·simp[Em.newGtok]
            ·simp[Em.newGtok]
           ·obtain⟨olds,f1,f2,f3⟩:=firstCells_old (P:=P) hr
            obtain⟨cur2,cap',r1,r2,r3,r4⟩:=grow_run (ty:=ty) (base:=some ⟨b,0,none⟩) (cap:=cap) hu hi hizv hisz hiby (hzr E w) hzm f2 f1 (f3 _ _ rfl) hsrc hfl (by omega) hfit
            obtain⟨s1,s2,s3⟩:=hm.growGtok hk (pushed_drew w (.cells cur2 e)) hpos r2 r3 h0
            refine⟨_,rfl,_,_,_,r1,?_,s3,s1,s2⟩
            refine .d _ _ (.gsl _ _ _ _ (xs.length+ys.length) ?_ ?_ (by rw[hlen];exact Nat.le_refl _) (λ_=>?_))
            ·have:=rep_row s1 (pushed_drew w (.cells cur2 e)).new r4 (cap:=cap') (by rw[hlen];exact r2) (λo ho=>.inr ⟨rfl,by rw[hlen] at ho;exact ho⟩)
             rw[hlen] at this
             exact this
            ·simp[Em.newGtok]
            ·simp[Em.newGtok]
         ·simp only[hk,if_false] at ha
          cases ha
        ·cases h
       ·rename_i g mo xs
        split at h
        ·rename_i hc
         obtain⟨rfl,hfit⟩:=hc
         cases h
         simp only[Doing.apply,Doing.look,Doing.put] at ha
         by_cases hk:st.glob.toks[g]?=some (mo,xs.length)
         ·simp only[hk,if_true] at ha
          ·cases ha
           cases hs with
           |gown _ _ _ _ hr hown=>
           obtain⟨m2,n2,k1,k2,k3⟩:=hown
           have k1:st.glob.toks[g]?=some (m2,n2):=k1
           rw[hk] at k1
           cases k1
           have htk:=k3 rfl
           obtain⟨b,cap,cur,te,e1,e2,e3,e4,e5,e6,e7⟩:=hm.g.toks g mo xs.length hk
           rw[←htk] at e1
           subst e1
           have hlen:(xs++ys).length=xs.length+ys.length:=by simp
           have hgl:g<st.glob.toks.length:=(List.getElem?_eq_some_iff.1 hk).1
           by_cases hroom:xs.length+ys.length≤cap
           ·obtain⟨cur',r1,r2,r3,r4⟩:=room_run (ty:=ty) hu hi hisz e2 e4 hr hsrc hfl hroom
            have hw:=wrote_setRow w b cur cur' te e2
            obtain⟨s1,s2,s3⟩:=hm.roomGtok hk htk.symm e2 hw r2 r3 hpos hroom
            refine⟨_,rfl,_,_,_,r1,?_,s3,s1,s2⟩
            refine .gown _ _ _ _ ?_ ?_
            ·have:=rep_row s1 hw.new r4 (cap:=cap) (by rw[hlen];exact hroom) (λo ho=>.inr ⟨rfl,by rw[hlen] at ho;exact ho⟩)
             rw[hlen] at this
             exact this
            ·exact⟨mo,xs.length+ys.length,by simp[St.tabs,List.getElem?_set_self hgl],by rw[hlen];exact Nat.le_refl _,λ_=>by simp⟩
           ·obtain⟨olds,f1,f2,f3⟩:=firstCells_old (P:=P) hr
            obtain⟨cur2,cap',r1,r2,r3,r4⟩:=grow_run (ty:=ty) (base:=some ⟨b,0,none⟩) (cap:=cap) hu hi hizv hisz hiby (hzr E w) hzm f2 f1 (f3 _ _ rfl) hsrc hfl (by omega) hfit
            obtain⟨s1,s2,s3⟩:=hm.growGtok hk (pushed_drew w (.cells cur2 e)) hpos r2 r3 h0
            refine⟨_,rfl,_,_,_,r1,?_,s3,s1,s2⟩
            refine .gown _ _ _ _ ?_ ?_
            ·have:=rep_row s1 (pushed_drew w (.cells cur2 e)).new r4 (cap:=cap') (by rw[hlen];exact r2) (λo ho=>.inr ⟨rfl,by rw[hlen] at ho;exact ho⟩)
             rw[hlen] at this
             exact this
            ·exact⟨mo,xs.length+ys.length,by simp[St.tabs,List.getElem?_set_self hgl],by rw[hlen];exact Nat.le_refl _,λ_=>by simp[Em.newGtok]⟩
         ·simp only[hk,if_false] at ha
          cases ha
        ·cases h
       ·cases h
    ·cases h
   ·cases h
  ·cases he
end
end Go.Proofs.YtgmapdcdmomioaaGreatDoor.Am
namespace Go.Proofs.YtgmapdcdmomioaaGreatDoor.Am
open Go
section
variable{P:Program}{E:Em}{w:World}{st st':St}{T:Tb}
theorem makeSlice_run(hT:T.Ok P)(hm:MRel E w st){t:TypeId}{l c:Val}{vl vc:Value}{dst:Option Nat}(hl:RepV E w st.tabs l vl)(hc:RepV E w st.tabs c vc){A:Doing}(h:doMakeSlice T t l c dst=some A)
 {out:Out} (ha:A.apply st=some (out,st')):∃v,out=.val v∧DoesS P (Instr.makeSlice t vl vc) E w st v st':=by
 unfold doMakeSlice at h
 split at h
 ·rename_i k e k1 n k2 c he
  unfold slElem at he
  split at he
  ·rename_i e' hu
   cases he
   have hu:=hT.und _ _ hu
   cases hl with
   |d _ _ hl=>
   cases hl
   cases hc with
   |d _ _ hc=>
   cases hc
   split at h
   ·rename_i m z by' hsz hz hby
    obtain⟨i,hi,hisz⟩:=hT.size _ _ hsz
    obtain⟨i2,hi2,hiby⟩:=hT.bytes _ _ hby
    rw[hi] at hi2
    cases hi2
    obtain⟨i3,zv,hi3,hizv,hzr⟩:=hT.zero _ _ hz
    rw[hi] at hi3
    cases hi3
    split at h
    ·rename_i hc
     obtain⟨h0,hzm,hn0,hnc,hf⟩:=hc
     obtain⟨hf1,hf2⟩:=fits_of hf
     cases h
     have hb:((i.bytes:Int)*c)≤281474976710656:=by
      have:((c.toNat*by':Nat):Int)≤2^46:=by exact_mod_cast hf2
      rw[Nat.mul_comm] at this
      push_cast at this
      rw[Int.toNat_of_nonneg (by omega)] at this
      rw[hiby]
      omega
     have hz':=zeros_flat (hzr E w) hzm h0 n.toNat (c.toNat*m) (Nat.mul_le_mul_right _ (by omega))
     have hrun:=run_make (P:=P) w t e i zv hu hi hizv k1 k2 n c hn0 hnc hb (by omega)
     rw[hisz] at hrun
     have hlen:(List.replicate n.toNat z).length=n.toNat:=by simp
     refine newOwn_run hm (pushed_alloc w (.cells (madeCells zv.cells (c.toNat*m)) e)) hz' (cap:=c.toNat) (by rw[hlen];omega) (by simp[madeCells]) h0 ha ?_
     rw[hlen]
     exact hrun
    ·cases h
   ·cases h
  ·cases he
 ·cases h
theorem bytesOf_map:∀{xs:List Dat} {s:List UInt8},bytesOf xs=some s→∃ns:List Int,xs=ns.map (Dat.int .u8)∧s=ns.map λn=>UInt8.ofNat n.toNat
 |[],s,h=>by cases h;exact⟨[],rfl,rfl⟩
 |x::xs,s,h=>by
  unfold bytesOf at h
  split at h
  ·rename_i hh;cases hh
  ·rename_i n l hh
   cases hh
   cases hb:bytesOf xs with
   |none=>rw[hb] at h;cases h
   |some s'=>
    rw[hb] at h
    cases h
    obtain⟨ns,rfl,rfl⟩:=bytesOf_map hb
    exact⟨n::ns,rfl,rfl⟩
  ·cases h
theorem push_bytes:∀(ns:List Int) (r:ByteArray),ns.foldl (λr n=>r.push (UInt8.ofNat n.toNat)) r=⟨r.data++(ns.map λn=>UInt8.ofNat n.toNat).toArray⟩
 |[],r=>by simp
 |n::ns,r=>by
  simp only[List.foldl_cons]
  rw[push_bytes ns]
  simp[ByteArray.push]
theorem convert_run(hT:T.Ok P)(hm:MRel E w st){s d:TypeId}{x:Val}{vx:Value}(hx:RepV E w st.tabs x vx){A:Doing}(h:doConvert T s d x=some A)
 {out:Out} (ha:A.apply st=some (out,st')):∃v,out=.val v∧DoesS P (convert s d vx) E w st v st':=by
 have fin:∀{v:Val} {u:Value},A=.ret v→(convert s d vx).run P w=.ok u w→RepV E w st.tabs v u→∃v,out=.val v∧DoesS P (convert s d vx) E w st v st':=λh1 h2 h3=>
  PureS.does ⟨_,_,h1,h2,h3⟩ hm ha
 unfold doConvert at h
 split at h
 ·rename_i ds k n k' hs hd
  cases h
  have hs:=hT.und _ _ hs
  have hd:=hT.und _ _ hd
  cases hx with
  |d _ _ hx=>
  cases hx
  exact fin rfl (by simp[convert,run_underlying hs,run_underlying hd,Conv.intToInt]) (.d _ _ (.int _ _))
 ·rename_i ds k' n hs hd
  cases h
  have hs:=hT.und _ _ hs
  have hd:=hT.und _ _ hd
  cases hx with
  |d _ _ hx=>
  cases hx
  exact fin rfl (by simp[convert,run_underlying hs,run_underlying hd,Conv.intToString];rfl) (.d _ _ (by have:=Rep.str (E:=E) (w:=w) (Utf8.encode n).data.toList;simpa using this))
 ·rename_i ds b hs hd
  cases h
  have hs:=hT.und _ _ hs
  have hd:=hT.und _ _ hd
  cases hx with
  |d _ _ hx=>
  cases hx
  exact fin rfl (by simp[convert,run_underlying hs,run_underlying hd]) (.d _ _ (.str _))
 ·rename_i e b hs hd
  split at h
  ·rename_i hc
   simp only[Bool.and_eq_true,decide_eq_true_eq] at hc
   cases h
   rw[ret_apply] at ha
   cases ha
   have hs:=hT.und _ _ hs
   have hd:=hT.und _ _ hd
   have he:=hT.und _ _ (isU8_of hc.1)
   cases hx with
   |d _ _ hx=>
   cases hx
   have hrun:=run_bytes_of_string (P:=P) w s d e ⟨b.toArray⟩ hs hd he
   obtain⟨r1,r2,r3⟩:=hm.newImm (w':=w.drew.alloc (.cells (bytesRow ⟨b.toArray⟩ (grownCap w (⟨b.toArray⟩:ByteArray).size 0 e)) e ((bytesRow ⟨b.toArray⟩ (grownCap w (⟨b.toArray⟩:ByteArray).size 0 e)).size,(bytesRow ⟨b.toArray⟩ (grownCap w (⟨b.toArray⟩:ByteArray).size 0 e)).size+1))) ⟨rfl,rfl,rfl,rfl⟩ b.length
   refine⟨_,rfl,_,_,_,hrun,?_,r3,r1,r2⟩
   have hcap:=grownCap_ge w (⟨b.toArray⟩:ByteArray).size 0 e
   rw[ba_size] at hcap⊢
   have hl:(b.map λ(c:UInt8)=>Dat.int .u8 c.toNat).length=b.length:=by simp
   have:=Rep.sl_of (E:=E.newImm w.heap.size b.length) (w:=w.drew.alloc (.cells (bytesRow ⟨b.toArray⟩ (grownCap w b.length 0 e)) e ((bytesRow ⟨b.toArray⟩ (grownCap w b.length 0 e)).size,(bytesRow ⟨b.toArray⟩ (grownCap w b.length 0 e)).size+1))) (m:=1) (xs:=b.map λ(c:UInt8)=>Dat.int .u8 c.toNat) (b:=w.heap.size) (o:=0) (c:=grownCap w b.length 0 e) (by rw[hl];exact hcap) (λx hx=>by
    obtain⟨c,_,rfl⟩:=List.mem_map.1 hx;rfl) (λi x hx j d hd=>by
    rw[List.getElem?_map] at hx
    simp only[Option.map_eq_some_iff] at hx
    obtain⟨c,hc',rfl⟩:=hx
    have hib:i<b.length:=(List.getElem?_eq_some_iff.1 hc').1
    match j with
    |0=>
     simp[Dat.cells] at hd
     subst hd
     refine⟨rfl,.inr ⟨rfl,by omega⟩,.int .u8 c.toNat,?_,.int _ _⟩
     simp only[Nat.zero_add,Nat.mul_one,Nat.add_zero,World.cell?]
     have:(w.drew.alloc (.cells (bytesRow ⟨b.toArray⟩ (grownCap w b.length 0 e)) e ((bytesRow ⟨b.toArray⟩ (grownCap w b.length 0 e)).size,(bytesRow ⟨b.toArray⟩ (grownCap w b.length 0 e)).size+1))).heap[w.heap.size]?=some (.cells (bytesRow ⟨b.toArray⟩ (grownCap w b.length 0 e)) e ((bytesRow ⟨b.toArray⟩ (grownCap w b.length 0 e)).size,(bytesRow ⟨b.toArray⟩ (grownCap w b.length 0 e)).size+1)):=heap_alloc_new w.drew _
     rw[this]
     simp only[Option.isSome_none,Bool.false_eq_true,if_false,bytesRow]
     rw[Array.getElem?_append_left (by simpa using hib)]
     simp[hc']
    |j+1=>simp[Dat.cells] at hd)
   rw[hl] at this
   exact .d _ _ this
  ·cases h
 ·rename_i e hs hd _ _
  split at h
  ·rename_i m xs he
   split at h
   ·rename_i hu8
    have hs:=hT.und _ _ hs
    have hd:=hT.und _ _ hd
    have he':=hT.und _ _ (isU8_of hu8)
    obtain⟨hr,a,c,rfl,hac⟩:=elems_inv hx he
    cases hb:bytesOf xs with
    |none=>rw[hb] at h;cases h
    |some b=>
     rw[hb] at h
     cases h
     obtain⟨ns,rfl,rfl⟩:=bytesOf_map hb
     refine fin rfl ?_ (.d _ _ (.str _))
     rw[run_convert_bytes_string w s d e a _ c hs he' hd]
     obtain⟨a',c',e1,_,hmm,hcell⟩:=hr.sl_inv
     cases e1
     rcases hcell with h0|⟨b,o,rfl,hcell⟩
     ·have:ns=[]:=by simpa using h0
      subst this
      cases a with
      |none=>rfl
      |some a=>simp[Conv.bytesToString,loadCells,loadCellsFrom];rfl
     ·have hm1:ns=[]∨m=1:=by
       cases ns with
       |nil=>exact .inl rfl
       |cons n ns=>exact .inr ((hmm (.int .u8 n) (by simp)).symm)
      have hload:(loadCells ⟨b,o,none⟩ (ns.map (Dat.int .u8)).length).run P w=.ok (ns.map (Value.int .u8)).toArray w:=by
       have:=run_loadCells_list (P:=P) w ⟨b,o,none⟩ (ns.map (Value.int .u8)) (λj v hj=>by
        rw[List.getElem?_map] at hj
        simp only[Option.map_eq_some_iff] at hj
        obtain⟨n,hn,rfl⟩:=hj
        obtain⟨_,_,u,hu,hru⟩:=hcell j (.int .u8 n) (by simp[hn]) 0 (.int .u8 n) rfl
        cases hru
        have hadd:(⟨b,o,none⟩:Addr).add j=⟨b,o+j,none⟩:=Addr.add_mid b o _
        rcases hm1 with rfl|rfl
        ·simp at hn
        ·rw[hadd]
         simpa using hu)
       simpa using this
      have:=run_bytesToString (P:=P) w ⟨b,o,none⟩ (ns.map (Dat.int .u8)).length c ns hload
      rw[this,push_bytes]
      have he0:ByteArray.empty.data=#[]:=rfl
      rw[he0]
      simp
   ·cases h
  ·cases h
 ·cases h
end
end Go.Proofs.YtgmapdcdmomioaaGreatDoor.Am
namespace Go.Proofs.YtgmapdcdmomioaaGreatDoor.Am
open Go
def mapSet(w:World)(b:Nat)(ms:Array MapEntry)(c:Nat):World:={w with heap:=w.heap.setIfInBounds b (.map ms c)}
theorem wrote_map{w:World}{b:Nat}{ms0:Array MapEntry}{c0:Nat}(hb:w.heap[b]?=some (.map ms0 c0))(ms:Array MapEntry)(c:Nat):Wrote w (mapSet w b ms c) b (.map ms c):=by
 have hlt:b<w.heap.size:=(Array.getElem?_eq_some_iff.1 hb).1
 exact⟨rfl,rfl,rfl,by simp[mapSet],by simp[mapSet,hlt],λk hk=>by simp[mapSet,Array.getElem?_setIfInBounds_ne (λe=>hk e.symm)]⟩
section
variable{P:Program}{E:Em}{w:World}{st st':St}{T:Tb}
theorem EntsRep.up'{E':Em}{w':World}{es:Entries}{ms:Array MapEntry}(h:EntsRep E w es ms)(f:∀d v,Rep E w d v→Rep E' w' d v):EntsRep E' w' es ms:=
 ⟨h.1,λj e m he hm=>let ⟨a,b,c⟩:=h.2 j e m he hm;⟨f _ _ a,f _ _ b,c⟩⟩
theorem onMap_run(hm:MRel E w st){wr:Bool}{m:Val}{vm:Value}(hx:RepV E w st.tabs m vm){f:Entries→Nat→Option (Val×Entries×Nat)}{A:Doing}(h:onMap wr m f=some A)
 {out:Out} (ha:A.apply st=some (out,st')):
 ∃b ms es c v es' c',vm=.map (some b)∧w.heap[b]?=some (.map ms c)∧EntsRep E w es ms∧f es c=some (v,es',c')∧out=.val v∧st'.tabs.G=st.tabs.G∧(wr=false→st'=st)∧
  (wr=true→∀ms',EntsRep E w es' ms'→MRel E (mapSet w b ms' c') st'∧Up E w st.glob.toks E (mapSet w b ms' c') st'.glob.toks∧UpL E st.boxes st.toks E st'.boxes st'.toks):=by
 unfold onMap at h
 split at h
 ·rename_i k g
  cases h
  simp only[Doing.apply,Doing.look,Doing.put] at ha
  cases hx with
  |lmap _ _ _ hx=>
  obtain⟨b,g',bx,rfl,hb,hle,hbx⟩:=hx
  have hb:st.boxes.get k=some (g',bx):=hb
  rw[hb] at ha
  cases bx with
  |cells cs=>cases ha
  |iter s pos=>cases ha
  |map es c=>
   simp only at ha
   by_cases e:g'=g
   ·simp only[e,if_true] at ha
    cases hf:f es c with
    |none=>rw[hf] at ha;cases ha
    |some r=>
     obtain⟨v,es',c'⟩:=r
     rw[hf] at ha
     have hbb:=hbx e.symm
     subst hbb
     obtain⟨_,_,ms,hms,hents⟩:=hm.boxes k g' _ hb
     cases wr with
     |false=>
      cases ha
      exact⟨_,ms,es,c,v,es',c',rfl,hms,hents,hf,rfl,rfl,λ_=>rfl,λh=>by cases h⟩
     |true=>
      cases ha
      refine⟨_,ms,es,c,v,es',c',rfl,hms,hents,hf,rfl,rfl,λh=>(by cases h),λ_ ms' he=>?_⟩
      rw[←e]
      obtain⟨r1,r2,r3⟩:=hm.setBox hb (bx':=.map es' c') (wrote_map hms ms' c') (λE' T' _ f'=>⟨ms',(wrote_map hms ms' c').new,he.up' f'⟩)
      exact⟨r3,r1,r2⟩
   ·simp only[e,if_false] at ha
    cases ha
 ·rename_i i
  cases h
  simp only[Doing.apply,Doing.look,Doing.put] at ha
  cases hx with
  |d _ _ hx=>
  cases hx with
  |map _ hi=>
  cases hb:st.glob.boxes[i]? with
  |none=>rw[hb] at ha;cases ha
  |some bx=>
   rw[hb] at ha
   cases bx with
   |cells cs=>cases ha
   |map es c=>
    simp only at ha
    cases hf:f es c with
    |none=>rw[hf] at ha;cases ha
    |some r=>
     obtain⟨v,es',c'⟩:=r
     rw[hf] at ha
     obtain⟨_,_,ms,hms,hents⟩:=hm.g.boxes i _ hb
     cases wr with
     |false=>
      cases ha
      exact⟨_,ms,es,c,v,es',c',rfl,hms,hents,hf,rfl,rfl,λ_=>rfl,λh=>by cases h⟩
     |true=>
      cases ha
      refine⟨_,ms,es,c,v,es',c',rfl,hms,hents,hf,rfl,rfl,λh=>(by cases h),λ_ ms' he=>?_⟩
      obtain⟨r1,r2,r3⟩:=hm.setGlob hb (bx':=.map es' c') (wrote_map hms ms' c') (λE' _ f'=>⟨ms',(wrote_map hms ms' c').new,he.up' f'⟩)
      exact⟨r3,r1,r2⟩
 ·cases h
theorem getObj_map{b:Nat}{ms:Array MapEntry}{c:Nat}(hb:w.heap[b]?=some (.map ms c)):(getObj b).run P w=.ok (.map ms c) w:=by simp[getObj,Sem.run,hb]
theorem setObj_map{b:Nat}{ms ms':Array MapEntry}{c c':Nat}(hb:w.heap[b]?=some (.map ms c)):(setObj b (.map ms' c')).run P w=.ok () (mapSet w b ms' c'):=by simp[setObj,Sem.run,hb,mapSet]
theorem sameNow_key(hT:T.Ok P){kt:TypeId}{a b:Dat}{va vb:Value}{d:TypeDesc}(hu:P.underlying kt=some d)(hk:keyOk T kt a=true)(ra:Rep E w a va)(rb:Rep E w b vb){q:Bool}(h:keyEq a b=some q):
 Instr.sameNow d va vb=some q∧(q=true→va=vb):=by
 unfold keyOk at hk
 split at hk
 ·rename_i k k' m hu'
  have hu':=hT.und _ _ hu'
  rw[hu] at hu'
  cases hu'
  cases ra
  cases b<;>simp[keyEq] at h
  rename_i k'' n
  obtain⟨hk,rfl⟩:=h
  cases rb
  subst hk
  exact⟨by simp[Instr.sameNow],λe=>by simp at e;rw[e]⟩
 ·rename_i s hu'
  have hu':=hT.und _ _ hu'
  rw[hu] at hu'
  cases hu'
  cases ra
  cases b<;>simp[keyEq] at h
  subst h
  cases rb
  exact⟨by simp[Instr.sameNow,ba_beq],λe=>by simp at e;rw[e]⟩
 ·rename_i s hu'
  have hu':=hT.und _ _ hu'
  rw[hu] at hu'
  cases hu'
  cases ra
  cases b<;>simp[keyEq] at h
  subst h
  cases rb
  exact⟨by simp[Instr.sameNow],λe=>by simp at e;rw[e]⟩
 ·cases hk
theorem findK_run(hT:T.Ok P){kt:TypeId}{k:Dat}{vk:Value}{d:TypeDesc}(hu:P.underlying kt=some d)(hk:keyOk T kt k=true)(rk:Rep E w k vk):
 ∀(es:Entries) (ms:List MapEntry) (i:Nat) (r:Option (Nat×Dat)),Els (λ(e:Dat×Dat×Nat) (m:MapEntry)=>Rep E w e.1 m.key∧Rep E w e.2.1 m.val∧m.born=e.2.2) es ms→findK k es i=some r→
  ∃r',Instr.findNow d vk ms i=some r'∧(r=none→r'=none)∧
   ∀j x,r=some (j,x)→∃n e m,j=i+n∧es[n]?=some e∧ms[n]?=some m∧x=e.2.1∧r'=some (j,m.val)∧m.key=vk
 |[],ms,i,r,he,h=>by
  cases ms with
  |cons _ _=>cases he.1
  |nil=>cases h;exact⟨none,rfl,λ_=>rfl,λj x h=>by cases h⟩
 |e::es,ms,i,r,he,h=>by
  cases ms with
  |nil=>cases he.1
  |cons m ms=>
   obtain⟨⟨h1,h2,h3⟩,he'⟩:=he.tail
   simp only[findK] at h
   cases hq:keyEq k e.1 with
   |none=>rw[hq] at h;cases h
   |some q=>
    obtain⟨hs,heq⟩:=sameNow_key hT hu hk rk h1 hq
    rw[hq] at h
    cases q with
    |true=>
     cases h
     refine⟨some (i,m.val),by simp[Instr.findNow,hs],λh=>(by cases h),λj x hjx=>?_⟩
     cases hjx
     exact⟨0,e,m,rfl,rfl,rfl,rfl,rfl,(heq rfl).symm⟩
    |false=>
     obtain⟨r',f1,f2,f3⟩:=findK_run hT hu hk rk es ms (i+1) r he' h
     refine⟨r',by simp[Instr.findNow,hs,f1],f2,λj x hjx=>?_⟩
     obtain⟨n,e',m',g1,g2,g3,g4,g5,g6⟩:=f3 j x hjx
     exact⟨n+1,e',m',by omega,by simpa using g2,by simpa using g3,g4,g5,g6⟩
theorem keyOk_und{kt:TypeId}{k:Dat}(h:keyOk T kt k=true):∃d,T.und kt=some d∧((∃i,d=.int i)∨d=.string∨d=.bool):=by
 unfold keyOk at h
 split at h
 ·rename_i hu;exact⟨_,hu,.inl ⟨_,rfl⟩⟩
 ·rename_i hu;exact⟨_,hu,.inr (.inl rfl)⟩
 ·rename_i hu;exact⟨_,hu,.inr (.inr rfl)⟩
 ·cases h
theorem checkKey_run{kt:TypeId}{d:TypeDesc}(hu:P.underlying kt=some d)(hd:(∃i,d=.int i)∨d=.string∨d=.bool)(e:Bool)(n:Nat)(v:Value):(Instr.checkKey e (n+1) kt v).run P w=.ok () w:=by
 rcases hd with ⟨i,rfl⟩|rfl|rfl<;>simp[Instr.checkKey,run_underlying hu]
theorem EntsRep.els{es:Entries}{ms:Array MapEntry}(h:EntsRep E w es ms):Els (λ(e:Dat×Dat×Nat) (m:MapEntry)=>Rep E w e.1 m.key∧Rep E w e.2.1 m.val∧m.born=e.2.2) es ms.toList:=
 ⟨by simp[h.1],λj e m he hm=>h.2 j e m he (by simpa using hm)⟩
theorem EntsRep.of_els{es:Entries}{ms:List MapEntry}(h:Els (λ(e:Dat×Dat×Nat) (m:MapEntry)=>Rep E w e.1 m.key∧Rep E w e.2.1 m.val∧m.born=e.2.2) es ms):EntsRep E w es ms.toArray:=
 ⟨by simp[h.1],λj e m he hm=>h.2 j e m he (by simpa using hm)⟩
theorem sameBits_self{k:Dat}{v:Value}{kt:TypeId}(h:keyOk T kt k=true)(r:Rep E w k v)(n:Nat):Instr.sameBits (n+1) v v=true:=by
 unfold keyOk at h
 split at h
 ·cases r;simp[Instr.sameBits]
 ·cases r;simp[Instr.sameBits,ba_beq]
 ·cases r;simp[Instr.sameBits]
 ·cases h
theorem mapTy_und(hT:T.Ok P){t kt e:TypeId}(h:mapTy T t=some (kt,e)):P.underlying t=some (.map kt e):=by
 unfold mapTy at h
 split at h
 ·rename_i hu;cases h;exact hT.und _ _ hu
 ·cases h
theorem lookup_run(hT:T.Ok P)(hm:MRel E w st){t:TypeId}{m k:Val}{vm vk:Value}{ok:Bool}(hx:RepV E w st.tabs m vm)(hk:RepV E w st.tabs k vk){A:Doing}(h:doLookup T t m k ok=some A)
 {out:Out} (ha:A.apply st=some (out,st')):∃v,out=.val v∧DoesS P (Instr.lookup t vm vk ok) E w st v st':=by
 unfold doLookup at h
 split at h
 ·rename_i kt e k ht
  have hu:=mapTy_und hT ht
  cases hk with
  |d _ _ hk=>
  split at h
  ·rename_i z hz
   obtain⟨i,zv,hi,hizv,hzr⟩:=hT.zero _ _ hz
   split at h
   ·rename_i hko
    obtain⟨d,hd,hdk⟩:=keyOk_und hko
    have hd:=hT.und _ _ hd
    have hck:=λb=>checkKey_run (w:=w) hd hdk b 9999 vk
    have fnd:∀(r:Option (Nat×Dat)) (r':Option (Nat×Value)),(r=none→r'=none)→(∀j x,r=some (j,x)→∃v,r'=some (j,v)∧Rep E w x v)→
     ∃u,(do let (v,b)←(match r' with|some (_,v)=>pure (v,true)|none=>do pure (←zeroValue e,false):Sem (Value×Bool));pure (if ok then Value.tuple #[v,.bool b] else v):Sem Value).run P w=.ok u w∧RepV E w st.tabs (found z ok r) u:=λr r' h1 h2=>by
     have tup:∀x y b,Rep E w x y→RepV E w st.tabs (.tuple [.d x,.d (.bool b)]) (.tuple #[y,.bool b]):=λx y b hxy=>by
      refine .tuple [.d x,.d (.bool b)] [y,.bool b] rfl (λj c v hc hv=>?_)
      match j with
      |0=>simp at hc hv;subst hc;subst hv;exact .d _ _ hxy
      |1=>simp at hc hv;subst hc;subst hv;exact .d _ _ (.bool _)
      |j+2=>simp at hc
     cases r with
     |none=>
      rw[h1 rfl]
      cases ok
      ·exact⟨zv,by simp[zeroValue_run hi hizv],.d _ _ (hzr E w)⟩
      ·exact⟨.tuple #[zv,.bool false],by simp[zeroValue_run hi hizv],tup _ _ _ (hzr E w)⟩
     |some p=>
      obtain⟨j,x⟩:=p
      obtain⟨v,rfl,hv⟩:=h2 j x rfl
      cases ok
      ·exact⟨v,by simp,.d _ _ hv⟩
      ·exact⟨.tuple #[v,.bool true],by simp,tup _ _ _ hv⟩
    split at h
    ·cases h
     cases hx with
     |d _ _ hx=>
     cases hx
     obtain⟨u,h1,h2⟩:=fnd none none (λ_=>rfl) (λj x h=>by cases h)
     refine PureS.does ⟨_,u,rfl,?_,h2⟩ hm ha
     simp only[Instr.lookup,Sem.run_bind,run_underlying hu w,Result.andThen_ok,Sem.run_pure,hck,Instr.findKey,run_underlying hd w,Instr.findNow]
     simpa using h1
    ·rename_i m hnm
     obtain⟨b,ms,es,c,v,es',c',rfl,hb,he,hf,rfl,_,hst,_⟩:=onMap_run hm hx h ha
     rw[hst rfl]
     cases hfk:findK k es 0 with
     |none=>rw[hfk] at hf;cases hf
     |some r=>
      rw[hfk] at hf
      cases hf
      obtain⟨r',f1,f2,f3⟩:=findK_run hT hd hko hk es ms.toList 0 r he.els hfk
      obtain⟨u,h1,h2⟩:=fnd r r' f2 (λj x hjx=>by
       obtain⟨n,e',m',g1,g2,g3,g4,g5,g6⟩:=f3 j x hjx
       exact⟨m'.val,g5,by rw[g4];exact(he.els.2 n e' m' g2 g3).2.1⟩)
      refine⟨_,rfl,u,w,E,?_,h2,hm,Up.refl _ _ _,UpL.refl _ _ _⟩
      simp only[Instr.lookup,Sem.run_bind,run_underlying hu w,Result.andThen_ok,Sem.run_pure,getObj_map hb,hck,Instr.findKey,run_underlying hd w,f1]
      cases r' with
      |none=>simpa using h1
      |some p=>obtain⟨j,x⟩:=p;simpa using h1
   ·cases h
  ·cases h
 ·cases h
theorem Els.modify{α β:Type}{R:α→β→Prop}{l:List α}{r:List β}(h:Els R l r)(i:Nat){f:α→α}{g:β→β}(hfg:∀a b,l[i]?=some a→r[i]?=some b→R (f a) (g b)):Els R (l.modify i f) (r.modify i g):=by
 refine⟨by simp[h.1],λj a b ha hb=>?_⟩
 rw[List.getElem?_modify] at ha hb
 by_cases e:i=j
 ·subst e
  simp only[if_true] at ha hb
  cases hl:l[i]? with
  |none=>rw[hl] at ha;cases ha
  |some x=>
   cases hr:r[i]? with
   |none=>rw[hr] at hb;cases hb
   |some y=>
    rw[hl] at ha
    rw[hr] at hb
    simp at ha hb
    subst ha;subst hb
    exact hfg x y hl hr
 ·simp only[e,if_false,id_map] at ha hb
  exact h.2 j a b (by simpa using ha) (by simpa using hb)
theorem Els.append{α β:Type}{R:α→β→Prop}{l l':List α}{r r':List β}(h:Els R l r)(h':Els R l' r'):Els R (l++l') (r++r'):=by
 refine⟨by simp[h.1,h'.1],λj a b ha hb=>?_⟩
 rw[List.getElem?_append] at ha hb
 rw[h.1] at ha
 split at ha
 ·rename_i hj
  rw[if_pos hj] at hb
  exact h.2 j a b ha hb
 ·rename_i hj
  rw[if_neg hj] at hb
  exact h'.2 _ a b ha hb
theorem Els.one{α β:Type}{R:α→β→Prop}{a:α}{b:β}(h:R a b):Els R [a] [b]:=
 Els.cons h ⟨rfl,λj a b ha=>by simp at ha⟩
theorem Els.erase{α β:Type}{R:α→β→Prop}{l:List α}{r:List β}(h:Els R l r)(i:Nat):Els R (l.eraseIdx i) (r.eraseIdx i):=by
 refine⟨by simp[List.length_eraseIdx,h.1],λj a b ha hb=>?_⟩
 rw[List.getElem?_eraseIdx] at ha hb
 by_cases hj:j<i
 ·rw[if_pos hj] at ha hb;exact h.2 j a b ha hb
 ·rw[if_neg hj] at ha hb;exact h.2 _ a b ha hb
theorem push_list(ms:Array MapEntry)(m:MapEntry):(ms.toList++[m]).toArray=ms.push m:=by apply Array.ext';simp
abbrev ER(E:Em)(w:World):Dat×Dat×Nat→MapEntry→Prop:=λe m=>Rep E w e.1 m.key∧Rep E w e.2.1 m.val∧m.born=e.2.2
theorem fin_map(hm:MRel E w st){b:Nat}{ms ms':Array MapEntry}{c c':Nat}{v:Val}{u:Value}{s:Sem Value}(hb:w.heap[b]?=some (.map ms c))
 (hs:s.run P w=.ok u (mapSet w b ms' c')) (hv:RepV E w st.tabs v u)
 (h:MRel E (mapSet w b ms' c') st'∧Up E w st.glob.toks E (mapSet w b ms' c') st'.glob.toks∧UpL E st.boxes st.toks E st'.boxes st'.toks):DoesS P s E w st v st':=
 ⟨u,_,E,hs,RepV.up h.2.1 h.2.2 hv,h.1,h.2.1,h.2.2⟩
theorem fin_mapU(hm:MRel E w st){b:Nat}{ms ms':Array MapEntry}{c c':Nat}{s:Sem Unit}(hs:s.run P w=.ok () (mapSet w b ms' c'))
 (h:MRel E (mapSet w b ms' c') st'∧Up E w st.glob.toks E (mapSet w b ms' c') st'.glob.toks∧UpL E st.boxes st.toks E st'.boxes st'.toks):DoesU P s E w st st':=
 ⟨_,E,hs,h.1,h.2.1,h.2.2⟩
theorem keeps_run{k:Dat}{vk:Value}{kt:TypeId}(hk:keyOk T kt k=true)(rk:Rep E w k vk):(Instr.keyThatStays vk vk).run P w=.ok vk w:=by
 simp only[Instr.keyThatStays,sameBits_self hk rk 9999,if_true,Sem.run_pure]
theorem mapUpdate_run(hT:T.Ok P)(hm:MRel E w st){t:TypeId}{m k x:Val}{vm vk vx:Value}(hx:RepV E w st.tabs m vm)(hk:RepV E w st.tabs k vk)(hv:RepV E w st.tabs x vx){A:Doing}(h:doMapUpdate T t m k x=some A)
 {out:Out} (ha:A.apply st=some (out,st')):out=.val .undef∧DoesU P (Instr.mapUpdate t vm vk vx) E w st st':=by
 unfold doMapUpdate at h
 split at h
 ·rename_i kt e k x' ht hd'
  have hu:=mapTy_und hT ht
  cases hk with
  |d _ _ hk=>
  have hvx:=hv.toD hd'
  split at h
  ·rename_i hko
   obtain⟨d,hd,hdk⟩:=keyOk_und hko
   have hd:=hT.und _ _ hd
   have hck:=λb=>checkKey_run (w:=w) hd hdk b 9999 vk
   obtain⟨b,ms,es,c,v,es',c',rfl,hb,he,hf,rfl,_,_,hst⟩:=onMap_run hm hx h ha
   cases hp:putK k x' es c with
   |none=>rw[hp] at hf;cases hf
   |some r=>
    rw[hp] at hf
    cases hf
    refine⟨rfl,?_⟩
    unfold putK at hp
    cases hfk:findK k es 0 with
    |none=>rw[hfk] at hp;cases hp
    |some q=>
     obtain⟨r',f1,f2,f3⟩:=findK_run hT hd hko hk es ms.toList 0 q he.els hfk
     rw[hfk] at hp
     cases q with
     |none=>
      cases hp
      have hr':=f2 rfl
      subst hr'
      have hels:Els (ER E w) (es++[(k,x',c)]) (ms.toList++[{key:=vk,val:=vx,born:=c}]):=he.els.append (.one ⟨hk,hvx,rfl⟩)
      refine fin_mapU hm (b:=b) (ms:=ms) (c:=c) (c':=c+1) (ms':=ms.push {key:=vk,val:=vx,born:=c}) ?_ (hst rfl _ ?_)
      ·simp only[Instr.mapUpdate,Sem.run_bind,run_underlying hu w,Result.andThen_ok,getObj_map hb,hck,Instr.findKey,run_underlying hd w,f1,Sem.run_pure,setObj_map hb]
      ·have:=EntsRep.of_els hels
       rw[push_list] at this
       exact this
     |some p=>
      obtain⟨j,y⟩:=p
      cases hp
      obtain⟨n,e',m',g1,g2,g3,g4,g5,g6⟩:=f3 j y rfl
      have hjn:j=n:=by omega
      subst hjn
      subst g5
      have hels:Els (ER E w) (es.modify j λe=>(k,x',e.2.2)) (ms.toList.modify j λe=>{e with key:=vk,val:=vx}):=
       he.els.modify j (λa b ha hb=>⟨hk,hvx,(he.els.2 j a b ha hb).2.2⟩)
      have hmj:ms[j]?=some m':=by simpa using g3
      refine fin_mapU hm (b:=b) (ms:=ms) (c:=c) (c':=c) (ms':=ms.modify j λe=>{e with key:=vk,val:=vx}) ?_ (hst rfl _ ?_)
      ·simp only[Instr.mapUpdate,Sem.run_bind,run_underlying hu w,Result.andThen_ok,getObj_map hb,hck,Instr.findKey,run_underlying hd w,f1,Sem.run_pure]
       simp only[hmj,Option.map_some,Option.getD_some,g6,keeps_run hko hk,Result.andThen_ok,setObj_map hb]
      ·have:=EntsRep.of_els hels
       rw[show(ms.toList.modify j λe=>{e with key:=vk,val:=vx}).toArray=ms.modify j λe=>{e with key:=vk,val:=vx} from by apply Array.ext';simp] at this
       exact this
  ·cases h
 ·cases h
theorem mapEntry_run(hT:T.Ok P)(hm:MRel E w st){t:TypeId}{m k:Val}{vm vk:Value}(hx:RepV E w st.tabs m vm)(hk:RepV E w st.tabs k vk){A:Doing}(h:doMapEntry T t m k=some A)
 {out:Out} (ha:A.apply st=some (out,st')):∃v,out=.val v∧DoesS P (Instr.mapEntry t vm vk) E w st v st':=by
 unfold doMapEntry at h
 split at h
 ·rename_i kt e k ht
  have hu:=mapTy_und hT ht
  cases hk with
  |d _ _ hk=>
  split at h
  ·rename_i z hz
   obtain⟨i,zv,hi,hizv,hzr⟩:=hT.zero _ _ hz
   split at h
   ·rename_i hko
    obtain⟨d,hd,hdk⟩:=keyOk_und hko
    have hd:=hT.und _ _ hd
    have hck:=λb=>checkKey_run (w:=w) hd hdk b 9999 vk
    have tup:∀x y (n:Nat),Rep E w x y→RepV E w st.tabs (.tuple [.d x,.d (.int .i64 n)]) (.tuple #[y,goInt n]):=λx y n hxy=>by
     refine .tuple [.d x,.d (.int .i64 n)] [y,goInt n] rfl (λj c v hc hv=>?_)
     match j with
     |0=>simp at hc hv;subst hc;subst hv;exact .d _ _ hxy
     |1=>simp at hc hv;subst hc;subst hv;exact .d _ _ (.int _ _)
     |j+2=>simp at hc
    obtain⟨b,ms,es,c,v,es',c',rfl,hb,he,hf,rfl,_,_,hst⟩:=onMap_run hm hx h ha
    unfold entryK at hf
    cases hfk:findK k es 0 with
    |none=>rw[hfk] at hf;cases hf
    |some q=>
     obtain⟨r',f1,f2,f3⟩:=findK_run hT hd hko hk es ms.toList 0 q he.els hfk
     rw[hfk] at hf
     cases q with
     |none=>
      cases hf
      have hr':=f2 rfl
      subst hr'
      have hels:Els (ER E w) (es++[(k,z,c)]) (ms.toList++[{key:=vk,val:=zv,born:=c}]):=he.els.append (.one ⟨hk,hzr E w,rfl⟩)
      refine⟨_,rfl,fin_map hm (c:=c) hb (c':=c+1) (ms':=ms.push {key:=vk,val:=zv,born:=c}) (u:=.tuple #[zv,goInt c]) ?_ (tup _ _ _ (hzr E w)) (hst rfl _ ?_)⟩
      ·simp only[Instr.mapEntry,Sem.run_bind,run_underlying hu w,Result.andThen_ok,getObj_map hb,hck,Instr.findKey,run_underlying hd w,f1,Sem.run_pure,zeroValue_run hi hizv,setObj_map hb]
      ·have:=EntsRep.of_els hels
       rw[push_list] at this
       exact this
     |some p=>
      obtain⟨j,y⟩:=p
      obtain⟨n,e',m',g1,g2,g3,g4,g5,g6⟩:=f3 j y rfl
      have hjn:j=n:=by omega
      subst hjn
      subst g5
      simp only[g2] at hf
      cases hf
      have hels:Els (ER E w) (es.modify j λe=>(k,e.2)) (ms.toList.modify j λe=>{e with key:=vk}):=
       he.els.modify j (λa b ha hb=>⟨hk,(he.els.2 j a b ha hb).2⟩)
      have hmj:ms[j]?=some m':=by simpa using g3
      have hrow:=he.els.2 j e' m' g2 g3
      refine⟨_,rfl,fin_map hm (c:=c) hb (c':=c) (ms':=ms.modify j λe=>{e with key:=vk}) (u:=.tuple #[m'.val,goInt m'.born]) ?_ (by rw[g4,←hrow.2.2];exact tup _ _ _ hrow.2.1) (hst rfl _ ?_)⟩
      ·simp only[Instr.mapEntry,Sem.run_bind,run_underlying hu w,Result.andThen_ok,getObj_map hb,hck,Instr.findKey,run_underlying hd w,f1,Sem.run_pure]
       simp only[hmj,Option.map_some,Option.getD_some,g6,keeps_run hko hk,Result.andThen_ok,setObj_map hb]
      ·have:=EntsRep.of_els hels
       rw[show(ms.toList.modify j λe=>{e with key:=vk}).toArray=ms.modify j λe=>{e with key:=vk} from by apply Array.ext';simp] at this
       exact this
   ·cases h
  ·cases h
 ·cases h
theorem findIdx_eq{es:Entries}{ms:List MapEntry}(h:Els (ER E w) es ms)(n:Int):ms.findIdx? (λe=>(e.born:Int)==n)=es.findIdx? (λe=>(e.2.2:Int)==n):=by
 induction es generalizing ms with
 |nil=>cases ms with
  |nil=>rfl
  |cons _ _=>cases h.1
 |cons e es ih=>cases ms with
  |nil=>cases h.1
  |cons m ms=>
   simp only[List.findIdx?_cons,h.tail.1.2.2,ih h.tail.2]
theorem entryStore_run(hm:MRel E w st){t:TypeId}{m s x:Val}{vm vs vx:Value}(hx:RepV E w st.tabs m vm)(hs:RepV E w st.tabs s vs)(hv:RepV E w st.tabs x vx){A:Doing}(h:doEntryStore m s x=some A)
 {out:Out} (ha:A.apply st=some (out,st')):out=.val .undef∧DoesU P (Instr.entryStore t vm vs vx) E w st st':=by
 unfold doEntryStore at h
 split at h
 ·rename_i k n x' hd'
  cases hs with
  |d _ _ hs=>
  cases hs
  have hvx:=hv.toD hd'
  obtain⟨b,ms,es,c,v,es',c',rfl,hb,he,hf,rfl,_,_,hst⟩:=onMap_run hm hx h ha
  have hidx:=findIdx_eq he.els n
  cases hj:es.findIdx? (λe=>(e.2.2:Int)==n) with
  |none=>rw[hj] at hf;cases hf
  |some j=>
   rw[hj] at hf hidx
   cases hf
   have hels:Els (ER E w) (es.modify j λe=>(e.1,x',e.2.2)) (ms.toList.modify j λe=>{e with val:=vx}):=
    he.els.modify j (λa b ha hb=>⟨(he.els.2 j a b ha hb).1,hvx,(he.els.2 j a b ha hb).2.2⟩)
   refine⟨rfl,fin_mapU hm (b:=b) (ms:=ms) (c:=c) (c':=c) (ms':=ms.modify j λe=>{e with val:=vx}) ?_ (hst rfl _ ?_)⟩
   ·have hidx':ms.findIdx? (λe=>(e.born:Int)==n)=some j:=by
     rw[show ms.findIdx? (λe=>(e.born:Int)==n)=ms.toList.findIdx? (λe=>(e.born:Int)==n) from by rcases ms with ⟨l⟩;simp]
     exact hidx
    simp only[Instr.entryStore,Sem.run_bind,getObj_map hb,Result.andThen_ok,asInt,asIntOf,Sem.run_pure,hidx',setObj_map hb]
   ·have:=EntsRep.of_els hels
    rw[show(ms.toList.modify j λe=>{e with val:=vx}).toArray=ms.modify j λe=>{e with val:=vx} from by apply Array.ext';simp] at this
    exact this
 ·cases h
theorem delete_run(hT:T.Ok P)(hm:MRel E w st){t ty:TypeId}{ts:List TypeId}{m k:Val}{vm vk:Value}(hx:RepV E w st.tabs m vm)(hk:RepV E w st.tabs k vk){A:Doing}(h:doDelete T t m k=some A)
 {out:Out} (ha:A.apply st=some (out,st')):∃v,out=.val v∧DoesS P (Builtin.delete_ (t::ts).toArray ty #[vm,vk]) E w st v st':=by
 unfold doDelete at h
 split at h
 ·rename_i kt e k ht
  have hu:=mapTy_und hT ht
  cases hk with
  |d _ _ hk=>
  split at h
  ·rename_i hko
   obtain⟨d,hd,hdk⟩:=keyOk_und hko
   have hd:=hT.und _ _ hd
   have hck:=λb=>checkKey_run (w:=w) hd hdk b 9999 vk
   obtain⟨b,ms,es,c,v,es',c',rfl,hb,he,hf,rfl,_,_,hst⟩:=onMap_run hm hx h ha
   cases hfk:findK k es 0 with
   |none=>rw[hfk] at hf;cases hf
   |some q=>
    obtain⟨r',f1,f2,f3⟩:=findK_run hT hd hko hk es ms.toList 0 q he.els hfk
    rw[hfk] at hf
    have htup:RepV E w st.tabs (.tuple []) (.tuple #[]):=.tuple [] [] rfl (λj c v hc=>by simp at hc)
    cases q with
    |none=>
     cases hf
     have hr':=f2 rfl
     subst hr'
     refine⟨_,rfl,fin_map hm (c:=c) hb (c':=c) (ms':=ms) (u:=.tuple #[]) ?_ htup (hst rfl _ he)⟩
     simp[Builtin.delete_,run_underlying hu w,getObj_map hb,hck,Instr.findKey,run_underlying hd w,f1,setObj_map hb]
    |some p=>
     obtain⟨j,y⟩:=p
     cases hf
     obtain⟨n,e',m',g1,g2,g3,g4,g5,g6⟩:=f3 j y rfl
     subst g5
     have hels:Els (ER E w) (es.eraseIdx j) (ms.toList.eraseIdx j):=he.els.erase j
     refine⟨_,rfl,fin_map hm (c:=c) hb (c':=c) (ms':=ms.eraseIdxIfInBounds j) (u:=.tuple #[]) ?_ htup (hst rfl _ ?_)⟩
     ·simp[Builtin.delete_,run_underlying hu w,getObj_map hb,hck,Instr.findKey,run_underlying hd w,f1,setObj_map hb]
     ·have:=EntsRep.of_els hels
      rw[show(ms.toList.eraseIdx j).toArray=ms.eraseIdxIfInBounds j from by apply Array.ext';simp] at this
      exact this
  ·cases h
 ·cases h
end
end Go.Proofs.YtgmapdcdmomioaaGreatDoor.Am
namespace Go.Proofs.YtgmapdcdmomioaaGreatDoor.Am
open Go
section
variable{P:Program}{E:Em}{w:World}{st st':St}{T:Tb}
theorem makeMap_run(hT:T.Ok P)(hm:MRel E w st){t:TypeId}{esc:List Nat}{dst:Option Nat}{r:Option Val}{vr:Option Value}(hr:∀v u,r=some v→vr=some u→RepV E w st.tabs v u)(hrs:r.isSome=vr.isSome)
 (ht:r=none∨(mapTy T t).isSome=true) {A:Doing} (h:doMakeMap esc dst r=some A) {out:Out} (ha:A.apply st=some (out,st')):∃v,out=.val v∧DoesS P (Instr.makeMap t vr) E w st v st':=by
 unfold doMakeMap at h
 split at h
 ·rename_i k hint
  have hrun:(Instr.makeMap t vr).run P w=.ok (.map (some w.heap.size)) (w.alloc (.map #[] 0)):=by
   cases r with
   |none=>
    have:vr=none:=by cases vr with
     |none=>rfl
     |some _=>cases hrs
    subst this
    simp[Instr.makeMap]
   |some v=>
    cases vr with
    |none=>cases hrs
    |some u=>
     have hv:=hr v u rfl rfl
     rcases ht with ht|ht
     ·cases ht
     ·obtain⟨⟨kt,e⟩,hmt⟩:=Option.isSome_iff_exists.1 ht
      have hu:=mapTy_und hT hmt
      simp only at hint
      obtain⟨i,hi⟩:=Option.isSome_iff_exists.1 hint
      unfold intOf? at hi
      split at hi
      ·cases hi
       cases hv with
       |d _ _ hv=>
       cases hv
       simp[Instr.makeMap,run_underlying hu,asInt,asIntOf]
      ·cases hi
  have ents:∀E' w',EntsRep E' w' [] #[]:=λE' w'=>⟨rfl,λj e m he=>by simp at he⟩
  split at h
  ·cases h
   simp only[Doing.apply,Doing.look,Doing.put] at ha
   cases ha
   obtain⟨r1,r2,r3⟩:=hm.newGlob (pushed_alloc w (.map #[] 0)) (.map [] 0) (λE' _=>⟨#[],(pushed_alloc w _).new,ents _ _⟩)
   refine⟨_,rfl,_,_,_,hrun,.d _ _ ?_,r3,r1,r2⟩
   have e:(E.newGlob w.heap.size).gb st.glob.boxes.length=w.heap.size:=by rw[←hm.g.ng];simp[Em.newGlob]
   have:=Rep.map (E:=E.newGlob w.heap.size) (w:=w.alloc (.map #[] 0)) st.glob.boxes.length (by simp[Em.newGlob,hm.g.ng])
   rw[e] at this
   exact this
  ·cases h
   simp only[Doing.apply,Doing.look,Doing.put] at ha
   obtain⟨r1,r2,r3⟩:=hm.newBox (pushed_alloc w (.map #[] 0)) k (.map [] 0) (λE' T' _ _=>⟨#[],(pushed_alloc w _).new,ents _ _⟩)
   have loc:∀g,LmapOk (E.newBox k w.heap.size) ⟨st.boxes.set k (g,.map [] 0),st.toks,st.glob.toks⟩ k g (.map (some w.heap.size)):=λg=>
    ⟨w.heap.size,g,_,rfl,Mp.get_set_same _ _ _,Nat.le_refl _,λ_=>by simp[Em.newBox]⟩
   cases hb:st.boxes.get k with
   |none=>
    rw[hb] at ha r2 r3
    cases ha
    exact⟨_,rfl,_,_,_,hrun,.lmap _ _ _ (loc 0),r3,r1,r2⟩
   |some x=>
    obtain⟨g,bx⟩:=x
    rw[hb] at ha r2 r3
    cases ha
    exact⟨_,rfl,_,_,_,hrun,.lmap _ _ _ (loc (g+1)),r3,r1,r2⟩
 ·cases h
theorem range_run(hT:T.Ok P)(hm:MRel E w st){t:TypeId}{x:Val}{vx:Value}{dst:Option Nat}(hx:RepV E w st.tabs x vx){A:Doing}(h:doRange T t x dst=some A)
 {out:Out} (ha:A.apply st=some (out,st')):∃v,out=.val v∧DoesS P (Instr.range t vx) E w st v st':=by
 unfold doRange at h
 split at h
 ·rename_i k s hu
  have hu:=hT.und _ _ hu
  cases h
  cases hx with
  |d _ _ hx=>
  cases hx
  simp only[Doing.apply,Doing.look,Doing.put] at ha
  have hrun:(Instr.range t (.string ⟨s.toArray⟩)).run P w=.ok (.pointer (some ⟨w.heap.size,0,none⟩)) (w.alloc (.stringIter ⟨s.toArray⟩ 0)):=by
   simp[Instr.range,run_underlying hu]
  obtain⟨r1,r2,r3⟩:=hm.newBox (pushed_alloc w (.stringIter ⟨s.toArray⟩ 0)) k (.iter s 0) (λE' T' _ _=>(pushed_alloc w _).new)
  have loc:∀g,LocOk (E.newBox k w.heap.size) ⟨st.boxes.set k (g,.iter s 0),st.toks,st.glob.toks⟩ k g 0 (.pointer (some ⟨w.heap.size,0,none⟩)):=λg=>
   ⟨w.heap.size,g,_,rfl,Mp.get_set_same _ _ _,Nat.le_refl _,λ_=>by simp[Em.newBox]⟩
  cases hb:st.boxes.get k with
  |none=>
   rw[hb] at ha r2 r3
   cases ha
   exact⟨_,rfl,_,_,_,hrun,.loc _ _ _ _ (loc 0),r3,r1,r2⟩
  |some x=>
   obtain⟨g,bx⟩:=x
   rw[hb] at ha r2 r3
   cases ha
   exact⟨_,rfl,_,_,_,hrun,.loc _ _ _ _ (loc (g+1)),r3,r1,r2⟩
 ·cases h
theorem next_run(hm:MRel E w st){it:Val}{vi:Value}{isS':Bool}{ty:TypeId}(hx:RepV E w st.tabs it vi){A:Doing}(h:doNext it isS'=some A)
 {out:Out} (ha:A.apply st=some (out,st')):∃v,out=.val v∧DoesS P (Instr.next vi isS' ty) E w st v st':=by
 unfold doNext at h
 split at h
 ·rename_i k g
  cases h
  simp only[Doing.apply,Doing.look,Doing.put] at ha
  cases hx with
  |loc _ _ _ _ hx=>
  obtain⟨b,g',bx,rfl,hb,hle,hbx⟩:=hx
  have hb:st.boxes.get k=some (g',bx):=hb
  rw[hb] at ha
  cases bx with
  |cells cs=>cases ha
  |map es c=>cases ha
  |iter s pos=>
   simp only at ha
   by_cases e:g'=g
   ·simp only[e,if_true] at ha
    have hbb:=hbx e.symm
    subst hbb
    obtain⟨_,_,hat⟩:=hm.boxes k g' _ hb
    have hat:w.heap[E.bx k]?=some (.stringIter ⟨s.toArray⟩ pos):=hat
    have hlt:E.bx k<w.heap.size:=(Array.getElem?_eq_some_iff.1 hat).1
    have hget:(getObj (E.bx k)).run P w=.ok (.stringIter ⟨s.toArray⟩ pos) w:=by simp[getObj,Sem.run,hat]
    by_cases hpos:pos<s.length
    ·simp only[hpos,if_true] at ha
     cases ha
     generalize hd:Utf8.decode ⟨s.toArray⟩ pos=dd
     obtain⟨c,wd⟩:=dd
     have hw:Wrote w {w with heap:=w.heap.setIfInBounds (E.bx k) (.stringIter ⟨s.toArray⟩ (pos+wd))} (E.bx k) (.stringIter ⟨s.toArray⟩ (pos+wd)):=
      ⟨rfl,rfl,rfl,by simp,by simp[hlt],λj hj=>by simp[Array.getElem?_setIfInBounds_ne (λe=>hj e.symm)]⟩
     obtain⟨r1,r2,r3⟩:=hm.setBox hb (bx':=.iter s (pos+wd)) hw (λE' T' _ _=>hw.new)
     rw[←e]
     refine⟨_,rfl,.tuple #[.bool true,goInt pos,.int .i32 c],_,E,?_,?_,r3,r1,r2⟩
     ·have hset:(setObj (E.bx k) (.stringIter ⟨s.toArray⟩ (pos+wd))).run P w=.ok () {w with heap:=w.heap.setIfInBounds (E.bx k) (.stringIter ⟨s.toArray⟩ (pos+wd))}:=by simp[setObj,Sem.run,hat]
      have hp':pos<(⟨s.toArray⟩:ByteArray).size:=by rw[ba_size];exact hpos
      simp only[Instr.next,Sem.run_bind,hget,Result.andThen_ok,hp',if_true,hd,hset,Sem.run_pure]
     ·refine .tuple [.d (.bool true),.d (.int .i64 pos),.d (.int .i32 c)] [.bool true,goInt pos,.int .i32 c] rfl (λj x v hx hv=>?_)
      match j with
      |0=>simp at hx hv;subst hx;subst hv;exact .d _ _ (.bool _)
      |1=>simp at hx hv;subst hx;subst hv;exact .d _ _ (.int _ _)
      |2=>simp at hx hv;subst hx;subst hv;exact .d _ _ (.int _ _)
      |j+3=>simp at hx
    ·simp only[hpos,if_false] at ha
     cases ha
     obtain⟨r1,r2,r3⟩:=hm.setBox hb (bx':=.iter s pos) (w':=w) (o:=.stringIter ⟨s.toArray⟩ pos) ⟨rfl,rfl,rfl,rfl,hat,λ_ _=>rfl⟩ (λE' T' _ _=>hat)
     rw[←e]
     refine⟨_,rfl,.tuple #[.bool false],w,E,?_,?_,r3,r1,r2⟩
     ·have hp':¬pos<(⟨s.toArray⟩:ByteArray).size:=by rw[ba_size];exact hpos
      simp only[Instr.next,Sem.run_bind,hget,Result.andThen_ok,hp',if_false,Sem.run_pure]
     ·refine .tuple [.d (.bool false)] [.bool false] rfl (λj x v hx hv=>?_)
      match j with
      |0=>simp at hx hv;subst hx;subst hv;exact .d _ _ (.bool _)
      |j+1=>simp at hx
   ·simp only[e,if_false] at ha
    cases ha
 ·cases h
theorem len_run(hT:T.Ok P)(hm:MRel E w st){t ty:TypeId}{ts:List TypeId}{x:Val}{vx:Value}(hx:RepV E w st.tabs x vx){A:Doing}(h:doLen T t x=some A)
 {out:Out} (ha:A.apply st=some (out,st')):∃v,out=.val v∧DoesS P (Builtin.len_ (t::ts).toArray ty #[vx]) E w st v st':=by
 unfold doLen at h
 split at h
 ·rename_i s hu
  have hu:=hT.und _ _ hu
  cases h
  cases hx with
  |d _ _ hx=>
  cases hx
  refine PureS.does ⟨_,goInt s.length,rfl,?_,.d _ _ (.int _ _)⟩ hm ha
  simp[Builtin.len_,run_underlying hu,ba_size]
 ·rename_i x' _ _ e hu
  have hu:=hT.und _ _ hu
  cases he:x'.elems with
  |none=>rw[he] at h;cases h
  |some p=>
   obtain⟨m,xs⟩:=p
   rw[he] at h
   cases h
   obtain⟨_,a,c,rfl,_⟩:=elems_inv hx he
   refine PureS.does ⟨_,goInt xs.length,rfl,?_,.d _ _ (.int _ _)⟩ hm ha
   simp[Builtin.len_,run_underlying hu]
 ·rename_i k e hu
  have hu:=hT.und _ _ hu
  cases h
  cases hx with
  |d _ _ hx=>
  cases hx
  refine PureS.does ⟨_,goInt 0,rfl,?_,.d _ _ (.int _ _)⟩ hm ha
  simp[Builtin.len_,run_underlying hu]
 ·rename_i k e hu _
  have hu:=hT.und _ _ hu
  obtain⟨b,ms,es,c,v,es',c',rfl,hb,he,hf,rfl,_,hst,_⟩:=onMap_run hm hx h ha
  cases hf
  rw[hst rfl]
  refine⟨_,rfl,goInt es.length,w,E,?_,.d _ _ (.int _ _),hm,Up.refl _ _ _,UpL.refl _ _ _⟩
  simp[Builtin.len_,run_underlying hu,getObj_map hb,he.1]
 ·rename_i n e hu
  have hu:=hT.und _ _ hu
  cases h
  refine PureS.does ⟨_,goInt n,rfl,?_,.d _ _ (.int _ _)⟩ hm ha
  simp[Builtin.len_,run_underlying hu]
 ·cases h
end
end Go.Proofs.YtgmapdcdmomioaaGreatDoor.Am
