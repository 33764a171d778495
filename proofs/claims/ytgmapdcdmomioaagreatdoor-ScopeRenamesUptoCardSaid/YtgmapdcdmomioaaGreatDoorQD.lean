/- Calls in the plain machine. Calls in the plain machine, as operations. Each operation of the plain machine is the model's. One step of the plain machine is the model's; operations in the text's order. Steps of the plain machine that have nothing to do with each other change places. Operations in any order that the model may choose. -/
import Derived.Test.YtgmapdcdmomioaaGreatDoorQC
set_option linter.all false
set_option autoImplicit false
namespace Go.Proofs.YtgmapdcdmomioaaGreatDoor.Am
open Go
def RepO1(E:Em)(w:World)(B:Nat):Val→Value→Prop
 |.d x,v=>Rep E w x v
 |.uq m xs,v=>Rep E w (.sl m xs) v∧∃b cap cur t,v=.slice (some ⟨b,0,none⟩) xs.length cap∧w.heap[b]?=some (.cells cur t (0,0))∧xs.length≤cap∧cur.size=cap*m∧0<m∧
  B≤b∧E.owner b=none∧∀o,E.imm b o↔o<xs.length*m
 |_,_=>False
def RepO(E:Em)(w:World)(B:Nat):Val→Value→Prop
 |.tuple vs,v=>∃us:List Value,v=.tuple us.toArray∧Els (RepO1 E w B) vs us
 |x,v=>RepO1 E w B x v
def OutRep(E:Em)(w:World)(B:Nat):Out→Ending→Prop
 |.val v,e=>∃u,e=.returned u∧RepO E w B v u
 |.panic x,e=>∃u,e=.panicked [{v:=u,recovered:=false}]∧Rep E w x u
def GlobOnly(E:Em):Prop:=∀b ow,E.owner b=some ow→(∃i,ow=.glob i)∨∃i,ow=.gtok i
def Post(E:Em)(w:World)(g:Glob)(out:Out)(g':Glob):Ending→World→Prop:=λe w'=>
 ∃E',Up E w g.toks E' w' g'.toks∧GRel E' w' g'∧GlobOnly E'∧OutRep E' w' w.heap.size out e
def Enters(P:Program)(f:FuncId):Prop:=∃fn,P.funcs[f]?=some fn∧(fn.name== "runtime.NumGoroutine")=false∧fn.body.isNone=false
def Em.glob(E:Em):Em:={E with owner:=λb=>match E.owner b with|some (.glob i)=>some (.glob i)|some (.gtok i)=>some (.gtok i)|_=>none}
structure BaseOk(Bs:Em→World→Prop):Prop where
 up:∀{E w G E' w' G'},Bs E w→Up E w G E' w' G'→Bs E' w'
 glob:∀{E w},Bs E w→Bs E.glob w
structure Sound(P:Program)(Bs:Em→World→Prop)(R:Caller):Prop where
 base:BaseOk Bs
 calls:∀f ds g out g',R f ds g=some (out,g')→Enters P f∧∀E w vs,Bs E w→GRel E w g→GlobOnly E→ReL E w ds vs→Calls P f vs.toArray w (Post E w g out g')
section
variable{P:Program}{E E':Em}{w:World}{st st':St}{T:Tb}
def SameI(E E':Em):Prop:=E'.imm=E.imm∧E'.gk=E.gk∧E'.gt=E.gt
theorem Rep.same(h1:E'.ng=E.ng)(h2:E'.gb=E.gb)(h3:SameI E E'){d:Dat}{v:Value}(h:Rep E w d v):Rep E' w d v:=by
 induction h with
 |bool b=>exact .bool b
 |int k n=>exact .int k n
 |str s=>exact .str s
 |ptrN=>exact .ptrN
 |ptr i o h=>rw[←h2];exact .ptr i o (by rw[h1];exact h)
 |nil a=>exact .nil a
 |emp m a c=>exact .emp m a c
 |sl m xs b o c vs hc hm a1 a2 a3 a4 ih=>exact .sl m xs b o c vs hc hm a1 (λi x hx j d hd=>by rw[h3.1];exact a2 i x hx j d hd) a3 ih
 |gsl t m xs v n h hk hn ht ih=>exact .gsl t m xs v n ih (by rw[h3.2.1];exact hk) hn (λe=>by rw[h3.2.2];exact ht e)
 |mapN=>exact .mapN
 |map i h=>rw[←h2];exact .map i (by rw[h1];exact h)
 |clo f cap vs hl h ih=>exact .clo f cap vs hl ih
 |bnd f r v h ih=>exact .bnd f r v ih
 |nilFn=>exact .nilFn
 |iface t d v h ih=>exact .iface t d v ih
 |nilIface=>exact .nilIface
 |agg cs vs hl a1 h ih=>exact .agg cs vs hl a1 ih
theorem RepG.same(h1:E'.ng=E.ng)(h2:E'.gb=E.gb)(h3:SameI E E')(h4:E'.gt=E.gt){G:List (Nat×Nat)}{c:GVal}{v:Value}(h:RepV E w ⟨⟨[]⟩,⟨[]⟩,G⟩ c.v v):RepV E' w ⟨⟨[]⟩,⟨[]⟩,G⟩ c.v v:=by
 cases c with
 |d x=>cases h with
  |d _ _ h=>exact .d _ _ (h.same h1 h2 h3)
 |own g m xs=>cases h with
  |gown _ _ _ _ h h'=>
   refine .gown _ _ _ _ (h.same h1 h2 h3) ?_
   obtain⟨a,b,c,d,e⟩:=h'
   exact⟨a,b,c,d,λq=>by rw[h4];exact e q⟩
theorem GBoxAt.same(h1:E'.ng=E.ng)(h2:E'.gb=E.gb)(h3:SameI E E')(h4:E'.gt=E.gt){G:List (Nat×Nat)}{b:Nat}{bx:GBox}(h:GBoxAt E w G b bx):GBoxAt E' w G b bx:=by
 cases bx with
 |cells cs=>
  obtain⟨vs,t,a1,a2,a3,a4⟩:=h
  refine⟨vs,t,a1,a2,a3,λj c v hc hv=>?_⟩
  have:=a4 j c v hc hv
  rw[List.getElem?_map] at hc
  simp only[Option.map_eq_some_iff] at hc
  obtain⟨c',_,rfl⟩:=hc
  exact RepG.same h1 h2 h3 h4 this
 |map es c=>
  obtain⟨ms,a1,a2,a3⟩:=h
  exact⟨ms,a1,a2,λj e m he hm=>let ⟨a,b,c⟩:=a3 j e m he hm;⟨a.same h1 h2 h3,b.same h1 h2 h3,c⟩⟩
theorem Em.glob_only(E:Em):GlobOnly E.glob:=by
 intro b ow h
 simp only[Em.glob] at h
 split at h
 ·cases h;exact .inl ⟨_,rfl⟩
 ·cases h;exact .inr ⟨_,rfl⟩
 ·cases h
theorem Em.glob_glob{b i:Nat}:E.glob.owner b=some (.glob i)↔E.owner b=some (.glob i):=by
 simp only[Em.glob]
 constructor
 ·intro h;split at h
  ·cases h;assumption
  ·cases h
  ·cases h
 ·intro h;rw[h]
theorem Em.glob_gtok{b i:Nat}:E.glob.owner b=some (.gtok i)↔E.owner b=some (.gtok i):=by
 simp only[Em.glob]
 constructor
 ·intro h;split at h
  ·cases h
  ·cases h;assumption
  ·cases h
 ·intro h;rw[h]
theorem GRel.glob{g:Glob}(h:GRel E w g):GRel E.glob w g where
 own_lt b ow hb:=by
  rcases E.glob_only b ow hb with ⟨i,rfl⟩|⟨i,rfl⟩
  ·exact h.own_lt b _ (Em.glob_glob.1 hb)
  ·exact h.own_lt b _ (Em.glob_gtok.1 hb)
 own_g b i hb:=h.own_g b i (Em.glob_gtok.1 hb)
 gk:=h.gk
 imm_lt:=h.imm_lt
 ng:=h.ng
 boxes i bx hb:=let ⟨a,b,c⟩:=h.boxes i bx hb;⟨Em.glob_glob.2 a,b,GBoxAt.same (E:=E) (E':=E.glob) rfl rfl ⟨rfl,rfl,rfl⟩ rfl c⟩
 toks i m n hm:=by
  obtain⟨b,cap,cur,t,e1,e2,e3,e4,e5,e6,e7⟩:=h.toks i m n hm
  exact⟨b,cap,cur,t,e1,e2,e3,e4,e5,Em.glob_gtok.2 e6,e7⟩
def Em.back(E E1:Em):Em:=
 {E1 with owner:=λb=>match E.owner b with|some (.box k)=>some (.box k)|some (.tok k)=>some (.tok k)|_=>E1.owner b,bx:=E.bx,tk:=E.tk}
theorem MRel.back(hm:MRel E w st){E1:Em}{w1:World}{g':Glob}(u:Up E.glob w st.glob.toks E1 w1 g'.toks)(hg:GRel E1 w1 g')(ho:GlobOnly E1):
 Up E w st.glob.toks (E.back E1) w1 g'.toks∧UpL E st.boxes st.toks (E.back E1) st.boxes st.toks∧MRel (E.back E1) w1 {st with glob:=g'}:=by
 have alien:∀b ow,E.owner b=some ow→(∀i,ow≠.glob i)→(∀i,ow≠.gtok i)→w1.heap[b]?=w.heap[b]?∧E1.owner b=none∧∀o,E1.imm b o→E.imm b o:=λb ow hb h1 h2=>by
  refine u.alien b (hm.g.own_lt b ow hb) ?_
  simp only[Em.glob,hb]
  cases ow<;>first|rfl|(exact absurd rfl (h1 _))|(exact absurd rfl (h2 _))
 have hu:Up E w st.glob.toks (E.back E1) w1 g'.toks:=by
  refine⟨u.os,u.tape,u.output,u.size,u.ng,u.gb,u.imm,u.cell,λb hb ho=>?_,u.gtoks,u.gk,λb k hb=>?_⟩
  rotate_left
  ·simp only[Em.back] at hb
   split at hb
   ·cases hb
   ·rename_i k' hk;cases hb;exact .inl hk
   ·rcases ho b _ hb with ⟨i,e⟩|⟨i,e⟩<;>cases e
  obtain⟨a,c,d⟩:=u.alien b hb (by simp only[Em.glob,ho])
  exact⟨a,by simp only[Em.back,ho];exact c,d⟩
 have hl:UpL E st.boxes st.toks (E.back E1) st.boxes st.toks:=
  ⟨λ_ g bx h=>⟨g,bx,h,Nat.le_refl _,λ_=>rfl⟩,λ_ g r h=>⟨g,r,h,Nat.le_refl _,λ_ m' n' hr=>⟨n',hr,Nat.le_refl _,λ_=>rfl⟩⟩⟩
 have bo:∀b ow,E1.owner b=some ow→(E.back E1).owner b=some ow:=λb ow hb=>by
  simp only[Em.back]
  split
  ·rename_i k hk
   have:=(alien b _ hk (by simp) (by simp)).2.1
   rw[hb] at this;cases this
  ·rename_i k hk
   have:=(alien b _ hk (by simp) (by simp)).2.1
   rw[hb] at this;cases this
  ·exact hb
 have keep:∀ow,(∀i,ow≠.glob i)→(∀i,ow≠.gtok i)→Keep E w (E.back E1) w1 ow:=λow h1 h2 b hb=>by
  obtain⟨a,c,d⟩:=alien b ow hb h1 h2
  refine⟨a,?_,λo=>⟨d o,u.imm b o⟩⟩
  simp only[Em.back,hb]
  cases ow<;>first|rfl|(exact absurd rfl (h1 _))|(exact absurd rfl (h2 _))
 refine⟨hu,hl,hm.step hu hl hg.gk ?_ hg.imm_lt hg.ng ?_ ?_ ?_ ?_ ?_⟩
 ·intro b ow hb
  simp only[Em.back] at hb
  split at hb
  ·rename_i k hk;exact Nat.lt_of_lt_of_le (hm.g.own_lt b _ hk) u.size
  ·rename_i k hk;exact Nat.lt_of_lt_of_le (hm.g.own_lt b _ hk) u.size
  ·exact hg.own_lt b ow hb
 ·intro i bx hb
  obtain⟨a,c,d⟩:=hg.boxes i bx hb
  exact .inr ⟨bo _ _ a,c,GBoxAt.same (E:=E1) (E':=E.back E1) rfl rfl ⟨rfl,rfl,rfl⟩ rfl d⟩
 ·intro i m n hmn
  obtain⟨b,cap,cur,t,e1,e2,e3,e4,e5,e6,e7⟩:=hg.toks i m n hmn
  exact .inr ⟨b,cap,cur,t,e1,e2,e3,e4,e5,bo _ _ e6,e7⟩
 ·exact λk g bx hb=>.inl ⟨hb,keep _ (by simp) (by simp),rfl⟩
 ·exact λk g m n hb=>.inl ⟨hb,keep _ (by simp) (by simp),rfl⟩
 ·intro b i hb
  simp only[Em.back] at hb
  split at hb
  ·cases hb
  ·cases hb
  ·exact hg.own_g b i hb
theorem RepV.adopt{B B':Mp (Nat×Box)}{K K':Mp (Nat×Option (Nat×Nat))}{G:List (Nat×Nat)}(l:UpL E B K E' B' K')(h1:E'.ng=E.ng)(h2:E'.gb=E.gb)(h3:SameI E E')(h4:E'.gt=E.gt)
 {x:Val} {v:Value} (h:RepV E w ⟨B,K,G⟩ x v):RepV E' w ⟨B',K',G⟩ x v:=by
 induction h with
 |d x v h=>exact .d x v (h.same h1 h2 h3)
 |loc k g o v h=>exact .loc k g o v (h.up l)
 |lmap k g v h=>exact .lmap k g v (h.up l)
 |imm cs b o a1 a2 h=>
  refine .imm cs b o a1 (λj d hd=>by rw[h3.1];exact a2 j d hd) (λj d hd=>?_)
  obtain⟨x,hx,hr⟩:=h j d hd
  exact⟨x,hx,hr.same h1 h2 h3⟩
 |own k g m xs v h h'=>exact .own k g m xs v (h.same h1 h2 h3) (h'.up l)
 |gown g m xs v h h'=>
  refine .gown g m xs v (h.same h1 h2 h3) ?_
  obtain⟨a,b,c,d,e⟩:=h'
  exact⟨a,b,c,d,λq=>by rw[h4];exact e q⟩
 |agg cs vs hl a1 h ih=>exact .agg cs vs hl a1 ih
 |tuple cs vs hl h ih=>exact .tuple cs vs hl ih
 |undef v=>exact .undef v
def Em.adopt(E:Em)(k b:Nat)(v:Value):Em:=
 {E with owner:=λb'=>if b'=b then some (.tok k) else if E.owner b'=some (.tok k) then none else E.owner b',tk:=upd E.tk k v}
theorem MRel.adopt(h:MRel E w st){w0:World}{E0:Em}{G0:List (Nat×Nat)}(u0:Up E0 w0 G0 E w st.glob.toks){k m n b cap:Nat}{cur:Array Value}{t:TypeId}(hb:w.heap[b]?=some (.cells cur t (0,0)))(hnc:n≤cap)
 (hcur:cur.size=cap*m) (h0:0<m) (hB:w0.heap.size≤b) (ho:E.owner b=none) (hi:∀o,E.imm b o↔o<n*m):
 Up E0 w0 G0 (E.adopt k b (.slice (some ⟨b,0,none⟩) n cap)) w st.glob.toks∧
 UpL E st.boxes st.toks (E.adopt k b (.slice (some ⟨b,0,none⟩) n cap)) st.boxes (st.toks.set k (nextGen (st.toks.get k),some (m,n)))∧
 MRel (E.adopt k b (.slice (some ⟨b,0,none⟩) n cap)) w {st with toks:=st.toks.set k (nextGen (st.toks.get k),some (m,n))}:=by
 generalize hv:Value.slice (some ⟨b,0,none⟩) n cap=v
 have hlt:b<w.heap.size:=(Array.getElem?_eq_some_iff.1 hb).1
 have hu:Up E0 w0 G0 (E.adopt k b v) w st.glob.toks:=by
  refine⟨u0.os,u0.tape,u0.output,u0.size,u0.ng,u0.gb,u0.imm,u0.cell,λb' hb' ho'=>?_,u0.gtoks,u0.gk,λb' k' hb'=>?_⟩
  rotate_left
  ·simp only[Em.adopt] at hb'
   split at hb'
   ·rename_i e;right;omega
   ·split at hb'
    ·cases hb'
    ·exact u0.tok b' k' hb'
  obtain⟨a,c,d⟩:=u0.alien b' hb' ho'
  have:b'≠b:=by omega
  exact⟨a,by simp[Em.adopt,this,c],d⟩
 have hl:UpL E st.boxes st.toks (E.adopt k b v) st.boxes (st.toks.set k (nextGen (st.toks.get k),some (m,n))):=by
  refine⟨λ_ g bx h=>⟨g,bx,h,Nat.le_refl _,λ_=>rfl⟩,λi g r hr=>?_⟩
  by_cases hik:k=i
  ·subst hik
   refine⟨_,_,Mp.get_set_same _ _ _,?_,?_⟩
   ·rw[hr];simp[nextGen]
   ·rw[hr];intro e;simp[nextGen] at e
  ·refine⟨g,r,by rw[Mp.get_set_ne _ _ hik];exact hr,Nat.le_refl _,λ_ m' n' e=>⟨n',e,Nat.le_refl _,λ_=>?_⟩⟩
   simp only[Em.adopt]
   exact upd_ne _ _ (λe=>hik e.symm)
 refine⟨hu,hl,?_⟩
 have own:∀b' ow,ow≠.tok k→E.owner b'=some ow→(E.adopt k b v).owner b'=some ow:=λb' ow how hb'=>by
  have h1:b'≠b:=λe=>by rw[e,ho] at hb';cases hb'
  have h2:¬ow=.tok k:=how
  simp[Em.adopt,h1,hb',h2]
 exact {
  g:={
   own_lt:=λb' ow hb'=>by
    simp only[Em.adopt] at hb'
    split at hb'
    ·rename_i e;rw[e];exact hlt
    ·split at hb'
     ·cases hb'
     ·exact h.g.own_lt b' ow hb'
   own_g:=λb' i hb'=>by
    simp only[Em.adopt] at hb'
    split at hb'
    ·cases hb'
    ·split at hb'
     ·cases hb'
     ·exact h.g.own_g b' i hb'
   gk:=h.g.gk
   imm_lt:=h.g.imm_lt
   ng:=h.g.ng
   boxes:=λi bx hbx=>let ⟨a,c,d⟩:=h.g.boxes i bx hbx;⟨own _ _ (by simp) a,c,GBoxAt.same (E:=E) (E':=E.adopt k b v) rfl rfl ⟨rfl,rfl,rfl⟩ rfl d⟩
   toks:=λi m' n' hm'=>by
    obtain⟨b',cap',cur',t',e1,e2,e3,e4,e5,e6,e7⟩:=h.g.toks i m' n' hm'
    exact⟨b',cap',cur',t',e1,e2,e3,e4,e5,own _ _ (by simp) e6,e7⟩}
  boxes:=λi g bx hbx=>by
   obtain⟨a,c,d⟩:=h.boxes i g bx hbx
   refine⟨own _ _ (by simp) a,c,?_⟩
   cases bx with
   |iter s pos=>exact d
   |map es c=>obtain⟨ms,a1,a2,a3⟩:=d;exact⟨ms,a1,a2,λj e m he hm=>let ⟨a,b',c⟩:=a3 j e m he hm;⟨Rep.same (E:=E) (E':=E.adopt k b v) rfl rfl ⟨rfl,rfl,rfl⟩ a,Rep.same (E:=E) (E':=E.adopt k b v) rfl rfl ⟨rfl,rfl,rfl⟩ b',c⟩⟩
   |cells cs=>
    obtain⟨vs,t',a1,a2,a3,a4⟩:=d
    exact⟨vs,t',a1,a2,a3,λj c v' hc hv'=>(a4 j c v' hc hv').adopt hl rfl rfl ⟨rfl,rfl,rfl⟩ rfl⟩
  toks:=λi g m' n' hm'=>by
   by_cases hik:k=i
   ·subst hik
    rw[Mp.get_set_same] at hm'
    cases hm'
    have e:(E.adopt k b v).tk k=v:=by simp[Em.adopt]
    rw[e,←hv]
    exact⟨b,cap,cur,t,rfl,hb,hnc,hcur,h0,by simp[Em.adopt],hi⟩
   ·rw[Mp.get_set_ne _ _ hik] at hm'
    obtain⟨b',cap',cur',t',e1,e2,e3,e4,e5,e6,e7⟩:=h.toks i g m' n' hm'
    have e:(E.adopt k b v).tk i=E.tk i:=by simp only[Em.adopt];exact upd_ne _ _ (λe=>hik e.symm)
    rw[e]
    exact⟨b',cap',cur',t',e1,e2,e3,e4,e5,own _ _ (λe=>hik (by cases e;rfl)) e6,e7⟩}
end
end Go.Proofs.YtgmapdcdmomioaaGreatDoor.Am
namespace Go.Proofs.YtgmapdcdmomioaaGreatDoor.Am
open Go
def Good(P:Program)(e:Operand→Value)(o:Oper)(E:Em)(w:World)(st:St)(out:Out)(st':St):Prop:=
 ∀(a:Act) (K:Act→World→Prop) (Q:Exit→Act→World→Prop),
  (∀v,out=.val v→∀E' w' u,RepV E' w' st'.tabs v u→MRel E' w' st'→Up E w st.glob.toks E' w' st'.glob.toks→UpL E st.boxes st.toks E' st'.boxes st'.toks→K (a.put o.dst u) w')→
  (∀x,out=.panic x→∀E' w' u,Rep E' w' x u→GRel E' w' st'.glob→Up E w st.glob.toks E' w' st'.glob.toks→Q (.panic [{v:=u,recovered:=false}]) a w')→
  o.upon P a K Q ((execOp e o).run P w)
section
variable{P:Program}{E E':Em}{w w':World}{st st':St}{T:Tb}{e:Operand→Value}{o:Oper}{out:Out}
theorem Good.of_does{s:Sem Value}(hs:(execOp e o).run P w=(s.run P w).andThen λu w'=>.ok (.value u) w')(h:∃v,out=.val v∧DoesS P s E w st v st'):Good P e o E w st out st':=by
 obtain⟨v,rfl,u,w',E',h1,h2,h3,h4,h5⟩:=h
 intro a K Q hK _
 rw[hs,h1]
 exact hK v rfl E' w' u h2 h3 h4 h5
theorem Good.of_doesU{s:Sem Unit}(hs:(execOp e o).run P w=(s.run P w).andThen λ_ w'=>.ok .skip w')(h:out=.val .undef∧DoesU P s E w st st'):Good P e o E w st out st':=by
 obtain⟨rfl,w',E',h1,h2,h3,h4⟩:=h
 intro a K Q hK _
 rw[hs,h1]
 exact hK .undef rfl E' w' undef (.undef _) h2 h3 h4
theorem Good.of_ret{v:Val}{u:Value}(hm:MRel E w st)(hs:(execOp e o).run P w=.ok (.value u) w)(hv:RepV E w st.tabs v u)(ha:(Doing.ret v).apply st=some (out,st')):Good P e o E w st out st':=by
 rw[ret_apply] at ha
 cases ha
 intro a K Q hK _
 rw[hs]
 exact hK v rfl E w u hv hm (Up.refl _ _ _) (UpL.refl _ _ _)
theorem RepO1.noUq{B:Nat}{Tt:Tabs}{v:Val}{u:Value}(h:RepO1 E w B v u)(h1:E'.ng=E.ng)(h2:E'.gb=E.gb)(h3:SameI E E'):RepV E' w Tt (noUq1 v) u:=by
 cases v<;>first|exact h.elim|skip
 ·exact .d _ _ (Rep.same h1 h2 h3 h)
 ·exact .d _ _ (Rep.same h1 h2 h3 h.1)
theorem RepO1.plain{B:Nat}{Tt:Tabs}{v:Val}{u:Value}(h:RepO1 E w B v u)(hn:∀m xs,v≠.uq m xs)(h1:E'.ng=E.ng)(h2:E'.gb=E.gb)(h3:SameI E E'):RepV E' w Tt v u:=by
 cases v<;>first|exact h.elim|skip
 ·exact .d _ _ (Rep.same h1 h2 h3 h)
 ·exact absurd rfl (hn _ _)
theorem adopt1_spec{B k g:Nat}:∀(vs:List Val) (us:List Value),Els (RepO1 E w B) vs us→
 ((adopt1 k g vs).2=none→(adopt1 k g vs).1=vs∧∀v∈vs,∀m xs,v≠.uq m xs)∧
 (∀m n,(adopt1 k g vs).2=some (m,n)→∃xs u,n=xs.length∧RepO1 E w B (.uq m xs) u∧
  ∀(E':Em) (Tt:Tabs),E'.ng=E.ng→E'.gb=E.gb→SameI E E'→OwnOk E' Tt k g n u→Els (RepV E' w Tt) (adopt1 k g vs).1 us)
 |[],us,h=>⟨λ_=>⟨rfl,λv hv=>by cases hv⟩,λm n hh=>by cases hh⟩
 |v::vs,us,h=>by
  cases us with
  |nil=>cases h.1
  |cons u us=>
   obtain⟨h1,h2⟩:=h.tail
   obtain⟨i1,i2⟩:=adopt1_spec (k:=k) (g:=g) vs us h2
   by_cases hu:∃m xs,v=.uq m xs
   ·obtain⟨m,xs,rfl⟩:=hu
    refine⟨λhh=>(by cases hh),λm' n hh=>?_⟩
    cases hh
    refine⟨xs,u,rfl,h1,λE' Tt a b c d=>Els.cons (.own _ _ _ _ _ (Rep.same a b c h1.1) d) ⟨by simp[h2.1],λj x y hx hy=>?_⟩⟩
    simp only[List.getElem?_map,Option.map_eq_some_iff] at hx
    obtain⟨x',hx',rfl⟩:=hx
    exact(h2.2 j x' y hx' hy).noUq a b c
   ·have hn:∀m xs,v≠.uq m xs:=λm xs e=>hu ⟨m,xs,e⟩
    have ea:adopt1 k g (v::vs)=(v::(adopt1 k g vs).1,(adopt1 k g vs).2):=by
     cases v<;>first|rfl|(exact absurd rfl (hn _ _))
    rw[ea]
    refine⟨λhh=>?_,λm n hh=>?_⟩
    ·obtain⟨j1,j2⟩:=i1 hh
     exact⟨by rw[j1],λx hx=>by
      rcases List.mem_cons.1 hx with rfl|hx
      ·exact hn
      ·exact j2 x hx⟩
    ·obtain⟨xs,u',j1,j2,j3⟩:=i2 m n hh
     exact⟨xs,u',j1,j2,λE' Tt a b c d=>Els.cons (h1.plain hn a b c) (j3 E' Tt a b c d)⟩
theorem adopt_spec{B k g:Nat}{v:Val}{u:Value}(h:RepO E w B v u):
 ((adopt k g v).2=none→∀(E':Em) (Tt:Tabs),E'.ng=E.ng→E'.gb=E.gb→SameI E E'→RepV E' w Tt (adopt k g v).1 u)∧
 (∀m n,(adopt k g v).2=some (m,n)→∃xs u',n=xs.length∧RepO1 E w B (.uq m xs) u'∧
  ∀(E':Em) (Tt:Tabs),E'.ng=E.ng→E'.gb=E.gb→SameI E E'→OwnOk E' Tt k g n u'→RepV E' w Tt (adopt k g v).1 u):=by
 cases v with
 |d x=>exact⟨λ_ E' Tt a b c=>.d _ _ (Rep.same a b c h),λm n hh=>by cases hh⟩
 |uq m xs=>
  refine⟨λhh=>(by cases hh),λm' n hh=>?_⟩
  cases hh
  exact⟨xs,u,rfl,h,λE' Tt a b c d=>.own _ _ _ _ _ (Rep.same a b c h.1) d⟩
 |tuple vs=>
  obtain⟨us,rfl,h⟩:=h
  obtain⟨i1,i2⟩:=adopt1_spec (k:=k) (g:=g) vs us h
  refine⟨λhh E' Tt a b c=>?_,λm n hh=>?_⟩
  ·obtain⟨j1,j2⟩:=i1 hh
   have e:(adopt k g (.tuple vs)).1=.tuple vs:=by show Val.tuple (adopt1 k g vs).1=_;rw[j1]
   rw[e]
   exact .tuple vs us h.1 (λj x y hx hy=>(h.2 j x y hx hy).plain (j2 x (List.mem_of_getElem? hx)) a b c)
  ·obtain⟨xs,u',j1,j2,j3⟩:=i2 m n hh
   exact⟨xs,u',j1,j2,λE' Tt a b c d=>let q:=j3 E' Tt a b c d;.tuple _ us q.1 q.2⟩
 |_=>exact h.elim
theorem noUq_spec{B:Nat}{v:Val}{u:Value}(h:RepO E w B v u)(E':Em)(Tt:Tabs)(a:E'.ng=E.ng)(b:E'.gb=E.gb)(c:SameI E E'):RepV E' w Tt (noUq v) u:=by
 cases v with
 |tuple vs=>
  obtain⟨us,rfl,h⟩:=h
  refine .tuple _ us (by simp[h.1]) (λj x y hx hy=>?_)
  simp only[List.getElem?_map,Option.map_eq_some_iff] at hx
  obtain⟨x',hx',rfl⟩:=hx
  exact(h.2 j x' y hx' hy).noUq a b c
 |d x=>exact RepO1.noUq (B:=B) (v:=.d x) h a b c
 |uq m xs=>exact RepO1.noUq (B:=B) (v:=.uq m xs) h a b c
 |_=>exact h.elim
theorem call_good{R:Caller}{Bs:Em→World→Prop}(hR:Sound P Bs R)(hb:Bs E w)(hm:MRel E w st){f:FuncId}{ds:List Dat}{vs:List Value}(hds:ReL E w ds vs)(hrun:Enters P f→(execOp e o).run P w=.ok (.enter f vs.toArray) w)
 (ha:(doCall R f ds o.dst).apply st=some (out,st')):Good P e o E w st out st':=by
 intro a K Q hK hQ
 have base:∀(r:Out) (g':Glob),R f ds st.glob=some (r,g')→
  (∀v,r=.val v→∀E1 w1 u,Up E.glob w st.glob.toks E1 w1 g'.toks→GRel E1 w1 g'→GlobOnly E1→RepO E1 w1 w.heap.size v u→K (a.put o.dst u) w1)→
  (∀x,r=.panic x→∀E1 w1 u,Rep E1 w1 x u→GRel E1 w1 g'→Up E.glob w st.glob.toks E1 w1 g'.toks→Q (.panic [{v:=u,recovered:=false}]) a w1)→
  o.upon P a K Q ((execOp e o).run P w):=λr g' hr h1 h2=>by
  obtain⟨hen,hc⟩:=hR.calls f ds st.glob r g' hr
  rw[hrun hen,Oper.upon_enter]
  have hds':ReL E.glob w ds vs:=⟨hds.1,λj d v hd hv=>Rep.same (E:=E) (E':=E.glob) rfl rfl ⟨rfl,rfl,rfl⟩ (hds.2 j d v hd hv)⟩
  refine(hc E.glob w vs (hR.base.glob hb) hm.g.glob E.glob_only hds').mono (λen w1 hp=>?_)
  obtain⟨E1,u1,u2,u3,u4⟩:=hp
  cases r with
  |val v=>
   obtain⟨u,rfl,hu⟩:=u4
   exact h1 v rfl E1 w1 u u1 u2 u3 hu
  |panic x=>
   obtain⟨u,rfl,hu⟩:=u4
   exact h2 x rfl E1 w1 u hu u2 u1
 have pan:∀(g':Glob) (E1:Em) (w1:World),Up E.glob w st.glob.toks E1 w1 g'.toks→GRel E1 w1 g'→GlobOnly E1→Up E w st.glob.toks (E.back E1) w1 g'.toks∧GRel (E.back E1) w1 g':=λg' E1 w1 u hg ho=>
  let ⟨a,_,c⟩:=hm.back u hg ho
  ⟨a,c.g⟩
 have upE:∀(g':Glob) (E1:Em) (w1:World),Up E.glob w st.glob.toks E1 w1 g'.toks→Up E w st.glob.toks E1 w1 g'.toks:=λg' E1 w1 u=>
  ⟨u.os,u.tape,u.output,u.size,u.ng,u.gb,u.imm,u.cell,λb hb ho=>u.alien b hb (by simp only[Em.glob,ho]),u.gtoks,u.gk,λb k hb=>by
   rcases u.tok b k hb with h|h
   ·rcases E.glob_only b _ h with ⟨i,e⟩|⟨i,e⟩<;>cases e
   ·exact .inr h⟩
 unfold doCall at ha
 cases hdst:o.dst with
 |none=>
  rw[hdst] at ha
  simp only[Doing.apply,Doing.look,Doing.put] at ha
  cases hr:R f ds st.glob with
  |none=>rw[hr] at ha;cases ha
  |some p=>
   obtain⟨r,g'⟩:=p
   rw[hr] at ha
   cases r with
   |val v=>
    cases ha
    refine base _ g' hr (λv' hv' E1 w1 u u1 u2 u3 u4=>?_) (λx hx=>by cases hx)
    cases hv'
    obtain⟨b1,b2,b3⟩:=hm.back u1 u2 u3
    exact hK _ rfl (E.back E1) w1 u (noUq_spec u4 _ _ rfl rfl ⟨rfl,rfl,rfl⟩) b3 b1 b2
   |panic x=>
    cases ha
    refine base _ g' hr (λv' hv'=>by cases hv') (λx' hx' E1 w1 u hu hg u1=>?_)
    cases hx'
    exact hQ _ rfl E1 w1 u hu hg (upE _ _ _ u1)
 |some k=>
  rw[hdst] at ha
  simp only[Doing.apply,Doing.look,Doing.put] at ha
  cases hr:R f ds st.glob with
  |none=>rw[hr] at ha;cases ha
  |some p=>
   obtain⟨r,g'⟩:=p
   rw[hr] at ha
   cases r with
   |val v=>
    simp only at ha
    refine base _ g' hr (λv' hv' E1 w1 u u1 u2 u3 u4=>?_) (λx hx=>by cases hx)
    cases hv'
    obtain⟨b1,b2,b3⟩:=hm.back u1 u2 u3
    have hgen:genOf (st.toks.get k)=nextGen (st.toks.get k):=by cases st.toks.get k<;>rfl
    obtain⟨s1,s2⟩:=adopt_spec (k:=k) (g:=genOf (st.toks.get k)) u4
    cases had:adopt k (genOf (st.toks.get k)) v with
    |mk v1 q=>
     rw[had] at ha s1 s2
     cases q with
     |none=>
      cases ha
      exact hK _ rfl (E.back E1) w1 u (s1 rfl _ _ rfl rfl ⟨rfl,rfl,rfl⟩) b3 b1 b2
     |some mn=>
      obtain⟨m,n⟩:=mn
      cases ha
      obtain⟨xs,u',j1,⟨j2,b,cap,cur,t,k1,k2,k3,k4,k5,k6,k7,k8⟩,j3⟩:=s2 m n rfl
      subst j1
      have hob:(E.back E1).owner b=none:=by
       simp only[Em.back]
       split
       ·rename_i k' hk';have:=hm.g.own_lt b _ hk';omega
       ·rename_i k' hk';have:=hm.g.own_lt b _ hk';omega
       ·exact k7
      obtain⟨c1,c2,c3⟩:=b3.adopt (k:=k) b1 k2 k3 k4 k5 k6 hob k8
      have hst:({st with glob:=g'}:St).toks.get k=st.toks.get k:=rfl
      rw[hst,←hgen] at c2 c3
      refine hK _ rfl ((E.back E1).adopt k b (.slice (some ⟨b,0,none⟩) xs.length cap)) w1 u (j3 _ _ rfl rfl ⟨rfl,rfl,rfl⟩ ?_) c3 c1 (b2.trans c2)
      refine⟨_,_,Mp.get_set_same _ _ _,Nat.le_refl _,λ_ m' n' e=>?_⟩
      cases e
      exact⟨Nat.le_refl _,λ_=>by rw[k1];simp[Em.adopt]⟩
   |panic x=>
    cases ha
    refine base _ g' hr (λv' hv'=>by cases hv') (λx' hx' E1 w1 u hu hg u1=>?_)
    cases hx'
    exact hQ _ rfl E1 w1 u hu hg (upE _ _ _ u1)
end
end Go.Proofs.YtgmapdcdmomioaaGreatDoor.Am
namespace Go.Proofs.YtgmapdcdmomioaaGreatDoor.Am
open Go
section
variable{P:Program}{E:Em}{w:World}{st st':St}{T:Tb}{o:Oper}{out:Out}
theorem els_map{Tt:Tabs}{f:Operand→Val}{e:Operand→Value}(he:∀x,RepV E w Tt (f x) (e x))(l:List Operand):Els (RepV E w Tt) (l.map f) (l.map e):=
 ⟨by simp,λj a b ha hb=>by
  simp only[List.getElem?_map,Option.map_eq_some_iff] at ha hb
  obtain⟨x,hx,rfl⟩:=ha
  obtain⟨y,hy,rfl⟩:=hb
  rw[hx] at hy
  cases hy
  exact he x⟩
theorem els_parts{Tt:Tabs}{f:Operand→Val}{e:Operand→Value}(he:∀x,RepV E w Tt (f x) (e x))(l:List (Nat×Operand)):
 Els (λ(p:Nat×Val) (q:Nat×Value)=>p.1=q.1∧RepV E w Tt p.2 q.2) (l.map λp=>(p.1,f p.2)) (l.map λp=>(p.1,e p.2)):=
 ⟨by simp,λj a b ha hb=>by
  simp only[List.getElem?_map,Option.map_eq_some_iff] at ha hb
  obtain⟨x,hx,rfl⟩:=ha
  obtain⟨y,hy,rfl⟩:=hb
  rw[hx] at hy
  cases hy
  exact⟨rfl,he _⟩⟩
theorem builtin_good(hT:T.Ok P)(hm:MRel E w st){e:Operand→Value}{f:Operand→Val}(he:∀x,RepV E w st.tabs (f x) (e x)){esc:List Nat}{b:Builtin}{ts:List TypeId}{args:List Operand}{ty:TypeId}{cs:Array Bool}{A:Doing}
 (hrun:(execOp e o).run P w=(builtin b ts.toArray ty cs (args.map e).toArray).run P w) (hd:doBuiltin T esc b ts (args.map f) o.dst=some A) (ha:A.apply st=some (out,st')):Good P e o E w st out st':=by
 unfold doBuiltin at hd
 split at hd
 ·rename_i t ts' x hl
  match args,hl with
  |[x0],hl=>
   simp at hl
   subst hl
   refine Good.of_does (s:=Builtin.len_ (t::ts').toArray ty #[e x0]) ?_ (len_run hT hm (he x0) hd ha)
   rw[hrun];simp[builtin]
 ·rename_i t tx s x hl
  match args,hl with
  |[s0,x0],hl=>
   simp at hl
   obtain⟨rfl,rfl⟩:=hl
   refine Good.of_does (s:=Builtin.append_ #[t,tx] ty #[e s0,e x0]) ?_ (append_run hT hm (he s0) (he x0) hd ha)
   rw[hrun];simp[builtin]
 ·rename_i t ts' m k hl
  match args,hl with
  |[m0,k0],hl=>
   simp at hl
   obtain⟨rfl,rfl⟩:=hl
   refine Good.of_does (s:=Builtin.delete_ (t::ts').toArray ty #[e m0,e k0]) ?_ (delete_run hT hm (he m0) (he k0) hd ha)
   rw[hrun];simp[builtin]
 ·rename_i a l hl
  match args,hl with
  |x0::r,hl=>
   simp at hl
   obtain⟨h1,rfl⟩:=hl
   have hx:=he x0
   rw[h1] at hx
   generalize hx0:e x0=v0 at hx
   cases hx with
   |d _ _ hx=>
   cases hx
   cases hmx:maxes true a (r.map f) with
   |none=>rw[hmx] at hd;cases hd
   |some n=>
    rw[hmx] at hd
    cases hd
    have:=max_run (P:=P) (w:=w) true (e:=λ_=>.nilFunc) (r.map f) (r.map e) a n (els_map he r) hmx
    refine Good.of_ret hm ?_ (.d _ _ (.int .i64 n)) ha
    rw[hrun]
    simp only[if_true] at this
    simp[builtin,Builtin.max_,hx0,this]
 ·rename_i a l hl
  match args,hl with
  |x0::r,hl=>
   simp at hl
   obtain⟨h1,rfl⟩:=hl
   have hx:=he x0
   rw[h1] at hx
   generalize hx0:e x0=v0 at hx
   cases hx with
   |d _ _ hx=>
   cases hx
   cases hmx:maxes false a (r.map f) with
   |none=>rw[hmx] at hd;cases hd
   |some n=>
    rw[hmx] at hd
    cases hd
    have:=max_run (P:=P) (w:=w) false (e:=λ_=>.nilFunc) (r.map f) (r.map e) a n (els_map he r) hmx
    refine Good.of_ret hm ?_ (.d _ _ (.int .i64 n)) ha
    rw[hrun]
    simp only[Bool.false_eq_true,if_false] at this
    simp[builtin,Builtin.min_,hx0,this]
 ·cases hd
set_option maxHeartbeats 8000000 in
theorem doing_sound{R:Caller}{Bs:Em→World→Prop}(hT:T.Ok P)(hR:Sound P Bs R)(hb:Bs E w)(hm:MRel E w st){a0:Act}{f:Operand→Val}(he:∀x,RepV E w st.tabs (f x) (a0.eval x)){A:Doing}(hd:doing T R st.esc f o=some A)
 (ha:A.apply st=some (out,st')):Good P a0.eval o E w st out st':=by
 obtain⟨dst,op,type,pos,after,guard⟩:=o
 have opt:∀(x:Option Operand),(∀v u,x.map f=some v→x.map a0.eval=some u→RepV E w st.tabs v u)∧(x.map f).isSome=(x.map a0.eval).isSome:=λx=>by
  cases x with
  |none=>exact⟨λv u h=>(by cases h),rfl⟩
  |some y=>exact⟨λv u h1 h2=>(by cases h1;cases h2;exact he y),rfl⟩
 cases op
 case move x=>cases hd;exact Good.of_ret hm rfl (he x) ha
 case assign x=>cases hd;exact Good.of_ret hm rfl (he x) ha
 case pick c x y=>
  simp only[doing] at hd
  have hc:=he c
  generalize hcc:a0.eval c=vc at hc
  split at hd
  ·rename_i h1
   rw[h1] at hc
   cases hd
   cases hc with
   |d _ _ hc=>
   cases hc
   exact Good.of_ret hm (by simp[execOp,hcc,asBool]) (he x) ha
  ·rename_i h1
   rw[h1] at hc
   cases hd
   cases hc with
   |d _ _ hc=>
   cases hc
   exact Good.of_ret hm (by simp[execOp,hcc,asBool]) (he y) ha
  ·cases hd
 case alloc t=>
  simp only[doing] at hd
  split at hd
  ·rename_i z hz
   exact Good.of_does (s:=Instr.alloc t true (.tuple #[])) (by simp only[execOp,Sem.run_bind,Sem.run_pure]) (alloc_run hT hm hz hd ha)
  ·cases hd
 case box t x=>exact Good.of_does (s:=Instr.box t (a0.eval x)) (by simp only[execOp,Sem.run_bind,Sem.run_pure]) (box_run hm (he x) hd ha)
 case build t ps=>
  have hb:=build_run (P:=P) hT (els_parts he ps.toList) hd
  exact Good.of_does (s:=Instr.build t (ps.toList.map λp=>(p.1,a0.eval p.2)).toArray) (by
   have:(ps.map λ(i,x)=>(i,a0.eval x))=(ps.toList.map λp=>(p.1,a0.eval p.2)).toArray:=by apply Array.ext';simp
   simp only[execOp,Sem.run_bind,Sem.run_pure,this]) (hb.does hm ha)
 case buildSlice t n ps=>
  exact Good.of_does (s:=Instr.buildSlice t n (ps.toList.map λp=>(p.1,a0.eval p.2)).toArray) (by
   have:(ps.map λ(i,x)=>(i,a0.eval x))=(ps.toList.map λp=>(p.1,a0.eval p.2)).toArray:=by apply Array.ext';simp
   simp only[execOp,Sem.run_bind,Sem.run_pure,this]) (buildSlice_run hT hm (els_parts he ps.toList) hd ha)
 case load t x=>exact Good.of_does (s:=Instr.loadAt t (a0.eval x)) (by simp only[execOp,Sem.run_bind,Sem.run_pure]) (load_run hT hm (he x) hd ha)
 case store t x y=>exact Good.of_doesU (s:=Instr.storeAt t (a0.eval x) (a0.eval y)) (by simp only[execOp,Sem.run_bind,Sem.run_pure]) (store_run hT hm (he x) (he y) hd ha)
 case nilCheck x=>
  obtain⟨v,rfl,h1,h2⟩:=nilCheck_run (P:=P) (he x) hd ⟨dst,.nilCheck x,type,pos,after,guard⟩ a0.eval x rfl rfl
  exact Good.of_ret hm h1 h2 ha
 case binOp op t x y ty=>
  have hb:=bin_run (P:=P) hT (x:=x) (y:=y) (he x) (he y) (λc hc=>by rw[hc];rfl) (λc hc=>by rw[hc];rfl) hd
  exact Good.of_does (s:=do eqGuard op t x y (a0.eval x) (a0.eval y);binOp op t (a0.eval x) (a0.eval y)) (by simp only[execOp,Sem.run_bind,Sem.run_pure]) (hb.does hm ha)
 case unOp op t x=>exact Good.of_does (s:=Op.unary op (a0.eval x)) (by simp only[execOp,Sem.run_bind,Sem.run_pure]) ((un_run (P:=P) (he x) hd).does hm ha)
 case convert s d x=>exact Good.of_does (s:=convert s d (a0.eval x)) (by simp only[execOp,Sem.run_bind,Sem.run_pure]) (convert_run hT hm (he x) hd ha)
 case makeInterface t x=>exact Good.of_does (s:=Instr.makeInterface t (a0.eval x)) (by simp only[execOp,Sem.run_bind,Sem.run_pure]) ((iface_run (P:=P) hT (he x) hd).does hm ha)
 case makeFunc fn first cap=>
  have h1:=els_map he cap.toList
  have hf:=func_run (P:=P) (fn:=fn) (els_map he first.toList).1 h1.1 (els_map he first.toList).2 h1.2 hd
  exact Good.of_does (s:=Instr.makeFunc fn (first.toList.map a0.eval).toArray (cap.toList.map a0.eval).toArray) (by
   have e1:first.map a0.eval=(first.toList.map a0.eval).toArray:=by apply Array.ext';simp
   have e2:cap.map a0.eval=(cap.toList.map a0.eval).toArray:=by apply Array.ext';simp
   simp only[execOp,Sem.run_bind,Sem.run_pure,e1,e2]) (hf.does hm ha)
 case makeMap t r=>
  simp only[doing] at hd
  split at hd
  ·rename_i hc
   have hr:r.map f=none∨(mapTy T t).isSome=true:=by
    cases r with
    |none=>exact .inl rfl
    |some _=>exact .inr (by simpa using hc)
   exact Good.of_does (s:=Instr.makeMap t (r.map a0.eval)) (by simp only[execOp,Sem.run_bind,Sem.run_pure]) (makeMap_run hT hm (opt r).1 (opt r).2 hr hd ha)
  ·cases hd
 case makeSlice t l c=>exact Good.of_does (s:=Instr.makeSlice t (a0.eval l) (a0.eval c)) (by simp only[execOp,Sem.run_bind,Sem.run_pure]) (makeSlice_run hT hm (he l) (he c) hd ha)
 case slice t x lo hi mx=>
  have hs:=slice_run (P:=P) hT (he x) (opt lo).1 (opt lo).2 (opt hi).1 (opt hi).2 (opt mx).1 (opt mx).2 hd
  exact Good.of_does (s:=Instr.sliceAt t (a0.eval x) (lo.map a0.eval) (hi.map a0.eval) (mx.map a0.eval)) (by simp only[execOp,Sem.run_bind,Sem.run_pure]) (hs.does hm ha)
 case fieldAddr s x n=>exact Good.of_does (s:=Instr.fieldAt s (a0.eval x) n) (by simp only[execOp,Sem.run_bind,Sem.run_pure]) ((fieldAddr_run (P:=P) hT (he x) hd).does hm ha)
 case field s x n=>exact Good.of_does (s:=Instr.field s (a0.eval x) n) (by simp only[execOp,Sem.run_bind,Sem.run_pure]) ((field_run (P:=P) hT (he x) hd).does hm ha)
 case indexAddr t x i=>exact Good.of_does (s:=Instr.indexAt t (a0.eval x) (a0.eval i)) (by simp only[execOp,Sem.run_bind,Sem.run_pure]) ((indexAddr_run (P:=P) hT (he x) (he i) hd).does hm ha)
 case index t x i=>exact Good.of_does (s:=Instr.index t (a0.eval x) (a0.eval i)) (by simp only[execOp,Sem.run_bind,Sem.run_pure]) ((index_run (P:=P) hT (he x) (he i) hd).does hm ha)
 case lookup t x i ok=>exact Good.of_does (s:=Instr.lookup t (a0.eval x) (a0.eval i) ok) (by simp only[execOp,Sem.run_bind,Sem.run_pure]) (lookup_run hT hm (he x) (he i) hd ha)
 case mapUpdate t m k x=>exact Good.of_doesU (s:=Instr.mapUpdate t (a0.eval m) (a0.eval k) (a0.eval x)) (by simp only[execOp,Sem.run_bind,Sem.run_pure]) (mapUpdate_run hT hm (he m) (he k) (he x) hd ha)
 case insert t m k x=>exact Good.of_doesU (s:=Instr.mapUpdate t (a0.eval m) (a0.eval k) (a0.eval x)) (by simp only[execOp,Sem.run_bind,Sem.run_pure]) (mapUpdate_run hT hm (he m) (he k) (he x) hd ha)
 case mapEntry t m k=>exact Good.of_does (s:=Instr.mapEntry t (a0.eval m) (a0.eval k)) (by simp only[execOp,Sem.run_bind,Sem.run_pure]) (mapEntry_run hT hm (he m) (he k) hd ha)
 case entryStore t m s x=>exact Good.of_doesU (s:=Instr.entryStore t (a0.eval m) (a0.eval s) (a0.eval x)) (by simp only[execOp,Sem.run_bind,Sem.run_pure]) (entryStore_run hm (he m) (he s) (he x) hd ha)
 case range t x=>exact Good.of_does (s:=Instr.range t (a0.eval x)) (by simp only[execOp,Sem.run_bind,Sem.run_pure]) (range_run hT hm (he x) hd ha)
 case next it s=>exact Good.of_does (s:=Instr.next (a0.eval it) s type) (by simp only[execOp,Sem.run_bind,Sem.run_pure]) (next_run hm (he it) hd ha)
 case typeAssert x xt t ok=>exact Good.of_does (s:=Instr.typeAssert (a0.eval x) xt t ok) (by simp only[execOp,Sem.run_bind,Sem.run_pure]) ((assert_run (P:=P) hT (he x) hd).does hm ha)
 case extract t i=>
  simp only[doing] at hd
  have hc:=he t
  generalize hcc:a0.eval t=vc at hc
  split at hd
  ·rename_i vs h1
   rw[h1] at hc
   cases hv:vs[i]? with
   |none=>rw[hv] at hd;cases hd
   |some v=>
    rw[hv] at hd
    cases hd
    cases hc with
    |tuple _ us hl hr=>
    have hil:i<us.length:=by rw[←hl];exact(List.getElem?_eq_some_iff.1 hv).1
    exact Good.of_ret hm (by simp[execOp,hcc,Instr.extract,hil]) (hr i v _ hv (List.getElem?_eq_getElem hil)) ha
  ·cases hd
 case panic x=>
  simp only[doing] at hd
  have hc:=he x
  generalize hcc:a0.eval x=vc at hc
  split at hd
  ·rename_i t v h1
   rw[h1] at hc
   cases hd
   simp only[Doing.apply,Doing.look,Doing.put] at ha
   cases ha
   cases hc with
   |d _ _ hc=>
   cases hc with
   |iface _ _ u hu=>
   intro a K Q _ hQ
   have:(execOp a0.eval (⟨dst,.panic x,type,pos,after,guard⟩:Oper)).run P w=.halt (.panic (.iface t u)) w:=by simp[execOp,hcc,Instr.panic,goPanic,Sem.run]
   rw[this,Oper.upon_panic]
   exact hQ _ rfl E w _ (.iface _ _ _ hu) hm.g (Up.refl _ _ _)
  ·cases hd
 case call c=>
  obtain⟨callee,args,argTypes⟩:=c
  have eargs:args.map a0.eval=(args.toList.map a0.eval).toArray:=by apply Array.ext';simp
  cases callee with
  |invoke r m=>
   simp only[doing] at hd
   have hc:=he r
   generalize hcc:a0.eval r=vc at hc
   split at hd
   ·rename_i t v ds h1 hds
    rw[h1] at hc
    split at hd
    ·rename_i f hf
     cases hd
     cases hc with
     |d _ _ hc=>
     cases hc with
     |iface _ _ u hu=>
     obtain⟨hdl,hdg⟩:=optAll_get hds
     have hds':ReL E w (v::ds) (u::args.toList.map a0.eval):=by
      refine Els.cons hu ⟨by simp[←hdl],λj x y hx hy=>?_⟩
      simp only[List.getElem?_map,Option.map_eq_some_iff] at hy
      obtain⟨z,hz,rfl⟩:=hy
      exact(he z).toD (hdg j z x hz hx)
     refine call_good hR hb hm hds' (λ⟨g,g1,g2,g3⟩=>?_) ha
     have g2':¬g.name= "runtime.NumGoroutine" :=by simpa using g2
     have g3':¬g.body=none:=by intro h;simp[h] at g3
     have hme:=hT.meth t m f hf u w
     have eex:(#[Value.iface t u]++args.map a0.eval).extract 1 (#[Value.iface t u]++args.map a0.eval).size=args.map a0.eval:=by
      apply Array.ext'
      simp[List.take_of_length_le]
     have hcm:(callMethod (.iface t u) m (args.map a0.eval)).run P w=.ok (.enter f (u::args.toList.map a0.eval).toArray) w:=by
      have hpr:(program).run P w=.ok P w:=rfl
      unfold callMethod
      simp only[Sem.run_bind,hpr,Result.andThen_ok,hme]
      simp[callFunc,g1,g2',g3',eargs]
     have e0:(#[Value.iface t u]++args.map a0.eval)[0]?=some (.iface t u):=by
      rw[Array.getElem?_append_left (Nat.zero_lt_one)]
      rfl
     have hinv:(invoke (.fn (.method m) #[]) (#[Value.iface t u]++args.map a0.eval)).run P w=.ok (.enter f (u::args.toList.map a0.eval).toArray) w:=by
      unfold invoke
      simp only[e0,eex]
      exact hcm
     show(execOp a0.eval (⟨dst,.call ⟨.invoke r m,args,argTypes⟩,type,pos,after,guard⟩:Oper)).run P w=_
     simp only[execOp,resolve,hcc]
     exact hinv
    ·cases hd
   ·cases hd
  |builtin b=>
   simp only[doing] at hd
   refine builtin_good hT hm he (ts:=argTypes.toList) (ty:=type) (cs:=args.map λ|.const _=>true|_=>false) ?_ hd ha
   simp only[execOp,resolve,invoke,Sem.run_bind,Sem.run_pure,Result.andThen_ok,eargs,Array.toArray_toList]
   rfl
  |value fo=>
   simp only[doing] at hd
   have hc:=he fo
   generalize hcc:a0.eval fo=vc at hc
   split at hd
   ·rename_i fn cap ds h1 hds
    rw[h1] at hc
    cases hd
    cases hc with
    |d _ _ hc=>
    cases hc with
    |clo _ _ vs hl hr=>
    obtain⟨hdl,hdg⟩:=optAll_get hds
    have hds':ReL E w (ds++cap) (args.toList.map a0.eval++vs):=by
     have e1:Els (Rep E w) ds (args.toList.map a0.eval):=by
      refine⟨by simp[←hdl],λj x y hx hy=>?_⟩
      simp only[List.getElem?_map,Option.map_eq_some_iff] at hy
      obtain⟨z,hz,rfl⟩:=hy
      exact(he z).toD (hdg j z x hz hx)
     have e2:Els (Rep E w) cap vs:=⟨hl,hr⟩
     exact e1.append e2
    refine call_good hR hb hm hds' (λ⟨g,g1,g2,g3⟩=>?_) ha
    have g2':¬g.name= "runtime.NumGoroutine" :=by simpa using g2
    have g3':¬g.body=none:=by intro h;simp[h] at g3
    simp[execOp,resolve,Deferred.ofValue,hcc,invoke,callFunc,g1,g2',g3',eargs]
   ·rename_i fn r ds h1 hds
    rw[h1] at hc
    cases hd
    cases hc with
    |d _ _ hc=>
    cases hc with
    |bnd _ _ u hu=>
    obtain⟨hdl,hdg⟩:=optAll_get hds
    have hds':ReL E w (r::ds) (u::args.toList.map a0.eval):=by
     have e1:Els (Rep E w) ds (args.toList.map a0.eval):=by
      refine⟨by simp[←hdl],λj x y hx hy=>?_⟩
      simp only[List.getElem?_map,Option.map_eq_some_iff] at hy
      obtain⟨z,hz,rfl⟩:=hy
      exact(he z).toD (hdg j z x hz hx)
     exact Els.cons hu e1
    refine call_good hR hb hm hds' (λ⟨g,g1,g2,g3⟩=>?_) ha
    have g2':¬g.name= "runtime.NumGoroutine" :=by simpa using g2
    have g3':¬g.body=none:=by intro h;simp[h] at g3
    simp[execOp,resolve,Deferred.ofValue,hcc,invoke,callFunc,g1,g2',g3',eargs]
   ·cases hd
 all_goals (simp[doing] at hd)
end
end Go.Proofs.YtgmapdcdmomioaaGreatDoor.Am
namespace Go.Proofs.YtgmapdcdmomioaaGreatDoor.Am
open Go
structure DRel(E:Em)(w:World)(defs:List (FuncId×List Dat))(pin:List (Nat×Nat×Nat))(a:Act):Prop where
 pins:∀p∈pin,p.2.1<E.ng∧a.tmps.getD p.1 undef=.pointer (some ⟨E.gb p.2.1,p.2.2,none⟩)
 defs:DefsRep E w a.defers defs
section
variable{P:Program}{E E':Em}{w w':World}{st st':St}{T:Tb}{a:Act}{G G':List (Nat×Nat)}
theorem DRel.up(u:Up E w G E' w' G'){defs:List (FuncId×List Dat)}{pin:List (Nat×Nat×Nat)}(h:DRel E w defs pin a):DRel E' w' defs pin a where
 pins p hp:=let ⟨h1,h2⟩:=h.pins p hp;⟨Nat.lt_of_lt_of_le h1 u.ng,by rw[u.gb _ h1];exact h2⟩
 defs:=h.defs.up u
theorem LRel.drel(h:LRel E w st a):DRel E w st.defs st.pin a:=⟨h.pins,h.defs⟩
theorem getD_set(l:Array Value)(i j:Nat)(v d:Value):(l.setIfInBounds i v).getD j d=if i=j then(if i<l.size then v else d) else l.getD j d:=by
 simp only[Array.getD_eq_getD_getElem?,Array.getElem?_setIfInBounds]
 by_cases h1:i=j
 ·by_cases h2:i<l.size<;>simp[h1]<;>split<;>simp_all
 ·simp[h1]
theorem MRel.put(h:MRel E w st)(dst:Option Nat)(v:Val):MRel E w (st.put dst v):=by
 cases dst with
 |none=>exact h
 |some d=>exact⟨h.g,h.boxes,h.toks⟩
theorem St.put_glob(st:St)(dst:Option Nat)(v:Val):(st.put dst v).glob=st.glob:=by cases dst<;>rfl
theorem LRel.put(h:LRel E w st a)(u:Up E w st.glob.toks E' w' st'.glob.toks)(l:UpL E st.boxes st.toks E' st'.boxes st'.toks)
 (h1:st'.nt=st.nt) (h2:st'.regs=st.regs) (h3:st'.defs=st.defs) (h4:st'.pin=st.pin) {dst:Option Nat} {v:Val} {x:Value} (hv:RepV E' w' st'.tabs v x)
 (hd:dstOk st.nt dst=true) (hn:notPinned st.pin dst=true):LRel E' w' (st'.put dst v) (a.put dst x):=by
 have dr:=(LRel.drel h).up u
 cases dst with
 |none=>
  exact⟨by simp only[St.put,Act.put];rw[h1];exact h.nt,λt=>by simp only[St.put,Act.put];rw[h2];exact RepV.up u l (h.regs t),
   by simp only[St.put,Act.put];rw[h4];exact dr.pins,by simp only[St.put,Act.put];rw[h3];exact dr.defs⟩
 |some d=>
  have hd:d<st.nt:=by simpa[dstOk] using hd
  refine⟨by simp only[St.put,Act.put,Array.size_setIfInBounds];rw[h1];exact h.nt,λt=>?_,λp hp=>?_,by simp only[St.put,Act.put];rw[h3];exact dr.defs⟩
  ·simp only[St.put,Act.put,Mp.get_set,getD_set,h2]
   by_cases e:d=t
   ·rw[if_pos e,if_pos e,if_pos (by rw[h.nt];exact hd)]
    exact hv
   ·rw[if_neg e,if_neg e]
    exact RepV.up u l (h.regs t)
  ·have hp:p∈st.pin:=by simp only[St.put] at hp;rw[h4] at hp;exact hp
   have hne:d≠p.1:=by
    simp only[notPinned,List.all_eq_true] at hn
    have:=hn p hp
    intro e
    simp[e] at this
   simp only[Act.put,getD_set,if_neg hne]
   exact dr.pins p hp
theorem apply_frame{A:Doing}{out:Out}(h:A.apply st=some (out,st')):st'.nt=st.nt∧st'.regs=st.regs∧st'.defs=st.defs∧st'.pin=st.pin∧st'.esc=st.esc∧st'.res=st.res:=by
 unfold Doing.apply at h
 split at h
 ·cases h;exact⟨rfl,rfl,rfl,rfl,rfl,rfl⟩
 ·cases h
theorem wanted_of(h:LRel E w st a){ops:Array Oper}{o:Oper}{b:Bool}(hw:wantedA ops o st.regs=some b):Region.wanted o (yielded ops a.tmps)=b:=by
 unfold wantedA at hw
 unfold Region.wanted
 cases hg:o.guard with
 |none=>rw[hg] at hw;cases hw;rfl
 |some p=>
  obtain⟨j,c⟩:=p
  rw[hg] at hw
  simp only at hw
  unfold yielded
  cases ht:(ops[j]?).bind (·.dst) with
  |none=>rw[ht] at hw;cases hw
  |some t=>
   rw[ht] at hw
   simp only at hw
   have hr:=h.regs t
   split at hw
   ·rename_i c' hc
    cases hw
    rw[hc] at hr
    cases hr with
    |d _ _ hr=>
    generalize hx:a.tmps.getD t undef=x at hr
    cases hr
    have:a.tmps[t]?=some (.bool c'):=by
     rw[Array.getD_eq_getD_getElem?] at hx
     cases hq:a.tmps[t]? with
     |none=>rw[hq] at hx;simp[undef] at hx
     |some y=>rw[hq] at hx;simp at hx;rw[hx]
    simp only[ht,Option.bind_some,this]
    cases c<;>cases c'<;>rfl
   ·rename_i hc
    cases hw
    rw[hc] at hr
    generalize hx:a.tmps.getD t undef=x at hr
    cases hr with
    |tuple _ vs hl _=>
    have:vs=[]:=List.eq_nil_of_length_eq_zero hl.symm
    subst this
    rw[Array.getD_eq_getD_getElem?] at hx
    simp only[ht,Option.bind_some]
    cases hq:a.tmps[t]? with
    |none=>rfl
    |some y=>rw[hq] at hx;simp at hx;subst hx;rfl
   ·cases hw
def Onward(Q:Exit→Act→World→Prop)(K:Act→World→Prop)(E:Em)(w:World)(st:St)(a:Act)(out:Out)(st':St):Prop:=
 (∀v,out=.val v→∀E' w' a',MRel E' w' st'→LRel E' w' st' a'→Up E w st.glob.toks E' w' st'.glob.toks→K a' w')∧
 (∀x,out=.panic x→∀E' w' u,Rep E' w' x u→GRel E' w' st'.glob→DRel E' w' st'.defs st'.pin a→Up E w st.glob.toks E' w' st'.glob.toks→Q (.panic [{v:=u,recovered:=false}]) a w')
def opDoes(P:Program)(ops:Array Oper)(o:Oper)(K:Act→World→Prop)(Q:Exit→Act→World→Prop)(a:Act)(w:World):Prop:=
 if Region.wanted o (yielded ops a.tmps) then o.wp P a w K Q else K (a.put o.dst undef) w
theorem wpOp_of{ops:Array Oper}{i:Nat}{o:Oper}{K:Act→World→Prop}{Q:Exit→Act→World→Prop}(hi:ops[i]?=some o)(h:opDoes P ops o K Q a w):wpOp P ops Q i K a w:=by
 unfold wpOp
 unfold opDoes at h
 simp only[hi]
 split
 ·rename_i hw;rw[if_pos hw] at h;exact .inl h
 ·rename_i hw;rw[if_neg hw] at h;exact h
variable{R:Caller}{ops:Array Oper}{o:Oper}{out:Out}{K:Act→World→Prop}{Q:Exit→Act→World→Prop}
theorem rep_undef(E:Em)(w:World)(Tt:Tabs):RepV E w Tt (.tuple []) undef:=.tuple [] [] rfl (λj c v h=>by simp at h)
theorem skip_does(hm:MRel E w st)(hl:LRel E w st a)(hd:dstOk st.nt o.dst=true)(hn:notPinned st.pin o.dst=true)(hw:wantedA ops o st.regs=some false){v:Val}
 (hq:Onward Q K E w st a (.val v) (st.put o.dst (.tuple []))):opDoes P ops o K Q a w:=by
 have:=wanted_of (ops:=ops) hl hw
 unfold opDoes
 rw[this]
 simp only[Bool.false_eq_true,if_false]
 exact hq.1 _ rfl E w _ (hm.put _ _) (hl.put (st':=st) (Up.refl _ _ _) (UpL.refl _ _ _) rfl rfl rfl rfl (rep_undef _ _ _) hd hn) (by rw[St.put_glob];exact Up.refl _ _ _)
theorem doA_does{Bs:Em→World→Prop}(hT:T.Ok P)(hR:Sound P Bs R)(hb:Bs E w)(hm:MRel E w st)(hl:LRel E w st a)(hd:dstOk st.nt o.dst=true)(hn:notPinned st.pin o.dst=true)
 (h:doA T R ops o st=some (out,st')) (hq:Onward Q K E w st a out st'):opDoes P ops o K Q a w:=by
 unfold doA at h
 split at h
 ·rename_i A hA
  unfold kindA at hA
  split at hA
  ·rename_i hw
   have hwt:=wanted_of (ops:=ops) hl hw
   unfold opDoes
   rw[hwt]
   simp only[if_true]
   have he:∀x,RepV E w st.tabs (ev st.regs x) (a.eval x):=ev_rep hl.regs
   split at h
   ·rename_i v st1 ha
    cases h
    obtain⟨f1,f2,f3,f4,_⟩:=apply_frame ha
    refine doing_sound hT hR hb hm he hA ha a K Q (λv' hv' E' w' u hu hm' hup hl'=>?_) (λx hx=>by cases hx)
    cases hv'
    exact hq.1 _ rfl E' w' _ (hm'.put _ _) (hl.put hup hl' f1 f2 f3 f4 hu hd hn) (by rw[St.put_glob];exact hup)
   ·rename_i x st1 ha
    cases h
    obtain⟨f1,f2,f3,f4,_⟩:=apply_frame ha
    refine doing_sound hT hR hb hm he hA ha a K Q (λv' hv'=>by cases hv') (λx' hx E' w' u hu hg hup=>?_)
    cases hx
    refine hq.2 _ rfl E' w' u hu hg ?_ hup
    rw[f3,f4]
    exact hl.drel.up hup
   ·cases h
  ·rename_i hw
   cases hA
   rw[ret_apply] at h
   cases h
   exact skip_does hm hl hd hn hw hq
  ·cases hA
 ·cases h
theorem isDefer_some{op:Op}{c:Call}(h:isDefer op=some c):op=.defer c:=by
 cases op<;>first|(cases h;rfl)|cases h
theorem pinAll_get{regs:Mp Val}:∀{l:List ResultVar} {pin:List (Nat×Nat×Nat)},pinAll regs l=some pin→∀p∈pin,regs.get p.1=some (.d (.ptr (some p.2)))
 |[],pin,h,p,hp=>by cases h;cases hp
 |.tmp t::l,pin,h,p,hp=>pinAll_get (l:=l) h p hp
 |.cell t ty::l,pin,h,p,hp=>by
  simp only[pinAll] at h
  split at h
  ·rename_i i o r h1 h2
   cases h
   rcases List.mem_cons.1 hp with rfl|hp
   ·exact h1
   ·exact pinAll_get h2 p hp
  ·cases h
theorem deferA_does{c:Call}(ho:o.op=.defer c)(hm:MRel E w st)(hl:LRel E w st a)(hd:dstOk st.nt o.dst=true)
 (hw:wantedA ops o st.regs=some true) (h:deferA c o st=some (out,st')) (hq:Onward Q K E w st a out st'):opDoes P ops o K Q a w:=by
 have hwt:=wanted_of (ops:=ops) hl hw
 have he:∀x,RepV E w st.tabs (ev st.regs x) (a.eval x):=ev_rep hl.regs
 unfold opDoes
 rw[hwt]
 simp only[if_true]
 unfold deferA at h
 split at h
 ·rename_i f hf
  split at h
  ·rename_i fn cap ds pin h1 h2 h3
   split at h
   ·rename_i hnp
    cases h
    have hc:=he f
    rw[h1] at hc
    generalize hcc:a.eval f=vc at hc
    cases hc with
    |d _ _ hc=>
    cases hc with
    |clo _ _ vs hvl hvr=>
    obtain⟨hdl,hdg⟩:=optAll_get h2
    have eargs:c.args.map a.eval=(c.args.toList.map a.eval).toArray:=by apply Array.ext';simp
    have hrun:(execOp a.eval o).run P w=.ok (.defer ⟨.fn (.func fn) vs.toArray,(c.args.toList.map a.eval).toArray⟩) w:=by
     simp[execOp,ho,resolve,hf,hcc,Deferred.ofValue,eargs]
    have hds':ReL E w (ds++cap) (c.args.toList.map a.eval++vs):=by
     have e1:Els (Rep E w) ds (c.args.toList.map a.eval):=by
      refine⟨by simp[←hdl],λj x y hx hy=>?_⟩
      simp only[List.getElem?_map,Option.map_eq_some_iff] at hy
      obtain⟨z,hz,rfl⟩:=hy
      exact(he z).toD (hdg j z x hz hx)
     have e2:Els (Rep E w) cap vs:=⟨hvl,hvr⟩
     exact e1.append e2
    unfold Oper.wp
    rw[hrun,Oper.upon_defer]
    let st1:St:={st with defs:=(fn,ds++cap)::st.defs,pin:=pin}
    have hl1:LRel E w st1 {a with defers:=⟨.fn (.func fn) vs.toArray,(c.args.toList.map a.eval).toArray⟩::a.defers}:={
     nt:=hl.nt
     regs:=hl.regs
     pins:=λp hp=>by
      have hpr:=hl.regs p.1
      rw[pinAll_get h3 p hp] at hpr
      simp only[Option.getD_some] at hpr
      generalize hx:a.tmps.getD p.1 undef=x at hpr
      cases hpr with
      |d _ _ hpr=>
      obtain⟨p1,p2,p3⟩:=p
      cases hpr with
      |ptr _ _ hi=>exact⟨hi,rfl⟩
     defs:=⟨by simp[st1,hl.defs.1],λj d x hdj hxj=>by
      cases j with
      |zero=>
       simp[st1] at hdj hxj
       subst hdj hxj
       exact⟨_,vs,rfl,hds'⟩
      |succ j=>
       simp[st1] at hdj hxj
       exact hl.defs.2 j d x hdj hxj⟩}
    have hm1:MRel E w st1:=⟨hm.g,hm.boxes,hm.toks⟩
    exact hq.1 _ rfl E w _ (hm1.put _ _) (hl1.put (st':=st1) (Up.refl _ _ _) (UpL.refl _ _ _) rfl rfl rfl rfl (.undef _) hd hnp) (by rw[St.put_glob];exact Up.refl _ _ _)
   ·cases h
  ·cases h
 ·cases h
theorem stepA_does{Bs:Em→World→Prop}(hT:T.Ok P)(hR:Sound P Bs R)(hb:Bs E w)(hm:MRel E w st)(hl:LRel E w st a)(h:stepA T R ops o st=some (out,st'))(hq:Onward Q K E w st a out st'):opDoes P ops o K Q a w:=by
 unfold stepA at h
 split at h
 ·rename_i hdn
  rw[Bool.and_eq_true] at hdn
  split at h
  ·rename_i c hc
   split at h
   ·rename_i hw;exact deferA_does (isDefer_some hc) hm hl hdn.1 hw h hq
   ·rename_i hw;cases h;exact skip_does hm hl hdn.1 hdn.2 hw hq
   ·cases h
  ·exact doA_does hT hR hb hm hl hdn.1 hdn.2 h hq
 ·cases h
theorem regionA_does{Bs:Em→World→Prop}(hT:T.Ok P)(hR:Sound P Bs R):∀(l:List Oper) (n:Nat) (st:St) (E:Em) (w:World) (a:Act) (p:Option Dat) (st':St),
 ops.toList.drop n=l→Bs E w→MRel E w st→LRel E w st a→regionA T R ops l st=some (p,st')→
 (p=none→∀E' w' a',MRel E' w' st'→LRel E' w' st' a'→Up E w st.glob.toks E' w' st'.glob.toks→Q .normal a' w')→
 (∀x,p=some x→∀E' w' a' u,Rep E' w' x u→GRel E' w' st'.glob→DRel E' w' st'.defs st'.pin a'→Up E w st.glob.toks E' w' st'.glob.toks→Q (.panic [{v:=u,recovered:=false}]) a' w')→
 wpOps P ops Q (List.range' n l.length) a w
 |[],n,st,E,w,a,p,st',hl,hb,hm,hr,h,h1,h2=>by
  cases h
  exact h1 rfl E w a hm hr (Up.refl _ _ _)
 |o::l,n,st,E,w,a,p,st',hl,hb,hm,hr,h,h1,h2=>by
  have hi:ops[n]?=some o:=by
   have:=congrArg (λl=>l[0]?) hl
   simpa using this
  have hl':ops.toList.drop (n+1)=l:=by
   rw[←List.drop_drop,hl];rfl
  simp only[List.length_cons,List.range'_succ]
  rw[wpOps_cons]
  refine wpOp_of hi ?_
  simp only[regionA] at h
  split at h
  ·rename_i v st1 hs
   refine stepA_does hT hR hb hm hr hs ⟨λ_ _ E1 w1 a1 m1 l1 u1=>?_,λx hx=>by cases hx⟩
   exact regionA_does hT hR l (n+1) st1 E1 w1 a1 p st' hl' (hR.base.up hb u1) m1 l1 h (λhp E' w' a' hm' hl' u'=>h1 hp E' w' a' hm' hl' (u1.trans u')) (λx hx E' w' a' u hu hg hd u'=>h2 x hx E' w' a' u hu hg hd (u1.trans u'))
  ·rename_i x st1 hs
   cases h
   exact stepA_does hT hR hb hm hr hs ⟨λv hv=>(by cases hv),λx' hx E1 w1 u hu hg hd u1=>(by cases hx;exact h2 _ rfl E1 w1 a u hu hg hd u1)⟩
  ·cases h
end
end Go.Proofs.YtgmapdcdmomioaaGreatDoor.Am
namespace Go.Proofs.YtgmapdcdmomioaaGreatDoor.Am
open Go
section
variable{st st':St}{T:Tb}{R:Caller}{ops:Array Oper}{o:Oper}
theorem map_congr'{l:List Operand}{e e':Operand→Val}(h:∀x∈l,e x=e' x):l.map e=l.map e':=List.map_congr_left h
theorem doing_congr{esc:List Nat}{e e':Operand→Val}(h:∀x∈o.op.operands,e x=e' x):doing T R esc e o=doing T R esc e' o:=by
 obtain⟨dst,op,type,pos,after,guard⟩:=o
 have pairs:∀ps:Array (Nat×Operand),(∀x∈(ps.toList.map (·.2)).toArray,e x=e' x)→
  (ps.toList.map λp=>(p.1,e p.2))=(ps.toList.map λp=>(p.1,e' p.2)):=λps hp=>
  List.map_congr_left λp hm=>by
   rw[hp p.2 (by simpa using⟨p.1,by simpa using hm⟩)]
 have opt:∀x:Option Operand,(∀y∈x.toArray,e y=e' y)→x.map e=x.map e':=λx hx=>by
  cases x with
  |none=>rfl
  |some y=>simp[hx y (by simp)]
 cases op<;>simp only[Op.operands] at h<;>simp only[doing]
 case build t ps=>rw[pairs ps h]
 case buildSlice t n ps=>rw[pairs ps h]
 case makeFunc fn first cap=>
  rw[map_congr' (l:=first.toList) λx hx=>h x (by simp only[Array.mem_append];exact .inl (by simpa using hx)),map_congr' (l:=cap.toList) λx hx=>h x (by simp only[Array.mem_append];exact .inr (by simpa using hx))]
 case makeMap t r=>rw[opt r h]
 case slice t x lo hi mx=>
  rw[h x (by simp),opt lo (λy hy=>h y (by simp at hy⊢;simp[hy])),opt hi (λy hy=>h y (by simp at hy⊢;simp[hy])),opt mx (λy hy=>h y (by simp at hy⊢;simp[hy]))]
 case call c=>
  have hargs:∀x∈c.args.toList,e x=e' x:=λx hx=>h x (by simp[Call.operands];exact .inr (by simpa using hx))
  cases hc:c.callee with
  |value f=>
   have hf:e f=e' f:=h f (by simp[Call.operands,hc])
   simp only[hf]
   have:(c.args.toList.map λx=>(e x).toD)=c.args.toList.map λx=>(e' x).toD:=List.map_congr_left λx hx=>by rw[hargs x hx]
   rw[this]
  |invoke r m=>
   have hf:e r=e' r:=h r (by simp[Call.operands,hc])
   simp only[hf]
   have:(c.args.toList.map λx=>(e x).toD)=c.args.toList.map λx=>(e' x).toD:=List.map_congr_left λx hx=>by rw[hargs x hx]
   rw[this]
  |builtin b=>simp only[map_congr' hargs]
 all_goals (first|rfl|(simp_all;done))
theorem ev_congr{regs regs':Mp Val}{x:Operand}(h:∀t,x=.tmp t→regs'.get t=regs.get t):ev regs' x=ev regs x:=by
 cases x with
 |tmp t=>simp only[ev];rw[h t rfl]
 |_=>rfl
theorem kindA_congr(h:∀t∈o.looksAt ops,st'.regs.get t=st.regs.get t)(he:st'.esc=st.esc):kindA T R ops o st'=kindA T R ops o st:=by
 have hw:wantedA ops o st'.regs=wantedA ops o st.regs:=by
  unfold wantedA
  cases hg:o.guard with
  |none=>rfl
  |some p=>
   obtain⟨j,b⟩:=p
   simp only
   cases ht:(ops[j]?).bind (·.dst) with
   |none=>rfl
   |some t=>
    have:st'.regs.get t=st.regs.get t:=h t (by simp[Oper.looksAt,hg,ht])
    simp only[this]
 unfold kindA
 rw[hw,he]
 have:doing T R st.esc (ev st'.regs) o=doing T R st.esc (ev st.regs) o:=doing_congr λx hx=>ev_congr λt ht=>h t (by
  subst ht
  exact List.mem_append_left _ (List.mem_filterMap.2 ⟨.tmp t,by simpa using hx,rfl⟩))
 rw[this]
theorem put_put(A:Doing)(b:Option (Nat×Box))(k:Option (Nat×Option (Nat×Nat)))(g:Glob)(d:Option Nat)(v:Val):(A.put st b k g).put d v=A.put (st.put d v) b k g:=by cases d<;>rfl
theorem put2_comm{d d':Option Nat}{v v':Val}(h:∀x,d=some x→d'≠some x):(st.put d v).put d' v'=(st.put d' v').put d v:=by
 cases d with
 |none=>cases d'<;>rfl
 |some x=>
  cases d' with
  |none=>rfl
  |some y=>
   have:x≠y:=λe=>h x rfl (by rw[e])
   simp only[St.put]
   rw[Mp.set_comm _ _ _ _ _ this]
theorem look_put(A:Doing)(d:Option Nat)(v:Val):A.look (st.put d v)=A.look st:=by cases d<;>rfl
structure Clear(A B:Doing):Prop where
 box:∀k w k' w',A.box=some (k,w)→B.box=some (k',w')→k≠k'∨(w=false∧w'=false)
 tok:∀k k',A.tok=some k→B.tok=some k'→k≠k'
variable{A B:Doing}
theorem Clear.symm(h:Clear A B):Clear B A:=
 ⟨λk w k' w' h1 h2=>(h.box k' w' k w h2 h1).elim (λe=>.inl e.symm) (λe=>.inr ⟨e.2,e.1⟩),λk k' h1 h2=>(h.tok k' k h2 h1).symm⟩
theorem look_other(h:Clear A B)(hg:B.glob=none∨A.glob≠some true)(b:Option (Nat×Box))(k:Option (Nat×Option (Nat×Nat)))(g:Glob):B.look (A.put st b k g)=B.look st:=by
 have e1:(match B.box with|some (k',_)=>(A.put st b k g).boxes.get k'|none=>none)=(match B.box with|some (k',_)=>st.boxes.get k'|none=>none):=by
  cases hb:B.box with
  |none=>rfl
  |some p=>
   obtain⟨k',w'⟩:=p
   simp only[Doing.put]
   cases ha:A.box with
   |none=>rfl
   |some q=>
    obtain⟨k0,w0⟩:=q
    cases w0 with
    |false=>rfl
    |true=>
     cases b with
     |none=>rfl
     |some x=>
      have:k0≠k':=(h.box _ _ _ _ ha hb).resolve_right (by simp)
      exact Mp.get_set_ne _ _ this
 have e2:(match B.tok with|some k'=>(A.put st b k g).toks.get k'|none=>none)=(match B.tok with|some k'=>st.toks.get k'|none=>none):=by
  cases hb:B.tok with
  |none=>rfl
  |some k'=>
   simp only[Doing.put]
   cases ha:A.tok with
   |none=>rfl
   |some k0=>
    cases k with
    |none=>rfl
    |some x=>exact Mp.get_set_ne _ _ (h.tok _ _ ha hb)
 have e3:(match B.glob with|some _=>(A.put st b k g).glob|none=>⟨[],[]⟩)=(match B.glob with|some _=>st.glob|none=>⟨[],[]⟩):=by
  rcases hg with hg|hg
  ·rw[hg]
  ·cases hb:B.glob with
   |none=>rfl
   |some c=>
    simp only[Doing.put]
 exact Prod.ext e1 (Prod.ext e2 e3)
theorem St.ext'{a b:St}(h1:a.nt=b.nt)(h2:a.esc=b.esc)(h3:a.res=b.res)(h4:a.defs=b.defs)(h5:a.pin=b.pin)(h6:a.regs=b.regs)(h7:a.boxes=b.boxes)(h8:a.toks=b.toks)(h9:a.glob=b.glob):a=b:=by
 cases a;cases b;simp_all
theorem put_comm(h:Clear A B)(hg:A.glob≠some true∨B.glob≠some true)(b b':Option (Nat×Box))(k k':Option (Nat×Option (Nat×Nat)))(g g':Glob):
 B.put (A.put st b k g) b' k' g'=A.put (B.put st b' k' g') b k g:=by
 refine St.ext' rfl rfl rfl rfl rfl rfl ?_ ?_ ?_
 ·simp only[Doing.put]
  cases ha:A.box with
  |none=>cases hb:B.box with
   |none=>rfl
   |some q=>obtain⟨j,w⟩:=q;cases w<;>cases b'<;>rfl
  |some p=>
   obtain⟨i,w⟩:=p
   cases hb:B.box with
   |none=>cases w<;>cases b<;>rfl
   |some q=>
    obtain⟨j,w'⟩:=q
    cases w<;>cases w'<;>cases b<;>cases b'<;>first|rfl|skip
    have:i≠j:=(h.box i true j true ha hb).resolve_right (by simp)
    exact Mp.set_comm _ _ _ _ _ this
 ·simp only[Doing.put]
  cases ha:A.tok with
  |none=>cases hb:B.tok with
   |none=>rfl
   |some q=>cases k'<;>rfl
  |some p=>
   cases hb:B.tok with
   |none=>cases k<;>rfl
   |some q=>
    cases k<;>cases k'<;>first|rfl|skip
    exact Mp.set_comm _ _ _ _ _ (h.tok p q ha hb)
 ·simp only[Doing.put]
  cases ha:A.glob with
  |none=>rfl
  |some p=>
   cases hb:B.glob with
   |none=>rfl
   |some q=>
    cases p<;>cases q<;>first|rfl|skip
    rcases hg with hg|hg
    ·exact absurd ha hg
    ·exact absurd hb hg
theorem apply_some{out:Out}(h:A.apply st=some (out,st')):∃b k g,A.f (A.look st).1 (A.look st).2.1 (A.look st).2.2=some (out,b,k,g)∧st'=A.put st b k g:=by
 unfold Doing.apply at h
 split at h
 ·rename_i out' b k g e
  cases h
  exact⟨b,k,g,e,rfl⟩
 ·cases h
theorem apply_of{out:Out}{b:Option (Nat×Box)}{k:Option (Nat×Option (Nat×Nat))}{g:Glob}(h:A.f (A.look st).1 (A.look st).2.1 (A.look st).2.2=some (out,b,k,g)):A.apply st=some (out,A.put st b k g):=by
 unfold Doing.apply
 rw[h]
theorem put_glob(hg:A.glob≠some true)(b:Option (Nat×Box))(k:Option (Nat×Option (Nat×Nat)))(g:Glob):(A.put st b k g).glob=st.glob:=by
 simp only[Doing.put]
theorem put_idle(h1:A.box=none)(h2:A.tok=none)(h3:A.glob≠some true)(b:Option (Nat×Box))(k:Option (Nat×Option (Nat×Nat)))(g:Glob):A.put st b k g=st:=by
 obtain⟨ab,ak,ag,af⟩:=A
 simp only at h1 h2 h3
 subst h1 h2
 match ag,h3 with
 |none,_=>rfl
 |some false,_=>rfl
theorem stepA_some(hd:isDefer o.op=none){out:Out}(h:stepA T R ops o st=some (out,st')):
 dstOk st.nt o.dst=true∧notPinned st.pin o.dst=true∧∃A,kindA T R ops o st=some A∧∃s,A.apply st=some (out,s)∧((∃v,out=.val v∧st'=s.put o.dst v)∨(∃x,out=.panic x∧st'=s)):=by
 unfold stepA at h
 split at h
 ·rename_i hdn
  rw[Bool.and_eq_true] at hdn
  rw[hd] at h
  simp only[doA] at h
  split at h
  ·rename_i A hA
   refine⟨hdn.1,hdn.2,A,hA,?_⟩
   split at h
   ·rename_i v s ha
    cases h
    exact⟨s,ha,.inl ⟨v,rfl,rfl⟩⟩
   ·rename_i x s ha
    cases h
    exact⟨_,ha,.inr ⟨x,rfl,rfl⟩⟩
   ·cases h
  ·cases h
 ·cases h
theorem stepA_val(hd:isDefer o.op=none)(h1:dstOk st.nt o.dst=true)(h2:notPinned st.pin o.dst=true)(hA:kindA T R ops o st=some A){v:Val}(ha:A.apply st=some (.val v,st')):
 stepA T R ops o st=some (.val v,st'.put o.dst v):=by
 unfold stepA doA
 rw[h1,h2,hd,hA]
 simp[ha]
theorem stepA_panic(hd:isDefer o.op=none)(h1:dstOk st.nt o.dst=true)(h2:notPinned st.pin o.dst=true)(hA:kindA T R ops o st=some A){x:Dat}(ha:A.apply st=some (.panic x,st')):
 stepA T R ops o st=some (.panic x,st'):=by
 unfold stepA doA
 rw[h1,h2,hd,hA]
 simp[ha]
theorem feetA_eq(hA:kindA T R ops o st=some A):feetA T R ops o st=A.feet:=by unfold feetA;rw[hA]
theorem readA_eq(hA:kindA T R ops o st=some A):readA T R ops o st=λg=>outVal (A.f none none g):=by unfold readA;rw[hA]
def trOf(T:Tb)(R:Caller)(ops:Array Oper)(i:Nat)(o:Oper)(st:St)(out:Out)(st':St):Tr:=
 ⟨i,feetA T R ops o st,readA T R ops o st,st.glob,match out with|.val _=>st'.glob|.panic _=>st.glob⟩
structure TrEq(a b:Tr):Prop where
 i:a.i=b.i
 feet:a.feet=b.feet
 f:a.f=b.f
 g:a.feet.glob=some true→a.g0=b.g0∧a.g1=b.g1
theorem TrEq.refl(a:Tr):TrEq a a:=⟨rfl,rfl,rfl,λ_=>⟨rfl,rfl⟩⟩
theorem TrEq.trans{a b c:Tr}(h:TrEq a b)(k:TrEq b c):TrEq a c:=
 ⟨h.i.trans k.i,h.feet.trans k.feet,h.f.trans k.f,λe=>let ⟨h1,h2⟩:=h.g e;let ⟨k1,k2⟩:=k.g (by rw[←h.feet];exact e);⟨h1.trans k1,h2.trans k2⟩⟩
theorem apart_congr{a a' b b':Tr}(h:TrEq a a')(k:TrEq b b'):a.apart b=a'.apart b':=by
 unfold Tr.apart
 rw[←h.feet,←k.feet,←h.f,←k.f]
 congr 1
 cases ha:a.feet.glob with
 |none=>rfl
 |some c=>
  cases hb:b.feet.glob with
  |none=>cases c<;>rfl
  |some d=>
   cases c<;>cases d
   ·rfl
   ·obtain⟨h1,h2⟩:=k.g hb;simp only[h1,h2]
   ·obtain⟨h1,h2⟩:=h.g ha;simp only[h1,h2]
   ·rfl
theorem apart_clear{a b:Tr}(h:a.apart b=true)(ha:a.feet=A.feet)(hb:b.feet=B.feet):Clear A B:=by
 unfold Tr.apart at h
 simp only[Bool.and_eq_true] at h
 obtain⟨⟨h1,h2⟩,h3⟩:=h
 rw[ha,hb] at h1 h2
 simp only[Doing.feet] at h1 h2
 refine⟨λk w k' w' e1 e2=>?_,λk k' e1 e2=>?_⟩
 ·rw[e1,e2] at h1
  simp only[Bool.or_eq_true,bne_iff_ne,Bool.and_eq_true,Bool.not_eq_true'] at h1
  exact h1
 ·rw[e1,e2] at h2
  simpa using h2
theorem apart_glob{a b:Tr}(h:a.apart b=true)(ha:a.feet=A.feet)(hb:b.feet=B.feet):
 (A.glob=none∨B.glob=none∨(A.glob=some false∧B.glob=some false))∨
 (A.glob=some false∧B.glob=some true∧A.box=none∧A.tok=none∧sameRead a.f b.g0 b.g1=true)∨
 (A.glob=some true∧B.glob=some false∧B.box=none∧B.tok=none∧sameRead b.f a.g0 a.g1=true):=by
 unfold Tr.apart at h
 simp only[Bool.and_eq_true] at h
 obtain⟨_,h3⟩:=h
 rw[ha,hb] at h3
 simp only[Doing.feet] at h3
 cases hA:A.glob with
 |none=>exact .inl (.inl rfl)
 |some c=>
  cases hB:B.glob with
  |none=>exact .inl (.inr (.inl rfl))
  |some d=>
   rw[hA,hB] at h3
   cases c<;>cases d
   ·exact .inl (.inr (.inr ⟨rfl,rfl⟩))
   ·simp only[Bool.and_eq_true,Option.isNone_iff_eq_none] at h3
    exact .inr (.inl ⟨rfl,rfl,h3.1.1,h3.1.2,h3.2⟩)
   ·simp only[Bool.and_eq_true,Option.isNone_iff_eq_none] at h3
    exact .inr (.inr ⟨rfl,rfl,h3.1.1,h3.1.2,h3.2⟩)
   ·simp at h3
theorem sameRead_spec{f:Glob→Option Val}{g0 g1:Glob}(h:sameRead f g0 g1=true):∃a,f g0=some a∧f g1=some a:=by
 unfold sameRead at h
 split at h
 ·rename_i a b h1 h2
  exact⟨a,h1,by rw[h2,Val.eq_of_same h]⟩
 ·cases h
theorem outVal_some{r:Option (Out×Option (Nat×Box)×Option (Nat×Option (Nat×Nat))×Glob)}{v:Val}(h:outVal r=some v):∃b k g,r=some (.val v,b,k,g):=by
 unfold outVal at h
 split at h
 ·rename_i v' q
  cases h
  obtain⟨b,k,g⟩:=q
  exact⟨b,k,g,rfl⟩
 ·cases h
theorem look_read(h1:A.box=none)(h2:A.tok=none)(h3:A.glob=some false):A.look st=(none,none,st.glob):=by
 unfold Doing.look
 rw[h1,h2,h3]
end
end Go.Proofs.YtgmapdcdmomioaaGreatDoor.Am
namespace Go.Proofs.YtgmapdcdmomioaaGreatDoor.Am
open Go
section
variable{T:Tb}{R:Caller}{ops:Array Oper}
theorem regs_put{st:St}(A:Doing)(b:Option (Nat×Box))(k:Option (Nat×Option (Nat×Nat)))(g:Glob){dst:Option Nat}{v:Val}{t:Nat}(h:∀d,dst=some d→d≠t):
 ((A.put st b k g).put dst v).regs.get t=st.regs.get t:=by
 cases dst with
 |none=>rfl
 |some d=>exact Mp.get_set_ne _ _ (h d rfl)
theorem glob_put{st:St}(A:Doing)(hg:A.glob=some true)(b:Option (Nat×Box))(k:Option (Nat×Option (Nat×Nat)))(g:Glob):(A.put st b k g).glob=g:=by
 simp only[Doing.put,hg]
theorem frame_put{st:St}(A:Doing)(b:Option (Nat×Box))(k:Option (Nat×Option (Nat×Nat)))(g:Glob)(dst:Option Nat)(v:Val):
 ((A.put st b k g).put dst v).nt=st.nt∧((A.put st b k g).put dst v).pin=st.pin∧((A.put st b k g).put dst v).esc=st.esc:=by
 cases dst<;>exact⟨rfl,rfl,rfl⟩
variable{oj oi:Oper}{i j:Nat}{st st1 st2:St}
theorem swap(hdj:isDefer oj.op=none)(hdi:isDefer oi.op=none)(hap:oj.apart ops oi=true){u:Val}{out:Out}
 (h1:stepA T R ops oj st=some (.val u,st1)) (h2:stepA T R ops oi st1=some (out,st2))
 (hpn:∀x,out=.panic x→(feetA T R ops oi st1).glob=some true)
 (hp:(trOf T R ops j oj st (.val u) st1).apart (trOf T R ops i oi st1 out st2)=true):
 ∃st1',stepA T R ops oi st=some (out,st1')∧TrEq (trOf T R ops i oi st1 out st2) (trOf T R ops i oi st out st1')∧
  (∀v,out=.val v→stepA T R ops oj st1'=some (.val u,st2)∧TrEq (trOf T R ops j oj st (.val u) st1) (trOf T R ops j oj st1' (.val u) st2))∧
  (∀x,out=.panic x→st1'.glob=st2.glob):=by
 obtain⟨x1,x2,x3⟩:=Oper.apart_spec hap
 obtain⟨dj,nj,Aj,hAj,s1,ha1,hs1⟩:=stepA_some hdj h1
 obtain⟨di,ni,Ai,hAi1,s2,ha2,hs2⟩:=stepA_some hdi h2
 obtain⟨u',hu,rfl⟩:∃v,Out.val u=.val v∧st1=s1.put oj.dst v:=by
  rcases hs1 with h|⟨x,h,_⟩
  ·exact h
  ·cases h
 cases hu
 obtain⟨bj,kj,gj,fj,rfl⟩:=apply_some ha1
 obtain⟨bi,ki,gi,fi,rfl⟩:=apply_some ha2
 obtain⟨e1,e2,e3⟩:=frame_put (st:=st) Aj bj kj gj oj.dst u
 have hAi:kindA T R ops oi st=some Ai:=by
  rw[←hAi1]
  exact(kindA_congr (λt ht=>regs_put Aj bj kj gj λd hd e=>x1 d hd (e▸ht)) e3).symm
 rw[look_put] at fi
 have hfj:(trOf T R ops j oj st (.val u) ((Aj.put st bj kj gj).put oj.dst u)).feet=Aj.feet:=feetA_eq hAj
 have hfi:(trOf T R ops i oi ((Aj.put st bj kj gj).put oj.dst u) out st2).feet=Ai.feet:=feetA_eq hAi1
 have hcl:=apart_clear hp hfj hfi
 have hgl:=apart_glob hp hfj hfi
 have hnw:Aj.glob≠some true∨Ai.glob≠some true:=by
  rcases hgl with (h|h|⟨h,h'⟩)|⟨h,h',_⟩|⟨h,h',_⟩
  ·simp[h]
  ·simp[h]
  ·simp[h]
  ·simp[h]
  ·simp[h']
 have sg1:(((Aj.put st bj kj gj).put oj.dst u)).glob=(Aj.put st bj kj gj).glob:=St.put_glob _ _ _
 -- the second one,ahead of the first
 have hai:Ai.apply st=some (out,Ai.put st bi ki gi):=by
  rcases hgl with hgl|⟨q1,q2,q3,q4,q5⟩|⟨q1,q2,q3,q4,q5⟩
  ·have hl:Ai.look (Aj.put st bj kj gj)=Ai.look st:=look_other hcl (by rcases hgl with h|h|h<;>simp[h]) bj kj gj
   rw[hl] at fi
   exact apply_of fi
  ·have hl:Ai.look (Aj.put st bj kj gj)=Ai.look st:=look_other hcl (by simp[q1]) bj kj gj
   rw[hl] at fi
   exact apply_of fi
  ·obtain⟨v,r1,r2⟩:=sameRead_spec q5
   have hrd:(trOf T R ops i oi ((Aj.put st bj kj gj).put oj.dst u) out st2).f=λg=>outVal (Ai.f none none g):=readA_eq hAi1
   rw[hrd] at r1 r2
   obtain⟨b1,k1,g1,r1⟩:=outVal_some r1
   obtain⟨b2,k2,g2,r2⟩:=outVal_some r2
   rw[look_read q3 q4 q2] at fi
   have:(trOf T R ops j oj st (.val u) ((Aj.put st bj kj gj).put oj.dst u)).g1=(Aj.put st bj kj gj).glob:=sg1
   rw[this] at r2
   simp only at fi
   rw[r2] at fi
   cases fi
   have q2':Ai.glob≠some true:=by simp[q2]
   have:=apply_of (A:=Ai) (st:=st) (out:=.val v) (b:=b1) (k:=k1) (g:=g1) (by rw[look_read q3 q4 q2];exact r1)
   rw[put_idle q3 q4 q2'] at this
   rw[put_idle q3 q4 q2']
   exact this
 have hdst:∀x,oi.dst=some x→oj.dst≠some x:=λx hx hy=>x2 x hy hx
 have feq:feetA T R ops oi st=feetA T R ops oi ((Aj.put st bj kj gj).put oj.dst u):=by rw[feetA_eq hAi,feetA_eq hAi1]
 have req:readA T R ops oi st=readA T R ops oi ((Aj.put st bj kj gj).put oj.dst u):=by rw[readA_eq hAi,readA_eq hAi1]
 have gi0:Ai.glob=some true→(((Aj.put st bj kj gj).put oj.dst u)).glob=st.glob:=λh=>by
  rw[sg1]
  exact put_glob (hnw.resolve_right (by simp[h])) _ _ _
 rw[e1] at di
 rw[e2] at ni
 have finish:∀s2',s2'=Ai.put ((Aj.put st bj kj gj).put oj.dst u) bi ki gi→Ai.glob=some true→s2'.glob=(Ai.put st bi ki gi).glob:=λs2' e h=>by
  rw[e,glob_put _ h,glob_put _ h]
 cases out with
 |panic x=>
  have hg:Ai.glob=some true:=by
   have:=hpn x rfl
   rw[feetA_eq hAi1] at this
   exact this
  rcases hs2 with ⟨v,hv,_⟩|⟨x',hx',rfl⟩
  ·cases hv
  ·refine⟨_,stepA_panic hdi di ni hAi hai,⟨rfl,feq.symm,req.symm,λ_=>⟨gi0 hg,gi0 hg⟩⟩,λv hv=>(by cases hv),λx hx=>?_⟩
   exact(finish _ rfl hg).symm
 |val v=>
  rcases hs2 with ⟨v',hv,rfl⟩|⟨x',hx',_⟩
  ·cases hv
   refine⟨_,stepA_val hdi di ni hAi hai,⟨rfl,feq.symm,req.symm,λhg=>?_⟩,λv' hv'=>?_,λx hx=>by cases hx⟩
   ·have hg:Ai.glob=some true:=by
     have h':(feetA T R ops oi ((Aj.put st bj kj gj).put oj.dst u)).glob=some true:=hg
     rw[feetA_eq hAi1] at h'
     exact h'
    refine⟨gi0 hg,?_⟩
    show(St.put _ _ _).glob=(St.put _ _ _).glob
    rw[St.put_glob,St.put_glob]
    exact finish _ rfl hg
   ·cases hv'
    obtain⟨f1,f2,f3⟩:=frame_put (st:=st) Ai bi ki gi oi.dst v
    have hAj':kindA T R ops oj ((Ai.put st bi ki gi).put oi.dst v)=some Aj:=by
     rw[←hAj]
     exact kindA_congr (λt ht=>regs_put Ai bi ki gi λd hd e=>x3 d hd (e▸ht)) f3
    have sg2:(((Ai.put st bi ki gi).put oi.dst v)).glob=(Ai.put st bi ki gi).glob:=St.put_glob _ _ _
    have haj:Aj.apply ((Ai.put st bi ki gi).put oi.dst v)=some (.val u,Aj.put ((Ai.put st bi ki gi).put oi.dst v) bj kj gj):=by
     rcases hgl with hgl|⟨q1,q2,q3,q4,q5⟩|⟨q1,q2,q3,q4,q5⟩
     ·refine apply_of ?_
      rw[look_put,look_other hcl.symm (by rcases hgl with h|h|h<;>simp[h]) bi ki gi]
      exact fj
     ·obtain⟨v1,r1,r2⟩:=sameRead_spec q5
      have hrd:(trOf T R ops j oj st (.val u) ((Aj.put st bj kj gj).put oj.dst u)).f=λg=>outVal (Aj.f none none g):=readA_eq hAj
      rw[hrd] at r1 r2
      obtain⟨b1,k1,g1,r1⟩:=outVal_some r1
      obtain⟨b2,k2,g2,r2⟩:=outVal_some r2
      have w0:(trOf T R ops i oi ((Aj.put st bj kj gj).put oj.dst u) (.val v) ((Ai.put ((Aj.put st bj kj gj).put oj.dst u) bi ki gi).put oi.dst v)).g0=st.glob:=gi0 q2
      have w1:(trOf T R ops i oi ((Aj.put st bj kj gj).put oj.dst u) (.val v) ((Ai.put ((Aj.put st bj kj gj).put oj.dst u) bi ki gi).put oi.dst v)).g1=(Ai.put st bi ki gi).glob:=by
       show(St.put _ _ _).glob=_
       rw[St.put_glob]
       exact finish _ rfl q2
      rw[w0] at r1
      rw[w1] at r2
      rw[look_read q3 q4 q1] at fj
      simp only at fj
      rw[r1] at fj
      cases fj
      have q1':Aj.glob≠some true:=by simp[q1]
      have:=apply_of (A:=Aj) (st:=(Ai.put st bi ki gi).put oi.dst v) (out:=.val u) (b:=b2) (k:=k2) (g:=g2) (by rw[look_read q3 q4 q1,sg2];exact r2)
      rw[put_idle q3 q4 q1'] at this
      rw[put_idle q3 q4 q1']
      exact this
     ·refine apply_of ?_
      rw[look_put,look_other hcl.symm (by simp[q2]) bi ki gi]
      exact fj
    have heq:(Aj.put ((Ai.put st bi ki gi).put oi.dst v) bj kj gj).put oj.dst u=(Ai.put ((Aj.put st bj kj gj).put oj.dst u) bi ki gi).put oi.dst v:=by
     rw[←put_put,←put_put,←put_comm hcl hnw,put2_comm hdst]
    have hst:=stepA_val hdj (by rw[f1];exact dj) (by rw[f2];exact nj) hAj' haj
    rw[heq] at hst
    refine⟨hst,rfl,?_,?_,λhg=>?_⟩
    ·show feetA _ _ _ _ _=feetA _ _ _ _ _
     rw[feetA_eq hAj,feetA_eq hAj']
    ·show readA _ _ _ _ _=readA _ _ _ _ _
     rw[readA_eq hAj,readA_eq hAj']
    ·have hg:Aj.glob=some true:=by
      have h':(feetA T R ops oj st).glob=some true:=hg
      rw[feetA_eq hAj] at h'
      exact h'
     have hni:Ai.glob≠some true:=hnw.resolve_left (by simp[hg])
     refine⟨?_,?_⟩
     ·show st.glob=(St.put _ _ _).glob
      rw[St.put_glob,put_glob hni]
     ·show(St.put _ _ _).glob=(St.put _ _ _).glob
      rw[St.put_glob,St.put_glob,put_glob hni,St.put_glob]
  ·cases hx'
theorem swap_panic(hdj:isDefer oj.op=none)(hdi:isDefer oi.op=none)(hap:oj.apart ops oi=true){x:Dat}{v:Val}
 (h1:stepA T R ops oj st=some (.panic x,st1)) (hgl:(feetA T R ops oj st).glob=some true) (h2:stepA T R ops oi st=some (.val v,st2))
 (hp:(trOf T R ops j oj st (.panic x) st1).apart (trOf T R ops i oi st (.val v) st2)=true):
 ∃st1',stepA T R ops oj st2=some (.panic x,st1')∧(feetA T R ops oj st2).glob=some true∧st1'.glob=st1.glob∧TrEq (trOf T R ops j oj st (.panic x) st1) (trOf T R ops j oj st2 (.panic x) st1'):=by
 obtain⟨x1,x2,x3⟩:=Oper.apart_spec hap
 obtain⟨dj,nj,Aj,hAj,s1,ha1,hs1⟩:=stepA_some hdj h1
 obtain⟨di,ni,Ai,hAi,s2,ha2,hs2⟩:=stepA_some hdi h2
 obtain⟨bj,kj,gj,fj,rfl⟩:=apply_some ha1
 obtain⟨bi,ki,gi,fi,rfl⟩:=apply_some ha2
 rcases hs1 with ⟨_,h,_⟩|⟨_,_,rfl⟩
 ·cases h
 rcases hs2 with ⟨_,h,rfl⟩|⟨_,h,_⟩
 ·cases h
  have hfj:(trOf T R ops j oj st (.panic x) (Aj.put st bj kj gj)).feet=Aj.feet:=feetA_eq hAj
  have hfi:(trOf T R ops i oi st (.val v) ((Ai.put st bi ki gi).put oi.dst v)).feet=Ai.feet:=feetA_eq hAi
  have hcl:=apart_clear hp hfj hfi
  have hgg:=apart_glob hp hfj hfi
  rw[feetA_eq hAj] at hgl
  have hgl:Aj.glob=some true:=hgl
  have hni:Ai.glob≠some true:=by
   rcases hgg with (h|h|⟨h,h'⟩)|⟨h,h',_⟩|⟨h,h',_⟩
   ·rw[hgl] at h;cases h
   ·simp[h]
   ·simp[h']
   ·rw[hgl] at h;cases h
   ·simp[h']
  obtain⟨f1,f2,f3⟩:=frame_put (st:=st) Ai bi ki gi oi.dst v
  have hAj':kindA T R ops oj ((Ai.put st bi ki gi).put oi.dst v)=some Aj:=by
   rw[←hAj]
   exact kindA_congr (λt ht=>regs_put Ai bi ki gi λd hd e=>x3 d hd (e▸ht)) f3
  have haj:Aj.apply ((Ai.put st bi ki gi).put oi.dst v)=some (.panic x,Aj.put ((Ai.put st bi ki gi).put oi.dst v) bj kj gj):=by
   refine apply_of ?_
   rw[look_put,look_other hcl.symm (.inr hni) bi ki gi]
   exact fj
  have g0:((Ai.put st bi ki gi).put oi.dst v).glob=st.glob:=by rw[St.put_glob,put_glob hni]
  refine⟨_,stepA_panic hdj (by rw[f1];exact dj) (by rw[f2];exact nj) hAj' haj,by rw[feetA_eq hAj'];exact hgl,by rw[glob_put _ hgl,glob_put _ hgl],rfl,?_,?_,λ_=>⟨g0.symm,g0.symm⟩⟩
  ·show feetA _ _ _ _ _=feetA _ _ _ _ _
   rw[feetA_eq hAj,feetA_eq hAj']
  ·show readA _ _ _ _ _=readA _ _ _ _ _
   rw[readA_eq hAj,readA_eq hAj']
 ·cases h
end
end Go.Proofs.YtgmapdcdmomioaaGreatDoor.Am
