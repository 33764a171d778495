/- Calls from any world, one behind another; patterns in memory of one's own as a datum. UsefulTurned: what the law's function calls, each from any world; the walk. UsefulTurned: the walk. -/
import Derived.Test.YtiheejdkkjfenaaGreatDoorSO
import Derived.Test.YtiheejdkkjfenaaGreatDoorSM
set_option linter.all false
set_option autoImplicit false
set_option maxRecDepth 100000
set_option maxHeartbeats 4000000
namespace Go.Proofs.YtiheejdkkjfenaaGreatDoor.Pa
open Go Go.Proofs.YtiheejdkkjfenaaGreatDoor.Am Go.Proofs.YtiheejdkkjfenaaGreatDoor.Hw Go.RowKit
theorem up_below{w w':World}(h:Below w.heap.size w w'):Up (startE w.heap.size) w [] (startE w'.heap.size) w' [] where
 os:=h.os
 tape:=h.tape
 output:=h.output
 size:=h.size
 ng:=Nat.le_refl 0
 gb i hi:=absurd hi (Nat.not_lt_zero i)
 imm b o hi:=Nat.lt_of_lt_of_le (show b<w.heap.size from hi) h.size
 cell b o hi:=h.cell hi
 alien b hb _:=⟨h.block b hb,rfl,λo _=>hb⟩
 gtoks g m n hg:=by simp at hg
 gk g m n hg:=by cases hg
 tok b k hb:=by cases hb
theorem rep_later{w w':World}{d:Dat}{v:Value}(h:Rep (startE w.heap.size) w d v)(hb:Below w.heap.size w w'):Rep (startE w'.heap.size) w' d v:=h.up (up_below hb)
theorem rep_start{E:Em}{w:World}{n:Nat}(hi:∀b o,E.imm b o→b<n)(hg:E.ng=0)(hk:∀t,E.gk t=none){d:Dat}{v:Value}(h:Rep E w d v):Rep (startE n) w d v:=by
 induction h with
 |bool b=>exact .bool b
 |int k n=>exact .int k n
 |str s=>exact .str s
 |ptrN=>exact .ptrN
 |ptr i o h=>omega
 |nil a=>exact .nil a
 |emp m a c=>exact .emp m a c
 |sl m xs b o c vs hc hm h1 h2 h3 h4 ih=>exact .sl m xs b o c vs hc hm h1 (λi x hx j d hd=>hi _ _ (h2 i x hx j d hd)) h3 ih
 |gsl t m xs v n h hk' hn ht ih=>rw[hk] at hk';cases hk'
 |mapN=>exact .mapN
 |map i h=>omega
 |clo f cap vs hl h ih=>exact .clo f cap vs hl ih
 |bnd f r v h ih=>exact .bnd f r v ih
 |nilFn=>exact .nilFn
 |iface t d v h ih=>exact .iface t d v ih
 |nilIface=>exact .nilIface
 |agg cs vs hl h1 h ih=>exact .agg cs vs hl h1 ih
theorem rep_empty{E:Em}{w:World}{d:Dat}{v:Value}(r:GRel E w ⟨[],[]⟩)(h:Rep E w d v):Rep (startE w.heap.size) w d v:=
 rep_start r.imm_lt r.ng (λt=>by rw[r.gk];rfl) h
theorem rep_ints{E:Em}{w:World}{l:List Nat}{v:Value}(hi:∀b o,E.imm b o→b<w.heap.size)(h:Rep E w (slOf 1 (natD l)) v):Rep (startE w.heap.size) w (slOf 1 (natD l)) v:=by
 cases l with
 |nil=>cases h with|nil a=>exact .nil a
 |cons x l=>
  cases h with
  |sl _ _ b o c vs hc hm h1 h2 h3 h4=>
   refine .sl _ _ b o c vs hc hm h1 (λi x hx j d hd=>hi _ _ (h2 i x hx j d hd)) h3 (λi x hx j d hd=>?_)
   have hm:_∈List.map (λ(i:Nat)=>Dat.int .i64 (i:Int)) (_::l):=List.mem_of_getElem? hx
   obtain⟨q,_,rfl⟩:=List.mem_map.1 hm
   have h5:=h4 i _ hx j d hd
   match j,hd with
   |0,hd=>cases hd;rw[(rep_cell h5).1 _ _ rfl];exact .int _ _
   |j+1,hd=>cases hd
theorem hw_call{W w:World}(hE:ErrsIn W)(hb:Below W.heap.size W w){f:FuncId}{ds:List Dat}{Q:OGP}(h:EvF TT f ds ⟨[],[]⟩ Q){vs:List Value}(hd:ReL (startE w.heap.size) w ds vs):
 Calls Tryz.prog f vs.toArray w λe w'=>∃out g' E',Q out g'∧Below w.heap.size w w'∧GRel E' w' g'∧OutRep E' w' w.heap.size out e:=by
 obtain⟨out,g',hq,n,hn⟩:=h
 exact(((run_sound (based_ok W) okTT (extTT hE) n).calls f ds ⟨[],[]⟩ out g' (hn n (Nat.le_refl _))).2 _ w vs ⟨hb,λ_ _=>rfl⟩ (start_rel w) (start_only _) hd).mono λe w' ⟨E',u,r,_,ho⟩=>⟨out,g',E',hq,start_below u,r,ho⟩
theorem reL1{E:Em}{w:World}{d:Dat}{v:Value}(h:Rep E w d v):ReL E w [d] [v]:=⟨rfl,λj x y hx hy=>by
 match j,hx,hy with
 |0,hx,hy=>cases hx;cases hy;exact h⟩
theorem reL2{E:Em}{w:World}{d d':Dat}{v v':Value}(h:Rep E w d v)(h':Rep E w d' v'):ReL E w [d,d'] [v,v']:=⟨rfl,λj x y hx hy=>by
 match j,hx,hy with
 |0,hx,hy=>cases hx;cases hy;exact h
 |1,hx,hy=>cases hx;cases hy;exact h'⟩
theorem rep1_ret{E:Em}{w:World}{B:Nat}{v:Val}{l:Dat}{u:Value}(hr:RetV v l)(hu:RepO1 E w B v u):Rep E w l u:=by
 cases v with
 |d y=>obtain rfl:y=l:=hr;exact hu
 |uq m ys=>obtain rfl:l=.sl m ys:=hr;exact hu.1
 |_=>exact hr.elim
theorem out_ret{E:Em}{w:World}{B:Nat}{v:Val}{l:Dat}{e:Ending}(hr:RetV v l)(h:OutRep E w B (.val v) e):∃u,e=.returned u∧Rep E w l u:=by
 obtain⟨u,rfl,hu⟩:=h
 refine⟨u,rfl,?_⟩
 cases v with
 |tuple vs=>exact hr.elim
 |_=>exact rep1_ret (B:=B) hr hu
theorem out_ret2{E:Em}{w:World}{B:Nat}{us:List Val}{a b:Dat}{e:Ending}(hr:RetL us [a,b])(h:OutRep E w B (.val (.tuple us)) e):∃x y,e=.returned (.tuple #[x,y])∧Rep E w a x∧Rep E w b y:=by
 obtain⟨u,rfl,vs,rfl,hl,hu⟩:=h
 match us,hr with
 |[u1,u2],⟨r1,r2,_⟩=>
  match vs,hl with
  |[x,y],_=>exact⟨x,y,rfl,rep1_ret r1 (hu 0 _ _ rfl rfl),rep1_ret r2 (hu 1 _ _ rfl rfl)⟩
mutual
def okT:Pt→Prop
 |.mk _ s _ a _=>s.length≤2^40∧a.length≤2^40∧okTs a
def okTs:List Pt→Prop
 |[]=>True
 |p::l=>okT p∧okTs l
end
theorem okTs_all:∀l:List Pt,okTs l↔∀p∈l,okT p
 |[]=>⟨λ_ p hp=>(by cases hp),λ_=>(by rw[okTs];trivial)⟩
 |p::l=>by rw[okTs,okTs_all l,List.forall_mem_cons]
mutual
theorem okT_sh:∀p:Pt,okT p→shP p
 |.mk _ _ _ a _,h=>by rw[okT] at h;rw[shP];exact⟨h.2.1,okTs_sh a h.2.2⟩
theorem okTs_sh:∀l:List Pt,okTs l→shPs l
 |[],_=>by rw[shPs];trivial
 |p::l,h=>by rw[okTs] at h;rw[shPs];exact⟨okT_sh p h.1,okTs_sh l h.2⟩
end
theorem tPs_length(l:List Pt):(tPs l).length=l.length:=by rw[tPs_map,List.length_map]
mutual
theorem okT_t:∀p:Pt,okT p→okT (tP p)
 |.mk k s n a p,h=>by
  rw[okT] at h
  rw[tP,okT,tPs_length]
  refine⟨?_,h.2.1,okTs_t a h.2.2⟩
  unfold tS
  split
  ·decide
  ·split
   ·decide
   ·exact h.1
theorem okTs_t:∀l:List Pt,okTs l→okTs (tPs l)
 |[],_=>by rw[tPs,okTs];trivial
 |p::l,h=>by rw[okTs] at h;rw[tPs,okTs];exact⟨okT_t p h.1,okTs_t l h.2⟩
end
theorem okTs_row:∀(k:Nat) (d:Dat),SizeOf.sizeOf d<k→HasTy TT 24 d→okTs (rowAbs d)
 |0,d,h,_=>by omega
 |k+1,d,h,hd=>by
  rw[okTs_all]
  intro p hp
  obtain⟨x,hx,rfl⟩:=List.mem_map.1 hp
  obtain⟨i,hi,rfl⟩:=List.getElem_of_mem hx
  have hsz:=sizeOf_el hi
  obtain⟨k1,s1,n1,a1,p1,e1,hs1,t1⟩:=pat_ty ((hd.els undPats).2 _ (List.getElem_mem hi))
  have hc:=sizeOf_cell (cs:=[.int .i64 k1,.str s1,.int .i64 n1,a1,.int .i64 p1]) (c:=a1) (by simp)
  rw[e1] at hsz⊢
  show okT (.mk k1 s1 n1 (absPtA a1) p1)
  rw[okT,absPtA_map]
  exact⟨hs1,by rw[List.length_map];exact(t1.els undPats).1.1,okTs_row k a1 (by omega) t1⟩
theorem fitP40{n:Nat}(h:n≤2^40):SlFit TT 52 n:=⟨h,λb hb=>by rw[byPat] at hb;cases hb;omega⟩
mutual
theorem PtM.rep{w:World}:∀(p:Pt) (F:List Nat) (v:Value),PtM w p F v→okT p→∃d,HasTy TT 24 d∧rowAbs d=argsP p∧Rep (startE w.heap.size) w d v
 |.mk k s n a q,F,v,h,hok=>by
  rw[PtM] at h
  rw[okT] at hok
  rcases h with ⟨rfl,rfl,rfl⟩|⟨b,c,F',xs,rfl,rfl,hb,ho,hs⟩
  ·exact⟨.nil,slOf_ty (xs:=[]) undPats szPat (fitP40 (by decide)) (by simp),rfl,.nil _⟩
  ·obtain⟨ds,h1,h2,h3⟩:=PsM.rep a F' xs hs hok.2.2
   have hl:ds.length=a.length:=by rw[←h1,List.length_map]
   have hblt:=(ho.lt b rfl).2
   refine⟨.sl 5 ds,.sl _ _ _ _ undPats szPat (fitP40 (by rw[hl];exact hok.2.1)) h2,h1,?_⟩
   rw[←hl]
   have hcc:ds.length≤c:=by
    rcases ho.2 with ⟨e,_⟩|⟨g,cap,cur,e,_,_,e2,_⟩
    ·cases e
    ·cases e;rw[hl];exact e2
   have key:∀(i:Nat) x,ds[i]?=some x→∀(j:Nat) d,x.cells[j]?=some d→d.one=true∧∃u,xs[i*5+j]?=some u∧Rep (startE w.heap.size) w d u:=λi x hx j d hd=>by
    obtain⟨k1,s1,m1,a1,p1,va1,rfl,t1,g1,g2⟩:=h3 i x hx
    match j,hd with
    |0,hd=>cases hd;exact⟨rfl,_,g1 0 _ rfl,.int _ _⟩
    |1,hd=>cases hd;exact⟨rfl,_,g1 1 _ rfl,.str _⟩
    |2,hd=>cases hd;exact⟨rfl,_,g1 2 _ rfl,.int _ _⟩
    |3,hd=>
     cases hd
     refine⟨?_,_,g1 3 _ rfl,g2⟩
     rcases t1.sl_inv undPats with rfl|⟨m,ys,rfl|⟨t,rfl⟩,_⟩<;>rfl
    |4,hd=>cases hd;exact⟨rfl,_,g1 4 _ rfl,.int _ _⟩
   refine .sl 5 ds b 0 c (λq=>(xs[q]?).getD undef) hcc (λx hx=>?_) (λi x hx j d hd=>(key i x hx j d hd).1) (λi x hx j d hd=>hblt) (λi x hx j d hd=>?_) (λi x hx j d hd=>?_)
   ·obtain⟨i,hi,rfl⟩:=List.getElem_of_mem hx
    obtain⟨k1,s1,m1,a1,p1,va1,e,_⟩:=h3 i _ (List.getElem?_eq_getElem hi)
    rw[e];rfl
   ·obtain⟨_,u,hu,_⟩:=key i x hx j d hd
    have hlt:i*5+j<a.length*5:=by
     have:=(List.getElem?_eq_some_iff.1 hu).1
     rw[PsM.len a F' xs hs] at this
     exact this
    rw[Nat.zero_add,ho.cellAt _ hlt,hu]
    rfl
   ·obtain⟨_,u,hu,hr⟩:=key i x hx j d hd
    simp only[hu,Option.getD_some]
    exact hr
theorem PsM.rep{w:World}:∀(l:List Pt) (F:List Nat) (xs:List Value),PsM w l F xs→okTs l→∃ds:List Dat,ds.map absPt=l∧(∀y∈ds,HasTy TT 52 y)∧
 ∀(i:Nat) x,ds[i]?=some x→∃k s m a p va,x=.agg [.int .i64 k,.str s,.int .i64 m,a,.int .i64 p]∧HasTy TT 24 a∧(∀(q:Nat) u,(ptCells k s m va p)[q]?=some u→xs[i*5+q]?=some u)∧Rep (startE w.heap.size) w a va
 |[],F,xs,h,_=>⟨[],rfl,by simp,λi x hx=>by simp at hx⟩
 |.mk k s n a p::l,F,xs,h,hok=>by
  rw[PsM] at h
  rw[okTs] at hok
  obtain⟨v,F1,F2,xs',rfl,hA,rfl,h1,h2⟩:=h
  obtain⟨d,t,hd,hr⟩:=PtM.rep (.mk k s n a p) F1 v h1 hok.1
  obtain⟨ds,e1,e2,e3⟩:=PsM.rep l F2 xs' h2 hok.2
  have hs:s.length≤2^40:=by have:=hok.1;rw[okT] at this;exact this.1
  refine⟨.agg [.int .i64 k,.str s,.int .i64 n,d,.int .i64 p]::ds,?_,?_,λi x hx=>?_⟩
  ·rw[List.map_cons,e1]
   congr 1
   show Pt.mk k s n (absPtA d) p=_
   rw[absPtA_map]
   exact congrArg (λa=>Pt.mk k s n a p) hd
  ·intro y hy
   rcases List.mem_cons.1 hy with rfl|hy
   ·exact ty_pat hs t
   ·exact e2 y hy
  ·match i,hx with
   |0,hx=>
    cases hx
    refine⟨k,s,n,d,p,v,rfl,t,λq u hu=>?_,hr⟩
    have hq:q<5:=(List.getElem?_eq_some_iff.1 hu).1
    rw[Nat.zero_mul,Nat.zero_add,List.getElem?_append_left (by exact hq)]
    exact hu
   |i+1,hx=>
    obtain⟨k1,s1,m1,a1,p1,va1,g0,g1,g2,g3⟩:=e3 i x hx
    refine⟨k1,s1,m1,a1,p1,va1,g0,g1,λq u hu=>?_,g3⟩
    have e5:(ptCells k s n v p).length=5:=rfl
    rw[List.getElem?_append_right (by omega),e5,show(i+1)*5+q-5=i*5+q from by omega]
    exact g2 q u hu
end
end Go.Proofs.YtiheejdkkjfenaaGreatDoor.Pa
namespace Go.Proofs.YtiheejdkkjfenaaGreatDoor.Pa
open Go Go.Proofs.YtiheejdkkjfenaaGreatDoor.Am Go.Proofs.YtiheejdkkjfenaaGreatDoor.Hw Go.RowKit
def LkS_4(x0:Dat)(x1:Dat)(n5:Int)(g:Glob)(Qf:OGP):Prop:=CutP TT Tryz.f21 [1,1,0,1,0] Qf (mkC TT 21 Tryz.f21 2 [(0,.v 46 (x0)),(1,.v 46 (x1)),(5,.v 3 (.int .i64 n5))] [] g)
def lokS:List CutI:=[⟨4,[(0,.keep),(1,.keep),(5,.keep)],[]⟩]
theorem wkS{x0:Dat}{x1:Dat}{g:Glob}{Qf:OGP}(h0:HasTy TT 46 x0)(h1:HasTy TT 46 x1)
 (h:Br ((↑(elsOf x0).length:Int)!=(↑(elsOf x1).length:Int)) (Qf (Out.val (Val.d (Dat.bool false))) g) (LkS_4 x0 x1 0 g Qf)):
 EvF TT 21 [x0,x1] g Qf:=
 sx_fun (rk:=rk) (fn:=Tryz.f21) (loops:=lokS) (joins:=[]) (n:=100000) (args:=[(46,x0),(46,x1)]) rfl rfl rfl rfl ⟨h0,h1,trivial⟩ (by kernel_rfl) h
theorem wkS_4{x0:Dat}{x1:Dat}{n5:Int}{g:Glob}{Qf:OGP}
 (h:Br (decide (n5<(↑(elsOf x0).length:Int))) (InB n5 (elsOf x0).length∧InB n5 (elsOf x1).length∧Br (intOf (fld (getE (elsOf x0) n5) 0)!=intOf (fld (getE (elsOf x1) n5) 0)) (Qf (Out.val (Val.d (Dat.bool false))) g) (LkS_4 x0 x1 (IntKind.i64.wrap (n5+1)) g Qf)) (Qf (Out.val (Val.d (Dat.bool true))) g)):
 LkS_4 x0 x1 n5 g Qf:=sx_cut (rk:=rk) (loops:=lokS) (joins:=[]) (n:=100000) (by kernel_rfl) h
theorem keepSame_self(x:Dat)(g:Glob)(hx:HasTy TT 46 x)(Qf:OGP)(hQ:Qf (.val (.d (.bool true))) g):EvF TT 21 [x,x] g Qf:=by
 have hl:=(hx.els undIntsV).1.1
 refine wkS hx hx (Br_iff.2 ⟨λq=>by simp at q,λ_=>?_⟩)
 refine loopUp (len:=(elsOf x).length) (λi=>LkS_4 x x (i:Int) g Qf) ?_ ?_ 0 (Nat.zero_le _)
 ·refine wkS_4 ?_
  rw[Br_ge]
  exact hQ
 ·intro i hi ih
  refine wkS_4 ?_
  rw[Br_lt hi,wrap_nat (by omega)]
  exact⟨inB hi,inB hi,Br_iff.2 ⟨λq=>by simp at q,λ_=>ih⟩⟩
def DeclAt(D:List Dc)(w:World)(u:Value):Prop:=∃l,HasTy TT 22 l∧DD l=D∧Rep (startE w.heap.size) w l u
def PatsAt(ps:List Pt)(w:World)(u:Value):Prop:=∃x,HasTy TT 24 x∧rowAbs x=ps∧Rep (startE w.heap.size) w x u
def IntsAt(O:List Nat)(w:World)(u:Value):Prop:=Rep (startE w.heap.size) w (slOf 1 (natD O)) u
theorem DeclAt.later{D:List Dc}{w w':World}{u:Value}(h:DeclAt D w u)(hb:Below w.heap.size w w'):DeclAt D w' u:=let ⟨l,a,b,c⟩:=h;⟨l,a,b,rep_later c hb⟩
theorem PatsAt.later{D:List Pt}{w w':World}{u:Value}(h:PatsAt D w u)(hb:Below w.heap.size w w'):PatsAt D w' u:=let ⟨l,a,b,c⟩:=h;⟨l,a,b,rep_later c hb⟩
theorem IntsAt.later{O:List Nat}{w w':World}{u:Value}(h:IntsAt O w u)(hb:Below w.heap.size w w'):IntsAt O w' u:=rep_later h hb
theorem c_large{W w:World}(hE:ErrsIn W)(hW:Below W.heap.size W w){l x:Dat}{u v:Value}(hl:HasTy TT 22 l)(hx:HasTy TT 24 x)(ru:Rep (startE w.heap.size) w l u)(rv:Rep (startE w.heap.size) w x v):
 Calls Tryz.prog 14 #[u,v] w λe w'=>∃b,e=.returned (.bool b)∧Below w.heap.size w w'∧(b=false→(elsOf x).length≤60):=
 (hw_call hE hW (large17_ok l x ⟨[],[]⟩ hl hx (λout _=>∃b,out=.val (.d (.bool b))∧(b=false→(elsOf x).length≤60)) ⟨true,rfl,λh=>by cases h⟩ λ_ h=>⟨false,rfl,λ_=>h⟩) (reL2 ru rv)).mono λe w' ⟨out,g',E',⟨b,hb,hq⟩,hn,_,ho⟩=>by
  subst hb
  obtain⟨y,rfl,hy⟩:=ho
  cases hy
  exact⟨b,rfl,hn,hq⟩
theorem c_wakes{W w:World}(hE:ErrsIn W)(hW:Below W.heap.size W w):Calls Tryz.prog 9 #[] w λe w'=>e=.returned (.bool true)∧Below w.heap.size w w':=
 (hw_call hE hW (wakes_ok ⟨[],[]⟩ (λout _=>out=.val (.d (.bool true))) rfl) (vs:=[]) ⟨rfl,λj d v h=>by simp at h⟩).mono λe w' ⟨out,g',E',hb,hn,_,ho⟩=>by
  subst hb
  obtain⟨y,rfl,hy⟩:=ho
  cases hy
  exact⟨rfl,hn⟩
theorem c_all{W w:World}(hE:ErrsIn W)(hW:Below W.heap.size W w){l:Dat}{u:Value}(hl:HasTy TT 22 l)(sb:StrB l)(ru:Rep (startE w.heap.size) w l u):
 Calls Tryz.prog 15 #[.agg #[u,.int .i64 0,.string ⟨#[]⟩,.string ⟨#[]⟩,.int .i64 0,.slice none 0 0,.slice none 0 0,.int .i64 0]] w λe w'=>∃v D,e=.returned v∧Below w.heap.size w w'∧DeclAt D w' v∧FewF D 2097152:=by
 have tp:=ty_prog hl (ty_expr (k:=0) (n:=0) (p:=0) (s:=[]) (r:=[]) (by simp) (by simp) ty_nilExprs ty_nilPats)
 have hn:(absPg (.agg [l,.int .i64 0,.str [],.str [],.int .i64 0,.nil,.nil,.int .i64 0])).ds.length≤2^22:=by
  rw[absPg_ds,List.length_map]
  have:=strB_len sb
  show(elsOf l).length≤_
  omega
 have sb2:StrB (.agg [l,.int .i64 0,.str [],.str [],.int .i64 0,.nil,.nil,.int .i64 0]):=.agg _ λc hc=>by
  simp only[List.mem_cons,List.not_mem_nil,or_false] at hc
  rcases hc with rfl|rfl|rfl|rfl|rfl|rfl|rfl|rfl
  ·exact sb
  ·exact .int _ _
  ·exact .str _ (by simp)
  ·exact .str _ (by simp)
  ·exact .int _ _
  ·exact .nil
  ·exact .nil
  ·exact .int _ _
 have hF:=fewF_all tp sb2
 have ra:Rep (startE w.heap.size) w (.agg [l,.int .i64 0,.str [],.str [],.int .i64 0,.nil,.nil,.int .i64 0]) (.agg #[u,.int .i64 0,.string ⟨#[]⟩,.string ⟨#[]⟩,.int .i64 0,.slice none 0 0,.slice none 0 0,.int .i64 0]):=by
  refine .agg _ [u,.int .i64 0,.string ⟨#[]⟩,.string ⟨#[]⟩,.int .i64 0,.slice none 0 0,.slice none 0 0,.int .i64 0] rfl (λd hd=>?_) (λj d v hd hv=>?_)
  ·simp only[List.mem_cons,List.not_mem_nil,or_false] at hd
   rcases hd with rfl|rfl|rfl|rfl|rfl|rfl|rfl|rfl
   ·rcases hl.sl_inv undDecls with rfl|⟨m,ys,rfl|⟨t,rfl⟩,_⟩<;>rfl
   all_goals rfl
  ·match j,hd,hv with
   |0,hd,hv=>cases hd;cases hv;exact ru
   |1,hd,hv=>cases hd;cases hv;exact .int _ _
   |2,hd,hv=>cases hd;cases hv;exact .str []
   |3,hd,hv=>cases hd;cases hv;exact .str []
   |4,hd,hv=>cases hd;cases hv;exact .int _ _
   |5,hd,hv=>cases hd;cases hv;exact .nil _
   |6,hd,hv=>cases hd;cases hv;exact .nil _
   |7,hd,hv=>cases hd;cases hv;exact .int _ _
 refine(hw_call hE hW (r14All_ok _ ⟨[],[]⟩ tp hn (λout g'=>g'=⟨[],[]⟩∧∃v r,out=.val v∧RetV v r∧HasTy TT 22 r∧DD r=allDc (absPg (.agg [l,.int .i64 0,.str [],.str [],.int .i64 0,.nil,.nil,.int .i64 0]))) λr hr he v hv=>⟨rfl,v,r,rfl,hv,hr,he⟩) (reL1 ra)).mono λe w' ⟨out,g',E',⟨hg,v,r,ho,hv,hr,he⟩,hn,rel,hout⟩=>?_
 subst hg ho
 obtain⟨x,rfl,hx⟩:=out_ret hv hout
 exact⟨x,_,rfl,hn,⟨r,hr,he,rep_empty rel hx⟩,hF⟩
theorem c_cpD{W w:World}(hE:ErrsIn W)(hW:Below W.heap.size W w){D:List Dc}{u:Value}(h:DeclAt D w u):Calls Tryz.prog 17 #[u] w λe w'=>∃v,e=.returned v∧Below w.heap.size w w'∧DeclAt D w' v:=by
 obtain⟨l,hl,he,ru⟩:=h
 refine(hw_call hE hW (copyDecls_ok l ⟨[],[]⟩ hl (λout g'=>g'=⟨[],[]⟩∧∃v r,out=.val v∧RetV v r∧HasTy TT 22 r∧DD r=D) λl' hl' hn' ha'=>⟨rfl,_,slOf 4 l',rfl,retOf_ret _ _,slOf_ty undDecls szDecl (by rw[hn'];exact(hl.els undDecls).1) hl',by show(elsOf (slOf 4 l')).map absDc=_;rw[slOf_els,ha',←he];try rfl⟩) (reL1 ru)).mono λe w' ⟨out,g',E',⟨hg,v,r,ho,hv,hr,he⟩,hn,rel,hout⟩=>?_
 subst hg ho
 obtain⟨x,rfl,hx⟩:=out_ret hv hout
 exact⟨x,rfl,hn,r,hr,he,rep_empty rel hx⟩
theorem c_cpP{W w:World}(hE:ErrsIn W)(hW:Below W.heap.size W w){ps:List Pt}{u:Value}(h:PatsAt ps w u):Calls Tryz.prog 18 #[u] w λe w'=>∃v,e=.returned v∧Below w.heap.size w w'∧PatsAt ps w' v:=by
 obtain⟨l,hl,he,ru⟩:=h
 refine(hw_call hE hW (copyPats_ok _ l ⟨[],[]⟩ (Nat.lt_succ_self _) hl (λout g'=>g'=⟨[],[]⟩∧∃v r,out=.val v∧RetV v r∧HasTy TT 24 r∧rowAbs r=ps) λl' hl' hn' ha'=>⟨rfl,_,slOf 5 l',rfl,retOf_ret _ _,slOf_ty undPats szPat (by rw[hn'];exact(hl.els undPats).1) hl',by show(elsOf (slOf 5 l')).map absPt=_;rw[slOf_els,ha',←he];try rfl⟩) (reL1 ru)).mono λe w' ⟨out,g',E',⟨hg,v,r,ho,hv,hr,he⟩,hn,rel,hout⟩=>?_
 subst hg ho
 obtain⟨x,rfl,hx⟩:=out_ret hv hout
 exact⟨x,rfl,hn,r,hr,he,rep_empty rel hx⟩
theorem c_exh{W w:World}(hE:ErrsIn W)(hW:Below W.heap.size W w){D:List Dc}{ps:List Pt}{u v:Value}(hF:FewF D 2097152)(hl:ps.length≤60)(h:DeclAt D w u)(h':PatsAt ps w v):
 Calls Tryz.prog 16 #[u,v] w λe w'=>e=.returned (.tuple #[.bool (exhF D ps).1,.int .i64 (exhF D ps).2])∧Below w.heap.size w w':=by
 obtain⟨l,hd,rfl,ru⟩:=h
 obtain⟨x,hx,rfl,rv⟩:=h'
 refine(hw_call hE hW (exh_all hd hF hx (by rw[rowAbs,List.length_map] at hl;omega) (λout _=>out=outBE (exhF (DD l) (rowAbs x)).1 (exhF (DD l) (rowAbs x)).2) λ_ _=>rfl) (reL2 ru rv)).mono λe w' ⟨out,g',E',ho,hn,rel,hout⟩=>?_
 subst ho
 obtain⟨a,b,rfl,ha,hb⟩:=out_ret2 (us:=[.d (.bool (exhF (DD l) (rowAbs x)).1),.d (.int .i64 (exhF (DD l) (rowAbs x)).2)]) (a:=.bool (exhF (DD l) (rowAbs x)).1) (b:=.int .i64 (exhF (DD l) (rowAbs x)).2) ⟨rfl,rfl,trivial⟩ hout
 cases ha
 cases hb
 exact⟨rfl,hn⟩
theorem c_idle{W w:World}(hE:ErrsIn W)(hW:Below W.heap.size W w){D:List Dc}{ps:List Pt}{u v:Value}(hF:FewF D 2097152)(hl:ps.length≤60)(h:DeclAt D w u)(h':PatsAt ps w v):
 Calls Tryz.prog 19 #[u,v] w λe w'=>∃s,e=.returned (.tuple #[s,.int .i64 (idleD D ps).2])∧Below w.heap.size w w'∧IntsAt (idleD D ps).1 w' s:=by
 obtain⟨l,hd,rfl,ru⟩:=h
 obtain⟨x,hx,rfl,rv⟩:=h'
 refine(hw_call hE hW (idle_ok hd hF hx (by rw[rowAbs,List.length_map] at hl;omega) (λout _=>∃us,out=.val (.tuple us)∧RetL us [slOf 1 (natD (idleD (DD l) (rowAbs x)).1),.int .i64 (idleD (DD l) (rowAbs x)).2]) λ_ us _ hu=>⟨us,rfl,hu⟩) (reL2 ru rv)).mono λe w' ⟨out,g',E',⟨us,ho,hu⟩,hn,rel,hout⟩=>?_
 subst ho
 obtain⟨a,b,rfl,ha,hb⟩:=out_ret2 hu hout
 cases hb
 exact⟨a,rfl,hn,rep_ints rel.imm_lt ha⟩
theorem c_same{W w:World}(hE:ErrsIn W)(hW:Below W.heap.size W w){O:List Nat}{u v:Value}(hO:O.length≤2^30)(h:IntsAt O w u)(h':IntsAt O w v):Calls Tryz.prog 21 #[u,v] w λe w'=>e=.returned (.bool true)∧Below w.heap.size w w':=
 (hw_call hE hW (keepSame_self _ ⟨[],[]⟩ (natD_ty hO) (λout _=>out=.val (.d (.bool true))) rfl) (reL2 h h')).mono λe w' ⟨out,g',E',hb,hn,_,ho⟩=>by
  subst hb
  obtain⟨y,rfl,hy⟩:=ho
  cases hy
  exact⟨rfl,hn⟩
end Go.Proofs.YtiheejdkkjfenaaGreatDoor.Pa
namespace Go.Proofs.YtiheejdkkjfenaaGreatDoor.Pa
open Go Go.Proofs.YtiheejdkkjfenaaGreatDoor.Am Go.Proofs.YtiheejdkkjfenaaGreatDoor.Hw Go.RowKit
theorem rep_slice{t e:TypeId}{E:Em}{w:World}{d:Dat}{v:Value}(h:HasTy TT t d)(hu:TT.und t=some (.slice e))(r:Rep E w d v):∃a n c,v=.slice a n c:=by
 have key:∀m xs,Rep E w (.sl m xs) v→∃a n c,v=.slice a n c:=λm xs h=>by cases h<;>exact⟨_,_,_,rfl⟩
 rcases h.sl_inv hu with rfl|⟨m,xs,rfl|⟨k,rfl⟩,_⟩
 ·cases r;exact⟨_,_,_,rfl⟩
 ·exact key _ _ r
 ·cases r with
  |gsl _ _ _ _ _ h _ _ _=>exact key _ _ h
theorem c_fresh{w:World}{r:Dat}{u:Value}(hr:HasTy TT 24 r)(rr:Rep (startE w.heap.size) w r u):Calls Tryz.prog 18 #[u] w λe w'=>∃v F,e=.returned v∧Below w.heap.size w w'∧PtM w' (.mk 0 [] 0 (rowAbs r) 0) F v∧∀b∈F,w.heap.size≤b:=
 copyPats_hw w _ r u (Nat.lt_succ_self _) hr rr w (Below.refl _ _)
theorem c_turn{w0 w:World}{r:Dat}{F:List Nat}{u:Value}(hr:HasTy TT 24 r)(hb:Below w0.heap.size w0 w)(h:PtM w (.mk 0 [] 0 (rowAbs r) 0) F u)(hF:∀b∈F,w0.heap.size≤b):
 Calls Tryz.prog 20 #[u] w λe w'=>e=.returned (.tuple #[])∧Below w0.heap.size w0 w'∧PatsAt (tPs (rowAbs r)) w' u:=by
 have hl:(rowAbs r).length≤2^40:=by rw[rowAbs,List.length_map];exact(hr.els undPats).1.1
 have ho:=okTs_row _ r (Nat.lt_succ_self _) hr
 refine(turn_hw (rowAbs r) hl (okTs_sh _ ho) F w u h).mono λe w' ⟨he,hk,hp⟩=>⟨he,hb.trans (hk.toBelow hb.size hF),?_⟩
 obtain⟨d,h1,h2,h3⟩:=PtM.rep _ _ _ hp (by rw[okT,tPs_length];exact⟨by simp,hl,okTs_t _ ho⟩)
 exact⟨d,h1,h2,h3⟩
theorem turned_walk{W:World}(hE:ErrsIn W){l r:Dat}{vl vr:Value}(hl:HasTy TT 22 l)(hr:HasTy TT 24 r)(sb:StrB l)(rl:Rep (startE W.heap.size) W l vl)(rr:Rep (startE W.heap.size) W r vr):
 Calls Tryz.prog 4 #[vl,vr] W λe w'=>e=.returned (.bool true)∧Below W.heap.size W w':=by
 obtain⟨la,ln,lc,rfl⟩:=rep_slice hl undDecls rl
 obtain⟨ra,rn,rc,rfl⟩:=rep_slice hr undPats rr
 have HE:=Lib.hid hE
 have HL:=Lib.hid hl
 have HR:=Lib.hid hr
 have HS:=Lib.hid sb
 have h0:=Lib.hid rl
 have h1:=Lib.hid rr
 have hB:=Lib.hid (Below.refl W.heap.size W)
 clear hE hl hr sb rl rr
 go_enter Tryz.func4,Tryz.ntmps4
 go_wp2_with fail
 refine(c_large HE.out hB.out HL.out HR.out h0.out h1.out).mono ?_
 rintro e w1 ⟨b,rfl,hb,hq⟩
 replace hB:=Lib.hid (hB.out.trans (hb.mono hB.out.size))
 replace h0:=Lib.hid (rep_later h0.out hb)
 replace h1:=Lib.hid (rep_later h1.out hb)
 clear hb
 cases b
 ·have hlen:(rowAbs r).length≤60:=by rw[rowAbs,List.length_map];exact hq rfl
  have hlen2:(tPs (rowAbs r)).length≤60:=by rw[tPs_length];exact hlen
  clear hq
  go_wp2_with fail
  refine(c_all HE.out hB.out HL.out HS.out h0.out).mono ?_
  rintro e w2 ⟨v,D,rfl,hb,hA,hF⟩
  replace hB:=Lib.hid (hB.out.trans (hb.mono hB.out.size));replace h1:=Lib.hid (rep_later h1.out hb);clear hb
  replace hA:=Lib.hid hA
  replace hF:=Lib.hid hF
  clear h0
  obtain⟨A,hA1⟩:∃q,q=exhF D (rowAbs r):=⟨_,rfl⟩
  obtain⟨I,hI1⟩:∃q,q=idleD D (rowAbs r):=⟨_,rfl⟩
  have HA:=Lib.hid hA1
  have HI:=Lib.hid hI1
  clear hA1 hI1
  go_wp2_with fail
  refine(c_cpD HE.out hB.out hA.out).mono ?_
  rintro e w2 ⟨x,rfl,hb,hX⟩
  replace hB:=Lib.hid (hB.out.trans (hb.mono hB.out.size));replace h1:=Lib.hid (rep_later h1.out hb);replace hA:=Lib.hid (hA.out.later hb);clear hb
  replace hX:=Lib.hid hX
  go_wp2_with fail
  refine(c_cpP HE.out hB.out (ps:=rowAbs r) ⟨r,HR.out,rfl,h1.out⟩).mono ?_
  rintro e w2 ⟨y,rfl,hb,hY⟩
  replace hB:=Lib.hid (hB.out.trans (hb.mono hB.out.size));replace h1:=Lib.hid (rep_later h1.out hb);replace hA:=Lib.hid (hA.out.later hb);replace hX:=Lib.hid (hX.out.later hb);clear hb
  replace hY:=Lib.hid hY
  go_wp2_with fail
  have kk:=c_exh HE.out hB.out hF.out hlen hX.out hY.out
  rw[←HA.out] at kk
  refine kk.mono ?_
  clear kk
  rintro e w2 ⟨rfl,hb⟩
  replace hB:=Lib.hid (hB.out.trans (hb.mono hB.out.size));replace h1:=Lib.hid (rep_later h1.out hb);replace hA:=Lib.hid (hA.out.later hb);clear hb
  clear hX hY
  go_wp2_with fail
  refine(c_cpD HE.out hB.out hA.out).mono ?_
  rintro e w2 ⟨x,rfl,hb,hX⟩
  replace hB:=Lib.hid (hB.out.trans (hb.mono hB.out.size));replace h1:=Lib.hid (rep_later h1.out hb);replace hA:=Lib.hid (hA.out.later hb);clear hb
  replace hX:=Lib.hid hX
  go_wp2_with fail
  refine(c_cpP HE.out hB.out (ps:=rowAbs r) ⟨r,HR.out,rfl,h1.out⟩).mono ?_
  rintro e w2 ⟨y,rfl,hb,hY⟩
  replace hB:=Lib.hid (hB.out.trans (hb.mono hB.out.size));replace h1:=Lib.hid (rep_later h1.out hb);replace hA:=Lib.hid (hA.out.later hb);replace hX:=Lib.hid (hX.out.later hb);clear hb
  replace hY:=Lib.hid hY
  go_wp2_with fail
  have kk:=c_idle HE.out hB.out hF.out hlen hX.out hY.out
  rw[←HI.out] at kk
  refine kk.mono ?_
  clear kk
  rintro e w2 ⟨s1,rfl,hb,hI⟩
  replace hB:=Lib.hid (hB.out.trans (hb.mono hB.out.size));replace h1:=Lib.hid (rep_later h1.out hb);replace hA:=Lib.hid (hA.out.later hb);clear hb
  replace hI:=Lib.hid hI
  clear hX hY
  go_wp2_with fail
  refine(c_fresh HR.out h1.out).mono ?_
  rintro e w3 ⟨k,F,rfl,hb3,hp,hf⟩
  replace hp:=Lib.hid hp
  go_wp2_with fail
  refine(c_turn HR.out hb3 hp.out hf).mono ?_
  rintro e w4 ⟨rfl,hb,hK⟩
  clear hb3 hp hf
  replace hB:=Lib.hid (hB.out.trans (hb.mono hB.out.size));replace hA:=Lib.hid (hA.out.later hb);replace hI:=Lib.hid (hI.out.later hb);clear hb
  replace hK:=Lib.hid hK
  clear h1
  go_wp2_with fail
  refine(c_cpD HE.out hB.out hA.out).mono ?_
  rintro e w2 ⟨x,rfl,hb,hX⟩
  replace hB:=Lib.hid (hB.out.trans (hb.mono hB.out.size));replace hA:=Lib.hid (hA.out.later hb);replace hI:=Lib.hid (hI.out.later hb);replace hK:=Lib.hid (hK.out.later hb);clear hb
  replace hX:=Lib.hid hX
  go_wp2_with fail
  refine(c_cpP HE.out hB.out hK.out).mono ?_
  rintro e w2 ⟨y,rfl,hb,hY⟩
  replace hB:=Lib.hid (hB.out.trans (hb.mono hB.out.size));replace hA:=Lib.hid (hA.out.later hb);replace hI:=Lib.hid (hI.out.later hb);replace hK:=Lib.hid (hK.out.later hb);replace hX:=Lib.hid (hX.out.later hb);clear hb
  replace hY:=Lib.hid hY
  go_wp2_with fail
  have kk:=c_exh HE.out hB.out hF.out hlen2 hX.out hY.out
  rw[exhF_t,←HA.out] at kk
  refine kk.mono ?_
  clear kk
  rintro e w2 ⟨rfl,hb⟩
  replace hB:=Lib.hid (hB.out.trans (hb.mono hB.out.size));replace hA:=Lib.hid (hA.out.later hb);replace hI:=Lib.hid (hI.out.later hb);replace hK:=Lib.hid (hK.out.later hb);clear hb
  clear hX hY
  go_wp2_with fail
  refine(c_cpD HE.out hB.out hA.out).mono ?_
  rintro e w2 ⟨x,rfl,hb,hX⟩
  replace hB:=Lib.hid (hB.out.trans (hb.mono hB.out.size));replace hA:=Lib.hid (hA.out.later hb);replace hI:=Lib.hid (hI.out.later hb);replace hK:=Lib.hid (hK.out.later hb);clear hb
  replace hX:=Lib.hid hX
  go_wp2_with fail
  have kk:=c_idle HE.out hB.out hF.out hlen2 hX.out hK.out
  rw[idleD_t,←HI.out] at kk
  refine kk.mono ?_
  clear kk
  rintro e w2 ⟨s2,rfl,hb,hJ⟩
  replace hB:=Lib.hid (hB.out.trans (hb.mono hB.out.size));replace hI:=Lib.hid (hI.out.later hb);clear hb
  replace hJ:=Lib.hid hJ
  clear hX hK hA
  have hIl:I.1.length≤2^30:=by
   have:=idleD_len D (rowAbs r)
   rw[←HI.out] at this
   omega
  go_wp2_with fail
  refine(c_same HE.out hB.out hIl hI.out hJ.out).mono ?_
  rintro e w5 ⟨rfl,hb⟩
  replace hB:=Lib.hid (hB.out.trans (hb.mono hB.out.size));clear hb
  go_wp2_with fail
  refine(c_wakes HE.out hB.out).mono ?_
  rintro e w6 ⟨rfl,hb⟩
  replace hB:=Lib.hid (hB.out.trans (hb.mono hB.out.size));clear hb
  go_wp2_with fail
  go_ret
  exact⟨rfl,hB.out⟩
 ·go_wp2_with fail
  refine(c_wakes HE.out hB.out).mono ?_
  rintro e w2 ⟨rfl,hb⟩
  replace hB:=Lib.hid (hB.out.trans (hb.mono hB.out.size))
  clear hb
  go_wp2_with fail
  go_ret
  exact⟨rfl,hB.out⟩
end Go.Proofs.YtiheejdkkjfenaaGreatDoor.Pa
