/- Names made longer by a letter: what that is (plain). Expressions in memory of one's own: which blocks they lie in; taken apart and put together. Calls from any world, one behind another; patterns and expressions in memory of one's own as data. -/
import Derived.Test.YtgmapdcdmomioaaGreatDoorRC
import Derived.Test.YtgmapdcdmomioaaGreatDoorSN
set_option linter.all false
set_option autoImplicit false
set_option maxRecDepth 100000
namespace Go.Proofs.YtgmapdcdmomioaaGreatDoor.Pa
open Go Go.Proofs.YtgmapdcdmomioaaGreatDoor.Am
def yS(s:Str):Str:=s++[121]
theorem yS_inj{a b:Str}:yS a=yS b↔a=b:=List.append_left_inj [121]
theorem yS_mem(s:Str)(l:List Str):(l.map yS).contains (yS s)=l.contains s:=by
 induction l with
 |nil=>rfl
 |cons x l ih=>
  rw[List.map_cons,List.contains_cons,List.contains_cons,ih]
  congr 1
  rw[Bool.eq_iff_iff,beq_iff_eq,beq_iff_eq]
  exact yS_inj
def rnQ(k:Int)(s:Str):Str:=if k=2 then yS s else s
mutual
def rnP:Pt→Pt
 |.mk k s n a p=>.mk k (rnQ k s) n (rnPs a) p
def rnPs:List Pt→List Pt
 |[]=>[]
 |x::l=>rnP x::rnPs l
end
def rnS(k:Int)(s:Str):Str:=if s≠[]∧(k=1∨k=3∨k=5∨k=6) then yS s else s
def rnR(r:Str):Str:=if r≠[] then yS r else r
mutual
def rnE:Ex'→Ex'
 |.mk k s r n a b p=>.mk k (rnS k s) (rnR r) n (rnEs a) (rnPs b) p
def rnEs:List Ex'→List Ex'
 |[]=>[]
 |x::l=>rnE x::rnEs l
end
theorem rnPs_map:∀l:List Pt,rnPs l=l.map rnP
 |[]=>rfl
 |p::l=>by rw[rnPs,rnPs_map l];rfl
theorem rnEs_map:∀l:List Ex',rnEs l=l.map rnE
 |[]=>rfl
 |p::l=>by rw[rnEs,rnEs_map l];rfl
theorem rnPs_len(l:List Pt):(rnPs l).length=l.length:=by rw[rnPs_map,List.length_map]
theorem rnEs_len(l:List Ex'):(rnEs l).length=l.length:=by rw[rnEs_map,List.length_map]
end Go.Proofs.YtgmapdcdmomioaaGreatDoor.Pa
namespace Go.Proofs.YtgmapdcdmomioaaGreatDoor.Pa
open Go Go.Proofs.YtgmapdcdmomioaaGreatDoor.Am Go.Proofs.YtgmapdcdmomioaaGreatDoor.Hw Go.RowKit
def rowE(x:Dat):List Ex':=(elsOf x).map absEx
def exCells(k:Int)(s r:Str)(n:Int)(va vb:Value)(p:Int):List Value:=[.int .i64 k,.string ⟨s.toArray⟩,.string ⟨r.toArray⟩,.int .i64 n,va,vb,.int .i64 p]
mutual
def ExM(w:World):Ex'→List Nat→Value→Value→Prop
 |.mk _ _ _ _ a b _,F,va,vb=>∃Fa Fb,F=Fa++Fb∧Apart Fa Fb∧((a=[]∧Fa=[]∧va=.slice none 0 0)∨∃bk c F' xs,va=.slice (some ⟨bk,0,none⟩) a.length c∧Fa=bk::F'∧bk ∉ F'∧w.ownsRow 0 27 7 va a.length xs∧EsM w a F' xs)∧PtM w (.mk 0 [] 0 b 0) Fb vb
def EsM(w:World):List Ex'→List Nat→List Value→Prop
 |[],F,xs=>F=[]∧xs=[]
 |.mk k s r n a b p::l,F,xs=>∃va vb F1 F2 xs',F=F1++F2∧Apart F1 F2∧xs=exCells k s r n va vb p++xs'∧ExM w (.mk k s r n a b p) F1 va vb∧EsM w l F2 xs'
end
def AM(w:World)(a:List Ex')(F:List Nat)(v:Value):Prop:=(a=[]∧F=[]∧v=.slice none 0 0)∨∃bk c F' xs,v=.slice (some ⟨bk,0,none⟩) a.length c∧F=bk::F'∧bk ∉ F'∧w.ownsRow 0 27 7 v a.length xs∧EsM w a F' xs
theorem exM_iff{w:World}{k n p:Int}{s r:Str}{a:List Ex'}{b:List Pt}{F:List Nat}{va vb:Value}:ExM w (.mk k s r n a b p) F va vb↔∃Fa Fb,F=Fa++Fb∧Apart Fa Fb∧AM w a Fa va∧PtM w (.mk 0 [] 0 b 0) Fb vb:=by
 rw[ExM];rfl
mutual
theorem ExM.kept{w w':World}:∀(e:Ex') (F:List Nat) (va vb:Value),(∀b∈F,w'.heap[b]?=w.heap[b]?)→ExM w e F va vb→ExM w' e F va vb
 |.mk k s r n a b p,F,va,vb,hk,h=>by
  rw[ExM] at h⊢
  obtain⟨Fa,Fb,rfl,hA,h1,h2⟩:=h
  refine⟨Fa,Fb,rfl,hA,?_,PtM.kept _ _ _ (λx hx=>hk x (by simp[hx])) h2⟩
  rcases h1 with h1|⟨b',c,F',xs,rfl,rfl,hb,ho,hs⟩
  ·exact .inl h1
  ·exact .inr ⟨b',c,F',xs,rfl,rfl,hb,ownsRow_heap ho (hk b' (by simp)),EsM.kept a F' xs (λx hx=>hk x (by simp[hx])) hs⟩
theorem EsM.kept{w w':World}:∀(l:List Ex') (F:List Nat) (xs:List Value),(∀b∈F,w'.heap[b]?=w.heap[b]?)→EsM w l F xs→EsM w' l F xs
 |[],F,xs,hk,h=>by rw[EsM] at h⊢;exact h
 |.mk k s r n a b p::l,F,xs,hk,h=>by
  rw[EsM] at h⊢
  obtain⟨va,vb,F1,F2,xs',rfl,hA,rfl,h1,h2⟩:=h
  exact⟨va,vb,F1,F2,xs',rfl,hA,rfl,ExM.kept (.mk k s r n a b p) F1 va vb (λb hb=>hk b (by simp[hb])) h1,EsM.kept l F2 xs' (λb hb=>hk b (by simp[hb])) h2⟩
end
theorem AM.kept{w w':World}{a:List Ex'}{F:List Nat}{v:Value}(hk:∀b∈F,w'.heap[b]?=w.heap[b]?)(h:AM w a F v):AM w' a F v:=by
 rcases h with h|⟨b',c,F',xs,rfl,rfl,hb,ho,hs⟩
 ·exact .inl h
 ·exact .inr ⟨b',c,F',xs,rfl,rfl,hb,ownsRow_heap ho (hk b' (by simp)),EsM.kept a F' xs (λx hx=>hk x (by simp[hx])) hs⟩
mutual
theorem ExM.lt{w:World}:∀(e:Ex') (F:List Nat) (va vb:Value),ExM w e F va vb→∀b∈F,b<w.heap.size
 |.mk k s r n a b p,F,va,vb,h,x,hx=>by
  rw[ExM] at h
  obtain⟨Fa,Fb,rfl,hA,h1,h2⟩:=h
  rcases List.mem_append.1 hx with hx|hx
  ·rcases h1 with ⟨_,rfl,_⟩|⟨b',c,F',xs,rfl,rfl,_,ho,hs⟩
   ·cases hx
   ·rcases List.mem_cons.1 hx with rfl|hx
    ·exact(ho.lt _ rfl).2
    ·exact EsM.lt a F' xs hs x hx
  ·exact PtM.lt _ _ _ h2 x hx
theorem EsM.lt{w:World}:∀(l:List Ex') (F:List Nat) (xs:List Value),EsM w l F xs→∀b∈F,b<w.heap.size
 |[],F,xs,h,b,hb=>by rw[EsM] at h;rw[h.1] at hb;cases hb
 |.mk k s r n a b p::l,F,xs,h,x,hx=>by
  rw[EsM] at h
  obtain⟨va,vb,F1,F2,xs',rfl,hA,rfl,h1,h2⟩:=h
  rcases List.mem_append.1 hx with hx|hx
  ·exact ExM.lt (.mk k s r n a b p) F1 va vb h1 x hx
  ·exact EsM.lt l F2 xs' h2 x hx
end
theorem AM.lt{w:World}{a:List Ex'}{F:List Nat}{v:Value}(h:AM w a F v):∀b∈F,b<w.heap.size:=λx hx=>by
 rcases h with ⟨_,rfl,_⟩|⟨b',c,F',xs,rfl,rfl,_,ho,hs⟩
 ·cases hx
 ·rcases List.mem_cons.1 hx with rfl|hx
  ·exact(ho.lt _ rfl).2
  ·exact EsM.lt a F' xs hs x hx
theorem AM.slice{w:World}{a:List Ex'}{F:List Nat}{v:Value}(h:AM w a F v):∃b c,v=.slice b a.length c:=by
 rcases h with ⟨rfl,_,rfl⟩|⟨b',c,F',xs,rfl,_⟩<;>exact⟨_,_,rfl⟩
theorem EsM.len{w:World}:∀(l:List Ex') (F:List Nat) (xs:List Value),EsM w l F xs→xs.length=l.length*7
 |[],F,xs,h=>by rw[EsM] at h;rw[h.2];rfl
 |.mk k s r n a b p::l,F,xs,h=>by
  rw[EsM] at h
  obtain⟨va,vb,F1,F2,xs',rfl,hA,rfl,h1,h2⟩:=h
  have:=EsM.len l F2 xs' h2
  simp only[List.length_append,List.length_cons,exCells,List.length_nil]
  omega
theorem EsM.app{w:World}:∀{l:List Ex'} {F:List Nat} {xs:List Value} {l':List Ex'} {F':List Nat} {xs':List Value},EsM w l F xs→EsM w l' F' xs'→Apart F F'→EsM w (l++l') (F++F') (xs++xs')
 |[],F,xs,l',F',xs',h,h',_=>by rw[EsM] at h;obtain⟨rfl,rfl⟩:=h;exact h'
 |.mk k s r n a b p::l,F,xs,l',F',xs',h,h',hA=>by
  rw[EsM] at h
  obtain⟨va,vb,F1,F2,ys,rfl,hB,rfl,h1,h2⟩:=h
  rw[List.cons_append,EsM]
  exact⟨va,vb,F1,F2++F',ys++xs',by rw[List.append_assoc],λx hx hn=>by
   rcases List.mem_append.1 hn with hn|hn
   ·exact hB x hx hn
   ·exact hA x (by simp[hx]) hn,by rw[List.append_assoc],h1,EsM.app h2 h' λx hx=>hA x (by simp[hx])⟩
theorem EsM.split{w:World}:∀{l:List Ex'} {F:List Nat} {xs:List Value} {l':List Ex'},EsM w (l++l') F xs→∃F1 F2 xs1 xs2,F=F1++F2∧Apart F1 F2∧xs=xs1++xs2∧EsM w l F1 xs1∧EsM w l' F2 xs2
 |[],F,xs,l',h=>⟨[],F,[],xs,rfl,(λx hx=>by cases hx),rfl,(by rw[EsM];exact⟨rfl,rfl⟩),h⟩
 |.mk k s r n a b p::l,F,xs,l',h=>by
  rw[List.cons_append,EsM] at h
  obtain⟨va,vb,F1,F2,ys,rfl,hB,rfl,h1,h2⟩:=h
  obtain⟨G1,G2,y1,y2,rfl,hA,rfl,h3,h4⟩:=EsM.split h2
  refine⟨F1++G1,G2,exCells k s r n va vb p++y1,y2,by rw[List.append_assoc],λx hx hn=>?_,by rw[List.append_assoc],?_,h4⟩
  ·rcases List.mem_append.1 hx with hx|hx
   ·exact hB x hx (by simp[hn])
   ·exact hA x hx hn
  ·rw[EsM]
   exact⟨va,vb,F1,G1,y1,rfl,λx hx hn=>hB x hx (by simp[hn]),rfl,h1,h3⟩
theorem EsM.one{w:World}{k n p:Int}{s r:Str}{a:List Ex'}{b:List Pt}{F:List Nat}{va vb:Value}(h:ExM w (.mk k s r n a b p) F va vb):EsM w [.mk k s r n a b p] F (exCells k s r n va vb p):=by
 rw[EsM]
 exact⟨va,vb,F,[],[],(by simp),(λx _ hn=>by cases hn),(by simp),h,(by rw[EsM];exact⟨rfl,rfl⟩)⟩
theorem EsM.one_inv{w:World}{k n p:Int}{s r:Str}{a:List Ex'}{b:List Pt}{F:List Nat}{xs:List Value}(h:EsM w [.mk k s r n a b p] F xs):∃va vb,xs=exCells k s r n va vb p∧ExM w (.mk k s r n a b p) F va vb:=by
 rw[EsM] at h
 obtain⟨va,vb,F1,F2,ys,rfl,hB,rfl,h1,h2⟩:=h
 rw[EsM] at h2
 obtain⟨rfl,rfl⟩:=h2
 exact⟨va,vb,by simp,by simpa using h1⟩
theorem ExM.args{w:World}{k n p k' n' p':Int}{s s' r r':Str}{a:List Ex'}{b:List Pt}{F:List Nat}{va vb:Value}(h:ExM w (.mk k s r n a b p) F va vb):ExM w (.mk k' s' r' n' a b p') F va vb:=by
 rw[exM_iff] at h⊢;exact h
theorem EsM.at{w:World}{l l':List Ex'}{k n p:Int}{s r:Str}{a:List Ex'}{b:List Pt}{F:List Nat}{xs:List Value}(h:EsM w (l++.mk k s r n a b p::l') F xs):
 ∃F1 Fp F2 x1 va vb x2,F=F1++(Fp++F2)∧Apart F1 (Fp++F2)∧Apart Fp F2∧xs=x1++(exCells k s r n va vb p++x2)∧x1.length=l.length*7∧EsM w l F1 x1∧ExM w (.mk k s r n a b p) Fp va vb∧EsM w l' F2 x2:=by
 obtain⟨F1,F2,x1,x2,rfl,hA,rfl,h1,h2⟩:=h.split
 rw[EsM] at h2
 obtain⟨va,vb,G1,G2,y,rfl,hB,rfl,h3,h4⟩:=h2
 exact⟨F1,G1,G2,x1,va,vb,y,rfl,hA,hB,rfl,h1.len,h1,h3,h4⟩
theorem EsM.put{w:World}{l l':List Ex'}{k n p:Int}{s r:Str}{a:List Ex'}{b:List Pt}{F1 Fp F2:List Nat}{x1 x2:List Value}{va vb:Value}(hA:Apart F1 (Fp++F2))(hB:Apart Fp F2)(h1:EsM w l F1 x1)(h:ExM w (.mk k s r n a b p) Fp va vb)(h2:EsM w l' F2 x2):EsM w (l++.mk k s r n a b p::l') (F1++(Fp++F2)) (x1++(exCells k s r n va vb p++x2)):=by
 refine h1.app ?_ hA
 rw[EsM]
 exact⟨va,vb,Fp,F2,x2,rfl,hB,rfl,h,h2⟩
theorem exprs_open{n:Nat}{w0:World}{d:Dat}{v:Value}(hd:HasTy TT 24 d)(h:Rep (startE n) w0 d v):∃ab c,v=.slice ab (elsOf d).length c∧(elsOf d).length≤2^40∧∀i (hi:i<(elsOf d).length),∃b o k s r m a q p va vb,ab=some ⟨b,o,none⟩∧b<n∧
 (elsOf d)[i]=.agg [.int .i64 k,.str s,.str r,.int .i64 m,a,q,.int .i64 p]∧HasTy TT 24 a∧HasTy TT 25 q∧Rep (startE n) w0 a va∧Rep (startE n) w0 q vb∧∀(j:Nat) u,(exCells k s r m va vb p)[j]?=some u→w0.cell? ⟨b,o+i*7+j,none⟩=some u:=by
 have key:∀m xs,Rep (startE n) w0 (.sl m xs) v→TT.size 27=some m→(∀y∈xs,HasTy TT 27 y)→∃ab c,v=.slice ab xs.length c∧∀i (hi:i<xs.length),∃b o k s r m a q p va vb,ab=some ⟨b,o,none⟩∧b<n∧
  xs[i]=.agg [.int .i64 k,.str s,.str r,.int .i64 m,a,q,.int .i64 p]∧HasTy TT 24 a∧HasTy TT 25 q∧Rep (startE n) w0 a va∧Rep (startE n) w0 q vb∧∀(j:Nat) u,(exCells k s r m va vb p)[j]?=some u→w0.cell? ⟨b,o+i*7+j,none⟩=some u:=λm xs h hm hx=>by
  rw[szExpr] at hm
  cases hm
  cases h with
  |emp _ a c=>exact⟨a,c,rfl,λi hi=>by simp at hi⟩
  |sl _ _ b o c vs hc hl h1 h2 h3 h4=>
   refine⟨some ⟨b,o,none⟩,c,rfl,λi hi=>?_⟩
   obtain⟨k,s,r,m,a,q,p,e,hs,hr,ha,hq⟩:=expr_ty (hx _ (List.getElem_mem hi))
   have hxi:xs[i]?=some xs[i]:=List.getElem?_eq_getElem hi
   have g:∀(j:Nat) d,([.int .i64 k,.str s,.str r,.int .i64 m,a,q,.int .i64 p]:List Dat)[j]?=some d→(startE n).imm b (o+i*7+j)∧w0.cell? ⟨b,o+i*7+j,none⟩=some (vs (i*7+j))∧Rep (startE n) w0 d (vs (i*7+j)):=λj d hd=>by
    have hd':xs[i].cells[j]?=some d:=by rw[e];exact hd
    exact⟨h2 i _ hxi j d hd',h3 i _ hxi j d hd',h4 i _ hxi j d hd'⟩
   refine⟨b,o,k,s,r,m,a,q,p,vs (i*7+4),vs (i*7+5),rfl,(g 0 _ rfl).1,e,ha,hq,(g 4 _ rfl).2.2,(g 5 _ rfl).2.2,λj u hu=>?_⟩
   match j,hu with
   |0,hu=>cases hu;exact(g 0 _ rfl).2.1.trans (by rw[(rep_cell (g 0 _ rfl).2.2).1 _ _ rfl])
   |1,hu=>cases hu;exact(g 1 _ rfl).2.1.trans (by rw[(rep_cell (g 1 _ rfl).2.2).2 _ rfl])
   |2,hu=>cases hu;exact(g 2 _ rfl).2.1.trans (by rw[(rep_cell (g 2 _ rfl).2.2).2 _ rfl])
   |3,hu=>cases hu;exact(g 3 _ rfl).2.1.trans (by rw[(rep_cell (g 3 _ rfl).2.2).1 _ _ rfl])
   |4,hu=>cases hu;exact(g 4 _ rfl).2.1
   |5,hu=>cases hu;exact(g 5 _ rfl).2.1
   |6,hu=>cases hu;exact(g 6 _ rfl).2.1.trans (by rw[(rep_cell (g 6 _ rfl).2.2).1 _ _ rfl])
   |j+7,hu=>cases hu
 rcases hd.sl_inv undExprs with rfl|⟨m,xs,e,hm,hl,hx⟩
 ·cases h with
  |nil a=>exact⟨a,0,rfl,by show 0≤_;omega,λi hi=>by exact absurd hi (Nat.not_lt_zero _)⟩
 ·have hl':=hl.1
  rcases e with rfl|⟨t,rfl⟩
  ·obtain⟨ab,c,h1,h2⟩:=key m xs h hm hx
   exact⟨ab,c,h1,hl',h2⟩
  ·cases h with
   |gsl _ _ _ _ _ h _ _ _=>
    obtain⟨ab,c,h1,h2⟩:=key m xs h hm hx
    exact⟨ab,c,h1,hl',h2⟩
theorem infoEx:(Tryz.prog.info? 27).map (λi=>(i.zero,i.size,i.bytes))=some (some (.agg #[.int .i64 0,.string ⟨#[]⟩,.string ⟨#[]⟩,.int .i64 0,.slice none 0 0,.slice none 0 0,.int .i64 0]),7,104):=by kernel_rfl
end Go.Proofs.YtgmapdcdmomioaaGreatDoor.Pa
namespace Go.Proofs.YtgmapdcdmomioaaGreatDoor.Pa
open Go Go.Proofs.YtgmapdcdmomioaaGreatDoor.Am Go.Proofs.YtgmapdcdmomioaaGreatDoor.Hw Go.RowKit
theorem up_below{w w':World}(h:Below w.heap.size w w'):Up (startE w.heap.size) w [] (startE w'.heap.size) w' [] where
 os:=h.os
 tape:=h.tape
 output:=h.output
 size:=h.size
 ng:=Nat.le_refl 0
 gb i hi:=absurd hi (Nat.not_lt_zero i)
 imm b o hi:=Nat.lt_of_lt_of_le (show b<w.heap.size from hi) h.size
 cell b o hi:=h.cell hi
 alien b hb _:=⟨h.block b hb,rfl,λo _=>hb⟩
 gtoks g m n hg:=by simp at hg
 gk g m n hg:=by cases hg
 tok b k hb:=by cases hb
theorem rep_later{w w':World}{d:Dat}{v:Value}(h:Rep (startE w.heap.size) w d v)(hb:Below w.heap.size w w'):Rep (startE w'.heap.size) w' d v:=h.up (up_below hb)
theorem rep_start{E:Em}{w:World}{n:Nat}(hi:∀b o,E.imm b o→b<n)(hg:E.ng=0)(hk:∀t,E.gk t=none){d:Dat}{v:Value}(h:Rep E w d v):Rep (startE n) w d v:=by
 induction h with
 |bool b=>exact .bool b
 |int k n=>exact .int k n
 |str s=>exact .str s
 |ptrN=>exact .ptrN
 |ptr i o h=>omega
 |nil a=>exact .nil a
 |emp m a c=>exact .emp m a c
 |sl m xs b o c vs hc hm h1 h2 h3 h4 ih=>exact .sl m xs b o c vs hc hm h1 (λi x hx j d hd=>hi _ _ (h2 i x hx j d hd)) h3 ih
 |gsl t m xs v n h hk' hn ht ih=>rw[hk] at hk';cases hk'
 |mapN=>exact .mapN
 |map i h=>omega
 |clo f cap vs hl h ih=>exact .clo f cap vs hl ih
 |bnd f r v h ih=>exact .bnd f r v ih
 |nilFn=>exact .nilFn
 |iface t d v h ih=>exact .iface t d v ih
 |nilIface=>exact .nilIface
 |agg cs vs hl h1 h ih=>exact .agg cs vs hl h1 ih
theorem rep_empty{E:Em}{w:World}{d:Dat}{v:Value}(r:GRel E w ⟨[],[]⟩)(h:Rep E w d v):Rep (startE w.heap.size) w d v:=
 rep_start r.imm_lt r.ng (λt=>by rw[r.gk];rfl) h
theorem hw_call{W w:World}(hE:ErrsIn W)(hb:Below W.heap.size W w){f:FuncId}{ds:List Dat}{Q:OGP}(h:EvF TT f ds ⟨[],[]⟩ Q){vs:List Value}(hd:ReL (startE w.heap.size) w ds vs):
 Calls Tryz.prog f vs.toArray w λe w'=>∃out g' E',Q out g'∧Below w.heap.size w w'∧GRel E' w' g'∧OutRep E' w' w.heap.size out e:=by
 obtain⟨out,g',hq,n,hn⟩:=h
 exact(((run_sound (based_ok W) okTT (extTT hE) n).calls f ds ⟨[],[]⟩ out g' (hn n (Nat.le_refl _))).2 _ w vs ⟨hb,λ_ _=>rfl⟩ (start_rel w) (start_only _) hd).mono λe w' ⟨E',u,r,_,ho⟩=>⟨out,g',E',hq,start_below u,r,ho⟩
theorem reL1{E:Em}{w:World}{d:Dat}{v:Value}(h:Rep E w d v):ReL E w [d] [v]:=⟨rfl,λj x y hx hy=>by
 match j,hx,hy with
 |0,hx,hy=>cases hx;cases hy;exact h⟩
theorem rep1_ret{E:Em}{w:World}{B:Nat}{v:Val}{l:Dat}{u:Value}(hr:RetV v l)(hu:RepO1 E w B v u):Rep E w l u:=by
 cases v with
 |d y=>obtain rfl:y=l:=hr;exact hu
 |uq m ys=>obtain rfl:l=.sl m ys:=hr;exact hu.1
 |_=>exact hr.elim
theorem out_ret{E:Em}{w:World}{B:Nat}{v:Val}{l:Dat}{e:Ending}(hr:RetV v l)(h:OutRep E w B (.val v) e):∃u,e=.returned u∧Rep E w l u:=by
 obtain⟨u,rfl,hu⟩:=h
 refine⟨u,rfl,?_⟩
 cases v with
 |tuple vs=>exact hr.elim
 |_=>exact rep1_ret (B:=B) hr hu
theorem rep_keep{E E2:Em}{w w':World}(hi:∀b o,E.imm b o→E2.imm b o∧w'.cell? ⟨b,o,none⟩=w.cell? ⟨b,o,none⟩)(hg:E.ng=0)(hk:∀t,E.gk t=none){d:Dat}{v:Value}(h:Rep E w d v):Rep E2 w' d v:=by
 induction h with
 |bool b=>exact .bool b
 |int k n=>exact .int k n
 |str s=>exact .str s
 |ptrN=>exact .ptrN
 |ptr i o h=>omega
 |nil a=>exact .nil a
 |emp m a c=>exact .emp m a c
 |sl m xs b o c vs hc hm h1 h2 h3 h4 ih=>exact .sl m xs b o c vs hc hm h1 (λi x hx j d hd=>(hi _ _ (h2 i x hx j d hd)).1) (λi x hx j d hd=>(hi _ _ (h2 i x hx j d hd)).2.trans (h3 i x hx j d hd)) ih
 |gsl t m xs v n h hk' hn ht ih=>rw[hk] at hk';cases hk'
 |mapN=>exact .mapN
 |map i h=>omega
 |clo f cap vs hl h ih=>exact .clo f cap vs hl ih
 |bnd f r v h ih=>exact .bnd f r v ih
 |nilFn=>exact .nilFn
 |iface t d v h ih=>exact .iface t d v ih
 |nilIface=>exact .nilIface
 |agg cs vs hl h1 h ih=>exact .agg cs vs hl h1 ih
theorem start_rel0{n:Nat}{w:World}(h:n≤w.heap.size):GRel (startE n) w ⟨[],[]⟩ where
 own_lt b ow h:=by cases h
 own_g b i h:=by cases h
 gk i:=by simp[startE]
 imm_lt b o hb:=Nat.lt_of_lt_of_le hb h
 ng:=rfl
 boxes i bx h:=by simp at h
 toks i m n h:=by simp at h
theorem hw_call0{W w:World}(hE:ErrsIn W)(hb:Below W.heap.size W w){n0:Nat}(hn0:n0≤w.heap.size){f:FuncId}{ds:List Dat}{Q:OGP}(h:EvF TT f ds ⟨[],[]⟩ Q){vs:List Value}(hd:ReL (startE n0) w ds vs):
 Calls Tryz.prog f vs.toArray w λe w'=>∃out g' E',Q out g'∧Below w.heap.size w w'∧GRel E' w' g'∧OutRep E' w' w.heap.size out e∧∀b o,E'.imm b o→b<n0∨w.heap.size≤b:=by
 obtain⟨out,g',hq,n,hn⟩:=h
 refine(((run_sound (based_ok W) okTT (extTT hE) n).calls f ds ⟨[],[]⟩ out g' (hn n (Nat.le_refl _))).2 _ w vs ⟨hb,λ_ _=>rfl⟩ (start_rel0 hn0) (start_only _) hd).mono λe w' ⟨E',u,r,_,ho⟩=>⟨out,g',E',hq,⟨u.os,u.tape,u.output,u.size,λk hk=>(u.alien k hk rfl).1⟩,r,ho,λb o hi=>?_⟩
 by_cases hlt:b<w.heap.size
 ·exact .inl ((u.alien b hlt rfl).2.2 o hi)
 ·exact .inr (by omega)
def progV(vd:Value)(k:Int)(s r:Str)(n:Int)(va vb:Value)(p:Int):Value:=.agg #[vd,.int .i64 k,.string ⟨s.toArray⟩,.string ⟨r.toArray⟩,.int .i64 n,va,vb,.int .i64 p]
def exprV(k:Int)(s r:Str)(n:Int)(va vb:Value)(p:Int):Value:=.agg #[.int .i64 k,.string ⟨s.toArray⟩,.string ⟨r.toArray⟩,.int .i64 n,va,vb,.int .i64 p]
mutual
def okP(n:Nat):Pt→Prop
 |.mk _ s _ a _=>s.length≤n∧a.length≤2^40∧okPs n a
def okPs(n:Nat):List Pt→Prop
 |[]=>True
 |p::l=>okP n p∧okPs n l
end
mutual
def okE(n:Nat):Ex'→Prop
 |.mk _ s r _ a b _=>s.length≤n∧r.length≤n∧SlFit TT 27 a.length∧okEs n a∧b.length≤2^40∧okPs n b
def okEs(n:Nat):List Ex'→Prop
 |[]=>True
 |p::l=>okE n p∧okEs n l
end
theorem okPs_all{n:Nat}:∀l:List Pt,okPs n l↔∀p∈l,okP n p
 |[]=>⟨λ_ p hp=>(by cases hp),λ_=>(by rw[okPs];trivial)⟩
 |p::l=>by rw[okPs,okPs_all l,List.forall_mem_cons]
theorem okEs_all{n:Nat}:∀l:List Ex',okEs n l↔∀p∈l,okE n p
 |[]=>⟨λ_ p hp=>(by cases hp),λ_=>(by rw[okEs];trivial)⟩
 |p::l=>by rw[okEs,okEs_all l,List.forall_mem_cons]
theorem yS_len(s:Str):(yS s).length=s.length+1:=by simp[yS]
mutual
theorem okP_rn{n:Nat}:∀p:Pt,okP n p→okP (n+1) (rnP p)
 |.mk k s m a p,h=>by
  rw[okP] at h
  rw[rnP,okP,rnPs_len]
  refine⟨?_,h.2.1,okPs_rn a h.2.2⟩
  unfold rnQ
  split
  ·rw[yS_len];omega
  ·omega
theorem okPs_rn{n:Nat}:∀l:List Pt,okPs n l→okPs (n+1) (rnPs l)
 |[],_=>by rw[rnPs,okPs];trivial
 |p::l,h=>by rw[okPs] at h;rw[rnPs,okPs];exact⟨okP_rn p h.1,okPs_rn l h.2⟩
end
mutual
theorem okE_rn{n:Nat}:∀p:Ex',okE n p→okE (n+1) (rnE p)
 |.mk k s r m a b p,h=>by
  rw[okE] at h
  rw[rnE,okE,rnPs_len,rnEs_len]
  refine⟨?_,?_,h.2.2.1,okEs_rn a h.2.2.2.1,h.2.2.2.2.1,okPs_rn b h.2.2.2.2.2⟩
  ·unfold rnS
   split
   ·rw[yS_len];omega
   ·omega
  ·unfold rnR
   split
   ·rw[yS_len];omega
   ·omega
theorem okEs_rn{n:Nat}:∀l:List Ex',okEs n l→okEs (n+1) (rnEs l)
 |[],_=>by rw[rnEs,okEs];trivial
 |p::l,h=>by rw[okEs] at h;rw[rnEs,okEs];exact⟨okE_rn p h.1,okEs_rn l h.2⟩
end
theorem fitP40{n:Nat}(h:n≤2^40):SlFit TT 127 n:=⟨h,λb hb=>by rw[byPat] at hb;cases hb;omega⟩
mutual
theorem PtM.rep{w:World}:∀(p:Pt) (F:List Nat) (v:Value),PtM w p F v→okP (2^40) p→∃d,HasTy TT 25 d∧rowP d=(match p with|.mk _ _ _ a _=>a)∧Rep (startE w.heap.size) w d v
 |.mk k s n a q,F,v,h,hok=>by
  rw[PtM] at h
  rw[okP] at hok
  rcases h with ⟨rfl,rfl,rfl⟩|⟨b,c,F',xs,rfl,rfl,hb,ho,hs⟩
  ·exact⟨.nil,slOf_ty (xs:=[]) undPats szPat (fitP40 (by decide)) (by simp),rfl,.nil _⟩
  ·obtain⟨ds,h1,h2,h3⟩:=PsM.rep a F' xs hs hok.2.2
   have hl:ds.length=a.length:=by rw[←h1,List.length_map]
   have hblt:=(ho.lt b rfl).2
   refine⟨.sl 5 ds,.sl _ _ _ _ undPats szPat (fitP40 (by rw[hl];exact hok.2.1)) h2,h1,?_⟩
   rw[←hl]
   have hcc:ds.length≤c:=by
    rcases ho.2 with ⟨e,_⟩|⟨g,cap,cur,e,_,_,e2,_⟩
    ·cases e
    ·cases e;rw[hl];exact e2
   have key:∀(i:Nat) x,ds[i]?=some x→∀(j:Nat) d,x.cells[j]?=some d→d.one=true∧∃u,xs[i*5+j]?=some u∧Rep (startE w.heap.size) w d u:=λi x hx j d hd=>by
    obtain⟨k1,s1,m1,a1,p1,va1,rfl,t1,g1,g2⟩:=h3 i x hx
    match j,hd with
    |0,hd=>cases hd;exact⟨rfl,_,g1 0 _ rfl,.int _ _⟩
    |1,hd=>cases hd;exact⟨rfl,_,g1 1 _ rfl,.str _⟩
    |2,hd=>cases hd;exact⟨rfl,_,g1 2 _ rfl,.int _ _⟩
    |3,hd=>
     cases hd
     refine⟨?_,_,g1 3 _ rfl,g2⟩
     rcases t1.sl_inv undPats with rfl|⟨m,ys,rfl|⟨t,rfl⟩,_⟩<;>rfl
    |4,hd=>cases hd;exact⟨rfl,_,g1 4 _ rfl,.int _ _⟩
   refine .sl 5 ds b 0 c (λq=>(xs[q]?).getD undef) hcc (λx hx=>?_) (λi x hx j d hd=>(key i x hx j d hd).1) (λi x hx j d hd=>hblt) (λi x hx j d hd=>?_) (λi x hx j d hd=>?_)
   ·obtain⟨i,hi,rfl⟩:=List.getElem_of_mem hx
    obtain⟨k1,s1,m1,a1,p1,va1,e,_⟩:=h3 i _ (List.getElem?_eq_getElem hi)
    rw[e];rfl
   ·obtain⟨_,u,hu,_⟩:=key i x hx j d hd
    have hlt:i*5+j<a.length*5:=by
     have:=(List.getElem?_eq_some_iff.1 hu).1
     rw[PsM.len a F' xs hs] at this
     exact this
    rw[Nat.zero_add,ho.cellAt _ hlt,hu]
    rfl
   ·obtain⟨_,u,hu,hr⟩:=key i x hx j d hd
    simp only[hu,Option.getD_some]
    exact hr
theorem PsM.rep{w:World}:∀(l:List Pt) (F:List Nat) (xs:List Value),PsM w l F xs→okPs (2^40) l→∃ds:List Dat,ds.map absPt=l∧(∀y∈ds,HasTy TT 127 y)∧
 ∀(i:Nat) x,ds[i]?=some x→∃k s m a p va,x=.agg [.int .i64 k,.str s,.int .i64 m,a,.int .i64 p]∧HasTy TT 25 a∧(∀(q:Nat) u,(ptCells k s m va p)[q]?=some u→xs[i*5+q]?=some u)∧Rep (startE w.heap.size) w a va
 |[],F,xs,h,_=>⟨[],rfl,by simp,λi x hx=>by simp at hx⟩
 |.mk k s n a p::l,F,xs,h,hok=>by
  rw[PsM] at h
  rw[okPs] at hok
  obtain⟨v,F1,F2,xs',rfl,hA,rfl,h1,h2⟩:=h
  obtain⟨d,t,hd,hr⟩:=PtM.rep (.mk k s n a p) F1 v h1 hok.1
  obtain⟨ds,e1,e2,e3⟩:=PsM.rep l F2 xs' h2 hok.2
  have hs:s.length≤2^40:=by have:=hok.1;rw[okP] at this;exact this.1
  refine⟨.agg [.int .i64 k,.str s,.int .i64 n,d,.int .i64 p]::ds,?_,?_,λi x hx=>?_⟩
  ·rw[List.map_cons,e1]
   congr 1
   show Pt.mk k s n (absPtA d) p=_
   rw[absPtA_map]
   exact congrArg (λa=>Pt.mk k s n a p) hd
  ·intro y hy
   rcases List.mem_cons.1 hy with rfl|hy
   ·exact ty_pat hs t
   ·exact e2 y hy
  ·match i,hx with
   |0,hx=>
    cases hx
    refine⟨k,s,n,d,p,v,rfl,t,λq u hu=>?_,hr⟩
    have hq:q<5:=(List.getElem?_eq_some_iff.1 hu).1
    rw[Nat.zero_mul,Nat.zero_add,List.getElem?_append_left (by exact hq)]
    exact hu
   |i+1,hx=>
    obtain⟨k1,s1,m1,a1,p1,va1,g0,g1,g2,g3⟩:=e3 i x hx
    refine⟨k1,s1,m1,a1,p1,va1,g0,g1,λq u hu=>?_,g3⟩
    have e5:(ptCells k s n v p).length=5:=rfl
    rw[List.getElem?_append_right (by omega),e5,show(i+1)*5+q-5=i*5+q from by omega]
    exact g2 q u hu
end
mutual
theorem ExM.rep{w:World}:∀(e:Ex') (F:List Nat) (va vb:Value),ExM w e F va vb→okE (2^40) e→∃da db,HasTy TT 24 da∧HasTy TT 25 db∧rowE da=(match e with|.mk _ _ _ _ a _ _=>a)∧rowP db=(match e with|.mk _ _ _ _ _ b _=>b)∧Rep (startE w.heap.size) w da va∧Rep (startE w.heap.size) w db vb
 |.mk k s r n a b q,F,va,vb,h,hok=>by
  rw[ExM] at h
  rw[okE] at hok
  obtain⟨Fa,Fb,rfl,hA,h1,h2⟩:=h
  obtain⟨db,tb,eb,rb⟩:=PtM.rep _ _ _ h2 (by rw[okP];exact⟨by simp,hok.2.2.2.2.1,hok.2.2.2.2.2⟩)
  rcases h1 with ⟨rfl,rfl,rfl⟩|⟨bk,c,F',xs,rfl,rfl,hb,ho,hs⟩
  ·exact⟨.nil,db,slOf_ty (xs:=[]) undExprs szExpr ⟨by decide,λb _=>by simp⟩ (by simp),tb,rfl,eb,.nil _,rb⟩
  ·obtain⟨ds,h1,h2,h3⟩:=EsM.rep a F' xs hs hok.2.2.2.1
   have hl:ds.length=a.length:=by rw[←h1,List.length_map]
   have hblt:=(ho.lt bk rfl).2
   refine⟨.sl 7 ds,db,.sl _ _ _ _ undExprs szExpr (by rw[hl];exact hok.2.2.1) h2,tb,h1,eb,?_,rb⟩
   rw[←hl]
   have hcc:ds.length≤c:=by
    rcases ho.2 with ⟨e,_⟩|⟨g,cap,cur,e,_,_,e2,_⟩
    ·cases e
    ·cases e;rw[hl];exact e2
   have key:∀(i:Nat) x,ds[i]?=some x→∀(j:Nat) d,x.cells[j]?=some d→d.one=true∧∃u,xs[i*7+j]?=some u∧Rep (startE w.heap.size) w d u:=λi x hx j d hd=>by
    obtain⟨k1,s1,r1,m1,a1,b1,p1,va1,vb1,rfl,t1,u1,g1,g2,g3⟩:=h3 i x hx
    match j,hd with
    |0,hd=>cases hd;exact⟨rfl,_,g1 0 _ rfl,.int _ _⟩
    |1,hd=>cases hd;exact⟨rfl,_,g1 1 _ rfl,.str _⟩
    |2,hd=>cases hd;exact⟨rfl,_,g1 2 _ rfl,.str _⟩
    |3,hd=>cases hd;exact⟨rfl,_,g1 3 _ rfl,.int _ _⟩
    |4,hd=>
     cases hd
     refine⟨?_,_,g1 4 _ rfl,g2⟩
     rcases t1.sl_inv undExprs with rfl|⟨m,ys,rfl|⟨t,rfl⟩,_⟩<;>rfl
    |5,hd=>
     cases hd
     refine⟨?_,_,g1 5 _ rfl,g3⟩
     rcases u1.sl_inv undPats with rfl|⟨m,ys,rfl|⟨t,rfl⟩,_⟩<;>rfl
    |6,hd=>cases hd;exact⟨rfl,_,g1 6 _ rfl,.int _ _⟩
   refine .sl 7 ds bk 0 c (λq=>(xs[q]?).getD undef) hcc (λx hx=>?_) (λi x hx j d hd=>(key i x hx j d hd).1) (λi x hx j d hd=>hblt) (λi x hx j d hd=>?_) (λi x hx j d hd=>?_)
   ·obtain⟨i,hi,rfl⟩:=List.getElem_of_mem hx
    obtain⟨k1,s1,r1,m1,a1,b1,p1,va1,vb1,e,_⟩:=h3 i _ (List.getElem?_eq_getElem hi)
    rw[e];rfl
   ·obtain⟨_,u,hu,_⟩:=key i x hx j d hd
    have hlt:i*7+j<a.length*7:=by
     have:=(List.getElem?_eq_some_iff.1 hu).1
     rw[EsM.len a F' xs hs] at this
     exact this
    rw[Nat.zero_add,ho.cellAt _ hlt,hu]
    rfl
   ·obtain⟨_,u,hu,hr⟩:=key i x hx j d hd
    simp only[hu,Option.getD_some]
    exact hr
theorem EsM.rep{w:World}:∀(l:List Ex') (F:List Nat) (xs:List Value),EsM w l F xs→okEs (2^40) l→∃ds:List Dat,ds.map absEx=l∧(∀y∈ds,HasTy TT 27 y)∧
 ∀(i:Nat) x,ds[i]?=some x→∃k s r m a b p va vb,x=.agg [.int .i64 k,.str s,.str r,.int .i64 m,a,b,.int .i64 p]∧HasTy TT 24 a∧HasTy TT 25 b∧(∀(q:Nat) u,(exCells k s r m va vb p)[q]?=some u→xs[i*7+q]?=some u)∧Rep (startE w.heap.size) w a va∧Rep (startE w.heap.size) w b vb
 |[],F,xs,h,_=>⟨[],rfl,by simp,λi x hx=>by simp at hx⟩
 |.mk k s r n a b p::l,F,xs,h,hok=>by
  rw[EsM] at h
  rw[okEs] at hok
  obtain⟨va,vb,F1,F2,xs',rfl,hA,rfl,h1,h2⟩:=h
  obtain⟨da,db,ta,tb,ea,eb,ra,rb⟩:=ExM.rep (.mk k s r n a b p) F1 va vb h1 hok.1
  obtain⟨ds,e1,e2,e3⟩:=EsM.rep l F2 xs' h2 hok.2
  have hs:s.length≤2^40∧r.length≤2^40:=by have:=hok.1;rw[okE] at this;exact⟨this.1,this.2.1⟩
  refine⟨.agg [.int .i64 k,.str s,.str r,.int .i64 n,da,db,.int .i64 p]::ds,?_,?_,λi x hx=>?_⟩
  ·rw[List.map_cons,e1]
   congr 1
   show Ex'.mk k s r n (absExA da) (absPtA db) p=_
   rw[absExA_map,absPtA_map]
   rw[show(elsOf da).map absEx=a from ea,show(elsOf db).map absPt=b from eb]
  ·intro y hy
   rcases List.mem_cons.1 hy with rfl|hy
   ·exact ty_expr hs.1 hs.2 ta tb
   ·exact e2 y hy
  ·match i,hx with
   |0,hx=>
    cases hx
    refine⟨k,s,r,n,da,db,p,va,vb,rfl,ta,tb,λq u hu=>?_,ra,rb⟩
    have hq:q<7:=(List.getElem?_eq_some_iff.1 hu).1
    rw[Nat.zero_mul,Nat.zero_add,List.getElem?_append_left (by exact hq)]
    exact hu
   |i+1,hx=>
    obtain⟨k1,s1,r1,m1,a1,b1,p1,va1,vb1,g0,g1,g1',g2,g3,g4⟩:=e3 i x hx
    refine⟨k1,s1,r1,m1,a1,b1,p1,va1,vb1,g0,g1,g1',λq u hu=>?_,g3,g4⟩
    have e7:(exCells k s r n va vb p).length=7:=rfl
    rw[List.getElem?_append_right (by omega),e7,show(i+1)*7+q-7=i*7+q from by omega]
    exact g2 q u hu
end
end Go.Proofs.YtgmapdcdmomioaaGreatDoor.Pa
