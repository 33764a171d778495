/- Helpers for walks by hand: boxes, what is kept, appends of whole elements. No program in sight. Patterns in memory of one's own: which blocks they lie in; taken apart and put together. CopyPats by hand: the copy lies in new memory, each part for itself. CopyPats by hand: the walk. -/
import Derived.Test.YtgmapdcdmomioaaGreatDoorProg
import Derived.Deep.DeepCutAuto
import Derived.ArgAppend
import Derived.OwnWalk
import Derived.Below
import Derived.Test.YtgmapdcdmomioaaGreatDoorRD
set_option linter.all false
set_option autoImplicit false
set_option maxHeartbeats 4000000
set_option maxRecDepth 100000
namespace Go.Proofs.YtgmapdcdmomioaaGreatDoor.Hw
open Go Go.RowKit
def BoxAt(B:Nat)(w:World)(cs:List Value):Prop:=B<w.heap.size∧∀j v,cs[j]?=some v→w.cell? ⟨B,j,none⟩=some v
theorem BoxAt.later{B:Nat}{w w':World}{cs:List Value}(h:BoxAt B w cs)(hb:Below w.heap.size w w'):BoxAt B w' cs:=
 ⟨Nat.lt_of_lt_of_le h.1 hb.size,λj v hj=>(hb.cell h.1).trans (h.2 j v hj)⟩
theorem BoxAt.new(w:World)(cs:List Value)(t:TypeId):BoxAt w.heap.size (w.alloc (.cells cs.toArray t)) cs:=
 ⟨by simp,λj v hj=>by rw[World.cell?_alloc_new];simpa using hj⟩
theorem below_box(w:World)(o:Obj):Below w.heap.size w (w.alloc o):=(Below.refl _ _).alloc (Nat.le_refl _) _
theorem bgo{w0 w1 w2:World}(h:Below w0.heap.size w0 w1)(k:Below w1.heap.size w1 w2):Below w0.heap.size w0 w2:=h.trans (k.mono h.size)
theorem frozen_below{B:Nat}{a b:World}(h:Below B a b){k j:Nat}(hk:k<B)(hz:a.frozen? ⟨k,j,none⟩=false):b.frozen? ⟨k,j,none⟩=false:=
 (World.frozen?_of_block (a:=⟨k,j,none⟩) (h.block k hk)).trans hz
theorem frozen_cells{w:World}{b:Nat}{arr:Array Value}{t:TypeId}(h:w.heap[b]?=some (.cells arr t (0,0)))(k:Nat):w.frozen? ⟨b,k,none⟩=false:=by
 simp[World.frozen?,h]
theorem new_cells{W w1:World}{cs:List Value}{t:TypeId}{b:Nat}(hb:Below (W.alloc (.cells cs.toArray t)).heap.size (W.alloc (.cells cs.toArray t)) w1)(hn:b=W.heap.size):BoxAt b w1 cs∧∀j,w1.frozen? ⟨b,j,none⟩=false:=by
 subst hn
 exact⟨(BoxAt.new W cs t).later hb,λj=>frozen_below hb (by simp) (frozen_cells (arr:=cs.toArray) (t:=t) (by rw[heap_alloc_new]) j)⟩
structure Kept(S:List Nat)(w w':World):Prop where
 os:w'.os=w.os
 tape:w'.tape=w.tape
 output:w'.output=w.output
 size:w.heap.size≤w'.heap.size
 block:∀k,k<w.heap.size→k ∉ S→w'.heap[k]?=w.heap[k]?
theorem Kept.refl(S)(w:World):Kept S w w:=⟨rfl,rfl,rfl,Nat.le_refl _,λ_ _ _=>rfl⟩
theorem Kept.trans{S}{a b c:World}(h:Kept S a b)(k:Kept S b c):Kept S a c:=
 ⟨k.os.trans h.os,k.tape.trans h.tape,k.output.trans h.output,Nat.le_trans h.size k.size,λi hi hs=>(k.block i (Nat.lt_of_lt_of_le hi h.size) hs).trans (h.block i hi hs)⟩
theorem Kept.below{S}{a b:World}(h:Below a.heap.size a b):Kept S a b:=⟨h.os,h.tape,h.output,h.size,λk hk _=>h.block k hk⟩
theorem Kept.cell{S}{a b:World}(h:Kept S a b){p:Addr}{v:Value}(hc:a.cell? p=some v)(hs:p.block ∉ S):b.cell? p=some v:=
 (World.cell?_of_block (h.block p.block (World.block_lt_of_cell? a p hc) hs)).trans hc
theorem Kept.drew{S}{a b:World}(h:Kept S a b):Kept S a b.drew:=⟨h.os,h.tape,h.output,h.size,h.block⟩
theorem Kept.toBelow{S}{B:Nat}{a b:World}(h:Kept S a b)(hB:B≤a.heap.size)(hS:∀k∈S,B≤k):Below B a b:=
 ⟨h.os,h.tape,h.output,h.size,λk hk=>h.block k (by omega) (λhm=>by have:=hS k hm;omega)⟩
theorem kept_setCell{S:List Nat}{b:Nat}(h:b∈S)(w:World)(j:Nat)(v:Value):Kept S w (w.setCell ⟨b,j,none⟩ v):=
 ⟨rfl,rfl,rfl,by simp[World.setCell],λk _ hs=>Below.heap_setCell w ⟨b,j,none⟩ _ k (λe=>hs (by rw[e];exact h))⟩
theorem grownBy_none{w w':World}(h:w.grownBy w' none)(r:Option Nat):w.grownBy w' r:=⟨h.os,h.tape,h.output,h.size,λk hk _=>h.block k hk (by simp)⟩
theorem ownsRow_base{w:World}{b b':Nat}{e:TypeId}{size:Nat}{v:Value}{n:Nat}{xs:List Value}(h:w.ownsRow b e size v n xs)(hb:b'≤b):w.ownsRow b' e size v n xs:=by
 obtain⟨h1,h2⟩:=h
 refine⟨h1,?_⟩
 rcases h2 with h2|⟨g,cap,cur,a,h3,r⟩
 ·exact .inl h2
 ·exact .inr ⟨g,cap,cur,a,by omega,r⟩
theorem ownsRow_slice{w:World}{base:Nat}{e:TypeId}{size:Nat}{v:Value}{n:Nat}{xs:List Value}(h:w.ownsRow base e size v n xs):∃ao cap,v=.slice ao n cap:=by
 rcases h.2 with ⟨rfl,rfl⟩|⟨g,cap,cur,rfl,_⟩
 ·exact⟨_,_,rfl⟩
 ·exact⟨_,_,rfl⟩
structure PushedN(base:Nat)(e:TypeId)(size:Nat)(w w':World)(v v':Value)(n:Nat)(xs:List Value):Prop where
 own:w'.ownsRow base e size v' n xs
 gr:w.grownBy w' v.ownBlock
 new:∀k,v'.ownBlock=some k→v.ownBlock=some k∨w.heap.size≤k
theorem run_appendN{P:Program}{w:World}{base:Nat}{t ty e:TypeId}{i:TypeInfo}{z:Value}{size bytes:Nat}(ht:P.underlying t=some (.slice e))(hi:P.info? e=some i)(hz:i.zero=some z)
 (hsize:i.size=size) (hby:i.bytes=bytes) (hzs:z.cells.size=size) (hsz:0<size) {v:Value} {n:Nat} {xs:List Value} (hown:w.ownsRow base e size v n xs)
 {a:Addr} {m c:Nat} {news:List Value} (hl:news.length=m*size) (hnews:∀j u,news[j]?=some u→w.cell? (a.add j)=some u) (h1:∀u∈news,u.oneCell'=true)
 (h63:n+m≤maxLen) (hbytes:(n+m)*bytes≤140737488355328) (hbase:base≤w.heap.size):
 ∃v' w',(Builtin.append_ #[t,t] ty #[v,.slice (some a) m c]).run P w=.ok v' w'∧PushedN base e size w w' v v' (n+m) (xs++news):=by
 rcases hown.2 with ⟨rfl,rfl⟩|⟨g,cap,cur,rfl,hg,hh,hnc,hcm,hszc,htk⟩
 ·have hx0:xs=[]:=List.eq_nil_of_length_eq_zero (by simpa using hown.1)
  subst hx0
  obtain⟨v',w',hr,h2,h3,_⟩:=run_append_own (P:=P) w w.heap.size t ty e i z size bytes ht hi hz hsize hby hzs hsz (.slice none 0 0) 0 [] (World.ownsRow_nil w _ e size) a m c news hl hnews h1 h63 hbytes (Nat.le_refl _)
  exact⟨v',w',hr,ownsRow_base h2 hbase,h3,λk hk=>.inr (h2.lt k hk).1⟩
 ·by_cases hfit:n+m≤cap
  ·obtain⟨w',hr,h2,h3⟩:=run_append_fits (P:=P) w base t ty e i size ht hi hsize g n cap xs hown a m c news hl hnews h1 hfit
   exact⟨_,w',hr,h2,h3,λk hk=>.inl hk⟩
  ·obtain⟨v',w',hr,h2,h3⟩:=run_append_arg_grows (P:=P) w t ty e i z size bytes ht hi hz hsize hby hzs hsz ⟨g,0,none⟩ n cap xs (by simpa using hown.1) (λj u hj=>hown.cells rfl j u hj) a m c news hl hnews (by omega) h63 hbytes
   exact⟨v',w',hr,ownsRow_base h2 hbase,grownBy_none h3 _,λk hk=>.inr (h2.lt k hk).1⟩
def SrcAt(w:World)(sv:Value)(n:Nat)(news:List Value):Prop:=(∃a c,sv=.slice (some a) n c∧∀j u,news[j]?=some u→w.cell? (a.add j)=some u)∨(∃c,sv=.slice none 0 c∧n=0∧news=[])
theorem run_append_nil{P:Program}{w:World}{base:Nat}{t ty e:TypeId}{i:TypeInfo}{size:Nat}(ht:P.underlying t=some (.slice e))(hi:P.info? e=some i){v:Value}{n:Nat}{xs:List Value}(hown:w.ownsRow base e size v n xs)(c:Nat):
 (Builtin.append_ #[t,t] ty #[v,.slice none 0 c]).run P w=.ok v w:=by
 rcases hown.2 with ⟨rfl,_⟩|⟨g,cap,cur,rfl,_,_,h,_⟩
 ·simp[Builtin.append_,run_underlying ht,sizeOf,typeInfo,hi,Builtin.lenOf,Builtin.firstCells]
 ·simp[Builtin.append_,run_underlying ht,sizeOf,typeInfo,hi,Builtin.lenOf,Builtin.firstCells,h,storeCells]
theorem run_appendS{P:Program}{w:World}{base:Nat}{t ty e:TypeId}{i:TypeInfo}{z:Value}{size bytes:Nat}(ht:P.underlying t=some (.slice e))(hi:P.info? e=some i)(hz:i.zero=some z)
 (hsize:i.size=size) (hby:i.bytes=bytes) (hzs:z.cells.size=size) (hsz:0<size) {v:Value} {n:Nat} {xs:List Value} (hown:w.ownsRow base e size v n xs)
 {sv:Value} {m:Nat} {news:List Value} (hl:news.length=m*size) (hnews:SrcAt w sv m news) (h1:∀u∈news,u.oneCell'=true)
 (h63:n+m≤maxLen) (hbytes:(n+m)*bytes≤140737488355328) (hbase:base≤w.heap.size):
 ∃v' w',(Builtin.append_ #[t,t] ty #[v,sv]).run P w=.ok v' w'∧PushedN base e size w w' v v' (n+m) (xs++news):=by
 rcases hnews with ⟨a,c,rfl,hc⟩|⟨c,rfl,rfl,rfl⟩
 ·exact run_appendN ht hi hz hsize hby hzs hsz hown hl hc h1 h63 hbytes hbase
 ·exact⟨v,w,run_append_nil ht hi hown c,by simpa using hown,World.grownBy.refl w _,λk h=>.inl h⟩
theorem wp_appendS{P:Program}{w:World}{o:Oper}{act:Act}{K:Act→World→Prop}{Q:Exit→Act→World→Prop}
 (s x:Operand) {t e:TypeId} (hop:o.op=Op.call {callee:=Callee.builtin Builtin.append,args:=#[s,x],argTypes:=#[t,t]})
 {base:Nat} {i:TypeInfo} {z:Value} {size bytes:Nat} (ht:P.underlying t=some (.slice e)) (hi:P.info? e=some i) (hz:i.zero=some z)
 (hsize:i.size=size) (hby:i.bytes=bytes) (hzs:z.cells.size=size) (hsz:0<size) {v:Value} {n:Nat} {xs:List Value} (hs:act.eval s=v) (hown:w.ownsRow base e size v n xs)
 {sv:Value} {m:Nat} {news:List Value} (hx:act.eval x=sv) (hl:news.length=m*size) (hnews:SrcAt w sv m news) (h1:∀u∈news,u.oneCell'=true) (h63:n+m≤maxLen) (hbytes:(n+m)*bytes≤140737488355328) (hbase:base≤w.heap.size)
 (hK:∀v' w',PushedN base e size w w' v v' (n+m) (xs++news)→K (act.put o.dst v') w'):Oper.wp P o act w K Q:=by
 obtain⟨v',w',hrun,r⟩:=run_appendS (P:=P) (ty:=o.type) ht hi hz hsize hby hzs hsz hown hl hnews h1 h63 hbytes hbase
 unfold Oper.wp
 simp[execOp,hop,resolve,invoke,builtin,hs,hx,hrun,Result.andThen]
 exact hK _ _ r
theorem wpList_appendS{P:Program}{w:World}{ops:Array Oper}{rest:List Oper}{o:Oper}{act:Act}{Q:Exit→Act→World→Prop}(hg:o.guard=none)
 (s x:Operand) {t e:TypeId} (hop:o.op=Op.call {callee:=Callee.builtin Builtin.append,args:=#[s,x],argTypes:=#[t,t]})
 {base:Nat} {i:TypeInfo} {z:Value} {size bytes:Nat} (ht:P.underlying t=some (.slice e)) (hi:P.info? e=some i) (hz:i.zero=some z)
 (hsize:i.size=size) (hby:i.bytes=bytes) (hzs:z.cells.size=size) (hsz:0<size) {v:Value} {n:Nat} {xs:List Value} (hs:act.eval s=v) (hown:w.ownsRow base e size v n xs)
 {sv:Value} {m:Nat} {news:List Value} (hx:act.eval x=sv) (hl:news.length=m*size) (hnews:SrcAt w sv m news) (h1:∀u∈news,u.oneCell'=true) (h63:n+m≤maxLen) (hbytes:(n+m)*bytes≤140737488355328) (hbase:base≤w.heap.size)
 (hK:∀v' w',PushedN base e size w w' v v' (n+m) (xs++news)→wpList P ops Q rest (act.put o.dst v') w'):wpList P ops Q (o::rest) act w:=
 wpList_plain hg λK hK'=>wp_appendS s x hop ht hi hz hsize hby hzs hsz hs hown hx hl hnews h1 h63 hbytes hbase (λv' w' h=>hK' _ _ (hK v' w' h))
theorem add_addr(b o j:Nat):(⟨b,o,none⟩:Addr).add j=⟨b,o+j,none⟩:=by cases j<;>simp[Addr.add]
theorem src_new(W:World)(cs:List Value)(t:TypeId)(n c:Nat):SrcAt (W.alloc (.cells cs.toArray t)) (.slice (some ⟨W.heap.size,0,none⟩) n c) n cs:=
 .inl ⟨_,c,rfl,λj u hj=>by rw[add_addr,Nat.zero_add];exact(BoxAt.new W cs t).2 j u hj⟩
theorem src_new'{W:World}{cs:List Value}{t:TypeId}{n c b:Nat}(h:b=W.heap.size):SrcAt (W.alloc (.cells cs.toArray t)) (.slice (some ⟨b,0,none⟩) n c) n cs:=by rw[h];exact src_new ..
theorem ownsRow_below'{w w':World}{base:Nat}{e:TypeId}{size:Nat}{v:Value}{n:Nat}{xs:List Value}(h:w.ownsRow base e size v n xs)(hb:Below w.heap.size w w'):w'.ownsRow base e size v n xs:=
 h.kept (row:=none) ⟨hb.os,hb.tape,hb.output,hb.size,λk hk _=>hb.block k hk⟩ (by cases v.ownBlock<;>simp)
end Go.Proofs.YtgmapdcdmomioaaGreatDoor.Hw
namespace Go.Proofs.YtgmapdcdmomioaaGreatDoor.Pa
open Go Go.Proofs.YtgmapdcdmomioaaGreatDoor.Am Go.Proofs.YtgmapdcdmomioaaGreatDoor.Hw Go.RowKit
def rowP(x:Dat):List Pt:=(elsOf x).map absPt
def ptCells(k:Int)(s:Str)(n:Int)(v:Value)(p:Int):List Value:=[.int .i64 k,.string ⟨s.toArray⟩,.int .i64 n,v,.int .i64 p]
def Apart(F G:List Nat):Prop:=∀x∈F,x ∉ G
mutual
def PtM(w:World):Pt→List Nat→Value→Prop
 |.mk _ _ _ a _,F,v=>(a=[]∧F=[]∧v=.slice none 0 0)∨∃b c F' xs,v=.slice (some ⟨b,0,none⟩) a.length c∧F=b::F'∧b ∉ F'∧w.ownsRow 0 127 5 v a.length xs∧PsM w a F' xs
def PsM(w:World):List Pt→List Nat→List Value→Prop
 |[],F,xs=>F=[]∧xs=[]
 |.mk k s n a p::l,F,xs=>∃v F1 F2 xs',F=F1++F2∧Apart F1 F2∧xs=ptCells k s n v p++xs'∧PtM w (.mk k s n a p) F1 v∧PsM w l F2 xs'
end
theorem ownsRow_heap{w w':World}{b c n:Nat}{e:TypeId}{size:Nat}{xs:List Value}(h:w.ownsRow 0 e size (.slice (some ⟨b,0,none⟩) n c) n xs)(hk:w'.heap[b]?=w.heap[b]?):w'.ownsRow 0 e size (.slice (some ⟨b,0,none⟩) n c) n xs:=by
 obtain⟨h1,h2⟩:=h
 refine⟨h1,?_⟩
 rcases h2 with h2|⟨g,cap,cur,e,h3,h4,r⟩
 ·exact .inl h2
 ·cases e
  exact .inr ⟨_,_,cur,rfl,h3,hk.trans h4,r⟩
mutual
theorem PtM.kept{w w':World}:∀(p:Pt) (F:List Nat) (v:Value),(∀b∈F,w'.heap[b]?=w.heap[b]?)→PtM w p F v→PtM w' p F v
 |.mk k s n a q,F,v,hk,h=>by
  rw[PtM] at h⊢
  rcases h with h|⟨b,c,F',xs,rfl,rfl,hb,ho,hs⟩
  ·exact .inl h
  ·exact .inr ⟨b,c,F',xs,rfl,rfl,hb,ownsRow_heap ho (hk b (by simp)),PsM.kept a F' xs (λx hx=>hk x (by simp[hx])) hs⟩
theorem PsM.kept{w w':World}:∀(l:List Pt) (F:List Nat) (xs:List Value),(∀b∈F,w'.heap[b]?=w.heap[b]?)→PsM w l F xs→PsM w' l F xs
 |[],F,xs,hk,h=>by rw[PsM] at h⊢;exact h
 |.mk k s n a p::l,F,xs,hk,h=>by
  rw[PsM] at h⊢
  obtain⟨v,F1,F2,xs',rfl,hA,rfl,h1,h2⟩:=h
  exact⟨v,F1,F2,xs',rfl,hA,rfl,PtM.kept (.mk k s n a p) F1 v (λb hb=>hk b (by simp[hb])) h1,PsM.kept l F2 xs' (λb hb=>hk b (by simp[hb])) h2⟩
end
mutual
theorem PtM.lt{w:World}:∀(p:Pt) (F:List Nat) (v:Value),PtM w p F v→∀b∈F,b<w.heap.size
 |.mk k s n a q,F,v,h,b,hb=>by
  rw[PtM] at h
  rcases h with ⟨_,rfl,_⟩|⟨b',c,F',xs,rfl,rfl,_,ho,hs⟩
  ·cases hb
  ·rcases List.mem_cons.1 hb with rfl|hb
   ·exact(ho.lt _ rfl).2
   ·exact PsM.lt a F' xs hs b hb
theorem PsM.lt{w:World}:∀(l:List Pt) (F:List Nat) (xs:List Value),PsM w l F xs→∀b∈F,b<w.heap.size
 |[],F,xs,h,b,hb=>by rw[PsM] at h;rw[h.1] at hb;cases hb
 |.mk k s n a p::l,F,xs,h,b,hb=>by
  rw[PsM] at h
  obtain⟨v,F1,F2,xs',rfl,hA,rfl,h1,h2⟩:=h
  rcases List.mem_append.1 hb with hb|hb
  ·exact PtM.lt (.mk k s n a p) F1 v h1 b hb
  ·exact PsM.lt l F2 xs' h2 b hb
end
theorem PsM.len{w:World}:∀(l:List Pt) (F:List Nat) (xs:List Value),PsM w l F xs→xs.length=l.length*5
 |[],F,xs,h=>by rw[PsM] at h;rw[h.2];rfl
 |.mk k s n a p::l,F,xs,h=>by
  rw[PsM] at h
  obtain⟨v,F1,F2,xs',rfl,hA,rfl,h1,h2⟩:=h
  have:=PsM.len l F2 xs' h2
  simp only[List.length_append,List.length_cons,ptCells,List.length_nil]
  omega
theorem PsM.app{w:World}:∀{l:List Pt} {F:List Nat} {xs:List Value} {l':List Pt} {F':List Nat} {xs':List Value},PsM w l F xs→PsM w l' F' xs'→Apart F F'→PsM w (l++l') (F++F') (xs++xs')
 |[],F,xs,l',F',xs',h,h',_=>by rw[PsM] at h;obtain⟨rfl,rfl⟩:=h;exact h'
 |.mk k s n a p::l,F,xs,l',F',xs',h,h',hA=>by
  rw[PsM] at h
  obtain⟨v,F1,F2,ys,rfl,hB,rfl,h1,h2⟩:=h
  rw[List.cons_append,PsM]
  exact⟨v,F1,F2++F',ys++xs',by rw[List.append_assoc],λx hx hn=>by
   rcases List.mem_append.1 hn with hn|hn
   ·exact hB x hx hn
   ·exact hA x (by simp[hx]) hn,by rw[List.append_assoc],h1,PsM.app h2 h' λx hx=>hA x (by simp[hx])⟩
theorem PsM.split{w:World}:∀{l:List Pt} {F:List Nat} {xs:List Value} {l':List Pt},PsM w (l++l') F xs→∃F1 F2 xs1 xs2,F=F1++F2∧Apart F1 F2∧xs=xs1++xs2∧PsM w l F1 xs1∧PsM w l' F2 xs2
 |[],F,xs,l',h=>⟨[],F,[],xs,rfl,(λx hx=>by cases hx),rfl,(by rw[PsM];exact⟨rfl,rfl⟩),h⟩
 |.mk k s n a p::l,F,xs,l',h=>by
  rw[List.cons_append,PsM] at h
  obtain⟨v,F1,F2,ys,rfl,hB,rfl,h1,h2⟩:=h
  obtain⟨G1,G2,y1,y2,rfl,hA,rfl,h3,h4⟩:=PsM.split h2
  refine⟨F1++G1,G2,ptCells k s n v p++y1,y2,by rw[List.append_assoc],λx hx hn=>?_,by rw[List.append_assoc],?_,h4⟩
  ·rcases List.mem_append.1 hx with hx|hx
   ·exact hB x hx (by simp[hn])
   ·exact hA x hx hn
  ·rw[PsM]
   exact⟨v,F1,G1,y1,rfl,λx hx hn=>hB x hx (by simp[hn]),rfl,h1,h3⟩
theorem PsM.one{w:World}{k n p:Int}{s:Str}{a:List Pt}{F:List Nat}{v:Value}(h:PtM w (.mk k s n a p) F v):PsM w [.mk k s n a p] F (ptCells k s n v p):=by
 rw[PsM]
 exact⟨v,F,[],[],(by simp),(λx _ hn=>by cases hn),(by simp),h,(by rw[PsM];exact⟨rfl,rfl⟩)⟩
theorem PtM.args{w:World}{k n p k' n' p':Int}{s s':Str}{a:List Pt}{F:List Nat}{v:Value}(h:PtM w (.mk k s n a p) F v):PtM w (.mk k' s' n' a p') F v:=by
 rw[PtM] at h⊢;exact h
end Go.Proofs.YtgmapdcdmomioaaGreatDoor.Pa
namespace Go.Proofs.YtgmapdcdmomioaaGreatDoor.Pa
open Go Go.Proofs.YtgmapdcdmomioaaGreatDoor.Am Go.Proofs.YtgmapdcdmomioaaGreatDoor.Hw Go.RowKit
theorem rep_cell{E:Em}{w:World}{d:Dat}{v:Value}(h:Rep E w d v):(∀k n,d=.int k n→v=.int k n)∧(∀s,d=.str s→v=.string ⟨s.toArray⟩):=by
 refine⟨λk n e=>?_,λs e=>?_⟩<;>(subst e;cases h;rfl)
theorem pats_open{n:Nat}{w0:World}{d:Dat}{v:Value}(hd:HasTy TT 25 d)(h:Rep (startE n) w0 d v):∃ab c,v=.slice ab (elsOf d).length c∧(elsOf d).length≤2^40∧∀i (hi:i<(elsOf d).length),∃b o k s m a p va,ab=some ⟨b,o,none⟩∧b<n∧
 (elsOf d)[i]=.agg [.int .i64 k,.str s,.int .i64 m,a,.int .i64 p]∧HasTy TT 25 a∧Rep (startE n) w0 a va∧∀(j:Nat) u,(ptCells k s m va p)[j]?=some u→w0.cell? ⟨b,o+i*5+j,none⟩=some u:=by
 have key:∀m xs,Rep (startE n) w0 (.sl m xs) v→TT.size 127=some m→(∀y∈xs,HasTy TT 127 y)→∃ab c,v=.slice ab xs.length c∧∀i (hi:i<xs.length),∃b o k s m a p va,ab=some ⟨b,o,none⟩∧b<n∧
  xs[i]=.agg [.int .i64 k,.str s,.int .i64 m,a,.int .i64 p]∧HasTy TT 25 a∧Rep (startE n) w0 a va∧∀(j:Nat) u,(ptCells k s m va p)[j]?=some u→w0.cell? ⟨b,o+i*5+j,none⟩=some u:=λm xs h hm hx=>by
  rw[szPat] at hm
  cases hm
  cases h with
  |emp _ a c=>exact⟨a,c,rfl,λi hi=>by simp at hi⟩
  |sl _ _ b o c vs hc hl h1 h2 h3 h4=>
   refine⟨some ⟨b,o,none⟩,c,rfl,λi hi=>?_⟩
   obtain⟨k,s,m,a,p,e,hs,ha⟩:=pat_ty (hx _ (List.getElem_mem hi))
   have hxi:xs[i]?=some xs[i]:=List.getElem?_eq_getElem hi
   have g:∀(j:Nat) d,([.int .i64 k,.str s,.int .i64 m,a,.int .i64 p]:List Dat)[j]?=some d→(startE n).imm b (o+i*5+j)∧w0.cell? ⟨b,o+i*5+j,none⟩=some (vs (i*5+j))∧Rep (startE n) w0 d (vs (i*5+j)):=λj d hd=>by
    have hd':xs[i].cells[j]?=some d:=by rw[e];exact hd
    exact⟨h2 i _ hxi j d hd',h3 i _ hxi j d hd',h4 i _ hxi j d hd'⟩
   refine⟨b,o,k,s,m,a,p,vs (i*5+3),rfl,(g 0 _ rfl).1,e,ha,(g 3 _ rfl).2.2,λj u hu=>?_⟩
   match j,hu with
   |0,hu=>cases hu;exact(g 0 _ rfl).2.1.trans (by rw[(rep_cell (g 0 _ rfl).2.2).1 _ _ rfl])
   |1,hu=>cases hu;exact(g 1 _ rfl).2.1.trans (by rw[(rep_cell (g 1 _ rfl).2.2).2 _ rfl])
   |2,hu=>cases hu;exact(g 2 _ rfl).2.1.trans (by rw[(rep_cell (g 2 _ rfl).2.2).1 _ _ rfl])
   |3,hu=>cases hu;exact(g 3 _ rfl).2.1
   |4,hu=>cases hu;exact(g 4 _ rfl).2.1.trans (by rw[(rep_cell (g 4 _ rfl).2.2).1 _ _ rfl])
   |j+5,hu=>cases hu
 rcases hd.sl_inv undPats with rfl|⟨m,xs,e,hm,hl,hx⟩
 ·cases h with
  |nil a=>exact⟨a,0,rfl,by show 0≤_;omega,λi hi=>by exact absurd hi (Nat.not_lt_zero _)⟩
 ·have hl':=hl.1
  rcases e with rfl|⟨t,rfl⟩
  ·obtain⟨ab,c,h1,h2⟩:=key m xs h hm hx
   exact⟨ab,c,h1,hl',h2⟩
  ·cases h with
   |gsl _ _ _ _ _ h _ _ _=>
    obtain⟨ab,c,h1,h2⟩:=key m xs h hm hx
    exact⟨ab,c,h1,hl',h2⟩
theorem infoPt:(Tryz.prog.info? 127).map (λi=>(i.zero,i.size,i.bytes))=some (some (.agg #[.int .i64 0,.string ⟨#[]⟩,.int .i64 0,.slice none 0 0,.int .i64 0]),5,64):=by kernel_rfl
end Go.Proofs.YtgmapdcdmomioaaGreatDoor.Pa
namespace Go.Proofs.YtgmapdcdmomioaaGreatDoor.Pa
open Go Go.Proofs.YtgmapdcdmomioaaGreatDoor.Am Go.Proofs.YtgmapdcdmomioaaGreatDoor.Hw Go.RowKit
theorem ptM_slice{w:World}{k n p:Int}{s:Str}{a:List Pt}{F:List Nat}{v:Value}(h:PtM w (.mk k s n a p) F v):∃b n c,v=.slice b n c:=by
 rw[PtM] at h
 rcases h with ⟨_,_,rfl⟩|⟨b,c,_,_,rfl,_⟩<;>exact⟨_,_,_,rfl⟩
def CopyPatsAt(w0:World)(d:Dat)(v:Value):Prop:=∀w:World,Below w0.heap.size w0 w→Calls Tryz.prog 93 #[v] w λe w'=>∃v' F,e=.returned v'∧Below w.heap.size w w'∧PtM w' (.mk 0 [] 0 (rowP d) 0) F v'∧∀b∈F,w.heap.size≤b
theorem copyPats_step(w0:World)(d:Dat)(v:Value)(hd:HasTy TT 25 d)(h:Rep (startE w0.heap.size) w0 d v)(ih:∀a va,SizeOf.sizeOf a<SizeOf.sizeOf d→HasTy TT 25 a→Rep (startE w0.heap.size) w0 a va→CopyPatsAt w0 a va):CopyPatsAt w0 d v:=by
 intro w hw
 obtain⟨ab,c,rfl,hl,hel⟩:=pats_open hd h
 obtain⟨i1,hi1,hz1,hs1,hy1⟩:=info_parts infoPt
 have HE:=Lib.hid hel
 have HI:=Lib.hid ih
 have HW:=Lib.hid hw
 obtain⟨L,hL⟩:∃L,L=(elsOf d).length:=⟨_,rfl⟩
 rw[←hL]
 rw[←hL] at hl
 have HL:=Lib.hid hL
 clear hel ih hw hL
 go_enter Tryz.func93,Tryz.ntmps93
 go_wp2_with fail
 go_loopg [3,4] L (λg x3 x4 wr=>∃(j:Nat) (u:Value) (ys:List Value) (F:List Nat),j+g=L∧x3=u∧x4=.int .i64 j∧Hid (Below w.heap.size w wr)∧Hid (wr.ownsRow w.heap.size 127 5 u j ys)∧Hid (PsM wr ((rowP d).take j) F ys)∧Hid (∀b∈F,w.heap.size≤b∧u.ownBlock≠some b))
 case atStart=>exact⟨0,_,[],[],by omega,rfl,rfl,Lib.hid (Below.refl _ _),Lib.hid (World.ownsRow_nil _ _ _ _),Lib.hid (by rw[List.take_zero,PsM];exact⟨rfl,rfl⟩),Lib.hid (λb hb=>by cases hb)⟩
 case round=>
  obtain⟨j,u,ys,F,hj,rfl,rfl,hB,hO,hP,hF⟩:=hrel
  obtain⟨ub,uc,rfl⟩:=ownsRow_slice hO.out
  by_cases hlt:j<L
  ·obtain⟨b,o,k,s,m,a,p,va,rfl,hbn,he,ta,ra,hc⟩:=HE.out j (by have:=HL.out;omega)
   obtain⟨sb,sc,rfl,hsl,_⟩:=pats_open ta ra
   have hw':Below w0.heap.size w0 wr:=HW.out.trans (hB.out.mono HW.out.size)
   have hcell:∀(q:Nat) x,(ptCells k s m (.slice sb (elsOf a).length sc) p)[q]?=some x→wr.cell? ⟨b,o+j*5+q,none⟩=some x:=λq x hx=>(hw'.cell (p:=⟨b,o+j*5+q,none⟩) hbn).trans (hc q x hx)
   have c0:=hcell 0 _ rfl
   have c1:=hcell 1 _ rfl
   have c2:=hcell 2 _ rfl
   have c3:=hcell 3 _ rfl
   have c4:=hcell 4 _ rfl
   simp only[Nat.add_zero] at c0
   clear hcell hc
   obtain⟨SL,hSL⟩:∃n,n=(elsOf a).length:=⟨_,rfl⟩
   rw[←hSL] at c3 hsl
   have hsz:=sizeOf_el (y:=d) (i:=j) (by have:=HL.out;omega)
   have hca:=sizeOf_cell (cs:=[.int .i64 k,.str s,.int .i64 m,a,.int .i64 p]) (c:=a) (by simp)
   rw[he] at hsz
   have hCP:=Lib.hid (HI.out a _ (by omega) ta ra)
   have HHw:=Lib.hid hw'
   clear hsz hca
   go_wp2_with (first
    |(go_at_call 93;refine(hCP.out _ (HHw.out.trans (Below.mono (below_box _ _) HHw.out.size))).mono ?_;rintro e w5 ⟨v5,F5,rfl,hb5,hp5,hf5⟩
      obtain⟨vb5,vn5,vc5,rfl⟩:=ptM_slice hp5
      have hbx:=(BoxAt.new wr [Value.int .i64 k,.string ⟨s.toArray⟩,.int .i64 m,.slice sb (elsOf a).length sc,.int .i64 p] 127).later hb5
      have d0:=hbx.2 0 _ rfl
      have d1:=hbx.2 1 _ rfl
      have d2:=hbx.2 2 _ rfl
      have d3:=hbx.2 3 _ rfl
      have d4:=hbx.2 4 _ rfl
      have dz:=(new_cells (W:=wr) (cs:=[Value.int .i64 k,.string ⟨s.toArray⟩,.int .i64 m,.slice sb (elsOf a).length sc,.int .i64 p]) (t:=127) hb5 rfl).2 3
      have HP5:=Lib.hid hp5
      have HF5:=Lib.hid hf5
      have HB5:=Lib.hid hb5
      have HB6:=Lib.hid (show Below wr.heap.size wr (w5.setCell ⟨wr.heap.size,3,none⟩ (.slice vb5 vn5 vc5)) from(bgo (below_box _ _) hb5).setCell (p:=⟨wr.heap.size,3,none⟩) (Nat.le_refl _) _)
      clear hp5 hf5 hb5 hbx)
    |(at_builtin;refine wpList_appendS rfl (.tmp 20) (.tmp 22) rfl Tryz.underlying25 hi1 hz1 hs1 hy1 rfl (by decide) (v:=.slice ub j uc) rfl ((ownsRow_below' hO.out HB6.out).alloc _) (m:=1) (news:=[.int .i64 k,.string ⟨s.toArray⟩,.int .i64 m,.slice vb5 vn5 vc5,.int .i64 p]) rfl rfl (src_new' (by simp)) (by simp[Value.oneCell']) (by unfold maxLen;omega) (by omega) (by have h1:=hB.out.size;have h2:=HB6.out.size;simp at h2⊢;omega) ?_;intro v' w6 hp;obtain⟨va6,vc6,rfl⟩:=ownsRow_slice hp.own))
   have hPlt:=hP.out.lt
   have hown:=λg (hg:(Value.slice ub j uc).ownBlock=some g)=>hO.out.lt g hg
   have h5:=HB5.out.size
   have hs6:((w5.setCell ⟨wr.heap.size,3,none⟩ (.slice vb5 vn5 vc5)).alloc (.cells [Value.int .i64 k,.string ⟨s.toArray⟩,.int .i64 m,.slice vb5 vn5 vc5,.int .i64 p].toArray 127)).heap.size=w5.heap.size+1:=by simp
   have hwr:wr.heap.size+1≤w5.heap.size:=by simpa using h5
   have hF5:∀x∈F5,wr.heap.size+1≤x:=λx hx=>by simpa using HF5.out x hx
   have hP5lt:=HP5.out.lt
   have HB7:Below wr.heap.size wr ((w5.setCell ⟨wr.heap.size,3,none⟩ (.slice vb5 vn5 vc5)).alloc (.cells [Value.int .i64 k,.string ⟨s.toArray⟩,.int .i64 m,.slice vb5 vn5 vc5,.int .i64 p].toArray 127)):=HB6.out.alloc HB6.out.size _
   have HB8:=Lib.hid ((hB.out.trans (HB7.mono hB.out.size)).grown hp.gr (by rw[hs6];have:=hB.out.size;omega) (λg hg=>(hown g hg).1))
   have kF:∀x∈F,w6.heap[x]?=wr.heap[x]?:=λx hx=>by
    have h1:=hPlt x hx
    exact(hp.gr.block x (by rw[hs6];omega) (λe=>(hF.out x hx).2 e.symm)).trans (HB7.block x h1)
   have kF5:∀x∈F5,w6.heap[x]?=w5.heap[x]?:=λx hx=>by
    have h1:=hP5lt x hx
    have h2:=hF5 x hx
    refine(hp.gr.block x (by rw[hs6];omega) (λe=>by have:=(hown x e.symm).2;omega)).trans ((Below.heap_alloc _ _ x (by simpa using h1)).trans (Below.heap_setCell w5 _ _ x (by show x≠wr.heap.size;omega)))
   have hap:absPt ((elsOf d)[j]'(by have:=HL.out;omega))=.mk k s m (absPtA a) p:=by rw[he];rfl
   have HP8:Hid (PsM w6 ((rowP d).take (j+1)) (F++F5) (ys++[.int .i64 k,.string ⟨s.toArray⟩,.int .i64 m,.slice vb5 vn5 vc5,.int .i64 p])):=Lib.hid (by
    have hj:j<(rowP d).length:=by rw[rowP,List.length_map];have:=HL.out;omega
    have e1:(rowP d).take (j+1)=(rowP d).take j++[.mk k s m (absPtA a) p]:=by
     rw[List.take_succ_eq_append_getElem hj]
     congr 2
     exact(by simp[rowP]:(rowP d)[j]=absPt ((elsOf d)[j]'(by have:=HL.out;omega))).trans hap
    rw[e1]
    refine PsM.app (PsM.kept _ _ _ kF hP.out) (PsM.one ?_) (λx hx hn=>by have:=hPlt x hx;have:=hF5 x hn;omega)
    have h9:=PtM.kept _ _ _ kF5 HP5.out
    rw[rowP,←absPtA_map] at h9
    exact h9.args)
   have HF8:=Lib.hid (λx (hx:x∈F++F5)=>(show w.heap.size≤x∧(Value.slice va6 (j+1) vc6).ownBlock≠some x from by
    have hw2:=hB.out.size
    rcases List.mem_append.1 hx with hx|hx
    ·refine⟨(hF.out x hx).1,λe=>?_⟩
     rcases hp.new x e with h|h
     ·exact(hF.out x hx).2 h
     ·have:=hPlt x hx
      rw[hs6] at h
      omega
    ·have h2:=hF5 x hx
     refine⟨by omega,λe=>?_⟩
     rcases hp.new x e with h|h
     ·have:=(hown x h).2;omega
     ·have:=hP5lt x hx
      rw[hs6] at h
      omega))
   have HO8:=Lib.hid hp.own
   clear kF kF5 hPlt hP5lt hF5 hown
   go_roundg (L-(j+1))
   case measure=>omega
   case rel=>exact⟨j+1,_,_,_,by omega,rfl,by go_num,HB8,HO8,HP8,HF8⟩
  ·have hjl:j=L:=by omega
   subst hjl
   go_wp2_with fail
   have hr:rowP d=(rowP d).take j:=by rw[List.take_of_length_le (by rw[rowP,List.length_map];have:=HL.out;omega)]
   have hra:(rowP d).length=j:=by rw[rowP,List.length_map];exact HL.out.symm
   have hO':=ownsRow_base hO.out (Nat.zero_le _)
   have hP':=hP.out
   rw[←hr] at hP'
   refine bodyPost_ret (v:=.slice ub j uc) (by simp[results,Tryz.results93,go_sem]) rfl ?_
   rcases hO.out.2 with ⟨hv,hj0⟩|⟨g,cap,cur,hv,hg,_⟩
   ·refine⟨_,[],rfl,hB.out,?_,λb hb=>by cases hb⟩
    rw[PtM]
    exact .inl ⟨List.eq_nil_of_length_eq_zero (by omega),rfl,hv⟩
   ·cases hv
    refine⟨_,g::F,rfl,hB.out,?_,λb hb=>?_⟩
    ·rw[PtM,hra]
     exact .inr ⟨g,_,F,ys,rfl,rfl,λhm=>(hF.out g hm).2 rfl,hO',hP'⟩
    ·rcases List.mem_cons.1 hb with rfl|hb
     ·exact hg
     ·exact(hF.out b hb).1
theorem copyPats_hw(w0:World):∀(k:Nat) (d:Dat) (v:Value),SizeOf.sizeOf d<k→HasTy TT 25 d→Rep (startE w0.heap.size) w0 d v→CopyPatsAt w0 d v
 |0,d,v,h,_,_=>by omega
 |k+1,d,v,h,hd,hr=>copyPats_step w0 d v hd hr λa va ha hta hra=>copyPats_hw w0 k a va (by omega) hta hra
end Go.Proofs.YtgmapdcdmomioaaGreatDoor.Pa
