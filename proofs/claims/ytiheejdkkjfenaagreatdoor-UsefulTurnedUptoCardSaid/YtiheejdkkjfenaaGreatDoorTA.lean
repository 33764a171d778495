/- bits.Mul, as the kit's shelf lays it. New tokens in a memory that has grown; slices.Clone, slices.Grow and an atomic sum in the plain machine. slices.Clone of rows, in the plain machine. slices.Clone of rows and slices.Grow of patterns, as answers of the plain machine. slices.Grow of patterns, and an atomic sum, as answers of the plain machine. -/
import Derived.Shelf.Bits.Mul64
import Derived.Test.YtiheejdkkjfenaaGreatDoorProg
import Derived.Laws.LoneSync
import Derived.WalkKit
import Derived.Deep.LoopGhost
import Derived.Lib.Walk
import Derived.Lib.SliceRun
import Derived.Lib.AppendZerosOnto
import Derived.Test.YtiheejdkkjfenaaGreatDoorRB
set_option linter.all false
set_option autoImplicit false
namespace Go.Proofs
open Go.Shelf
def Tryz.laysMul_ren:Go.Shelf.Ren:=⟨λ|212=>121|263=>186|264=>187|n=>n,λ|46=>173|51=>214|53=>217|146=>215|148=>218|n=>n,λ|n=>n⟩
theorem Tryz.laysMul:Go.Proofs.Lays.n212 Tryz.prog Tryz.laysMul_ren:={
 mixed:=by kernel_rfl
 f212:=Tryz.func121.trans (congrArg some (by kernel_rfl))
 f263:=Tryz.func186.trans (congrArg some (by kernel_rfl))
 f264:=Tryz.func187.trans (congrArg some (by kernel_rfl))
 t46:=Tryz.underlying173
 a46:=Tryz.isAgg173
 z46:=Tryz.sizeOf173
 v46:=Tryz.zeroValue173
 t51:=Tryz.underlying214
 a51:=Tryz.isAgg214
 z51:=Tryz.sizeOf214
 v51:=Tryz.zeroValue214
 t53:=Tryz.underlying217
 a53:=Tryz.isAgg217
 z53:=Tryz.sizeOf217
 v53:=Tryz.zeroValue217
 t146:=Tryz.underlying215
 a146:=Tryz.isAgg215
 z146:=Tryz.sizeOf215
 v146:=Tryz.zeroValue215
 t148:=Tryz.underlying218
 a148:=Tryz.isAgg218
 z148:=Tryz.sizeOf218
 v148:=Tryz.zeroValue218}
theorem Tryz.bits_Mul(x y:Nat)(hx:x<18446744073709551616)(hy:y<18446744073709551616)(w:World):
 Calls Tryz.prog 121 #[.int .u64 x,.int .u64 y] w λe w'=>e=.returned (.tuple #[.int .u64 ((x*y/18446744073709551616:Nat):Int),.int .u64 ((x*y%18446744073709551616:Nat):Int)])∧w'=w:=Any.bits_Mul Tryz.laysMul x y hx hy w
end Go.Proofs
namespace Go.Proofs.YtiheejdkkjfenaaGreatDoor.Pa
open Go Go.RowKit Go.Proofs.YtiheejdkkjfenaaGreatDoor.Am
theorem gtok_at{E:Em}{w w':World}{g:Glob}(hg:GRel E w g)(ho:GlobOnly E)(hb:Below w.heap.size w w'){b m n cap:Nat}{cur:Array Value}{t:TypeId}(h1:w.heap.size≤b)
 (hc:w'.heap[b]?=some (.cells cur t (0,0))) (hroom:n≤cap) (hcur:cur.size=cap*m) (hm:0<m):
 Up E w g.toks (E.newGtok g.toks.length b (n*m) (m,n) (.slice (some ⟨b,0,none⟩) n cap)) w' (g.toks++[(m,n)])∧
 GRel (E.newGtok g.toks.length b (n*m) (m,n) (.slice (some ⟨b,0,none⟩) n cap)) w' ⟨g.boxes,g.toks++[(m,n)]⟩∧
 GlobOnly (E.newGtok g.toks.length b (n*m) (m,n) (.slice (some ⟨b,0,none⟩) n cap)):=by
 generalize hv:Value.slice (some ⟨b,0,none⟩) n cap=v
 have hne:∀b' ow,E.owner b'=some ow→b'≠b:=λb' ow h e=>by have:=hg.own_lt b' ow h;omega
 have hblt:b<w'.heap.size:=(Array.getElem?_eq_some_iff.1 hc).1
 have hu:Up E w g.toks (E.newGtok g.toks.length b (n*m) (m,n) v) w' (g.toks++[(m,n)]):=by
  refine⟨hb.os,hb.tape,hb.output,hb.size,Nat.le_refl _,λi hi=>rfl,λ_ _ hi=>.inl hi,(up_below hg hb).cell,
   λb' h hown=>⟨hb.block b' h,by have:b'≠b:=by omega
                                 simp[Em.newGtok,this,hown],λi hi=>hi.resolve_right (λe=>by omega)⟩,λi m' n' hgi=>?_,λi m' n' hgi=>?_,λ_ _ h=>(Em.newGtok_tok h).imp id (Nat.le_trans h1)⟩
  ·have hlt:i<g.toks.length:=(List.getElem?_eq_some_iff.1 hgi).1
   exact⟨n',by rw[List.getElem?_append_left hlt];exact hgi,Nat.le_refl _,λ_=>upd_ne _ _ (by omega)⟩
  ·have hgi':=hgi
   rw[hg.gk] at hgi'
   have hlt:i<g.toks.length:=(List.getElem?_eq_some_iff.1 hgi').1
   exact⟨n',(upd_ne _ _ (by omega)).trans hgi,Nat.le_refl _,λ_=>upd_ne _ _ (by omega)⟩
 refine⟨hu,?_,?_⟩
 ·constructor
  case own_lt=>
   intro b' ow h
   simp only[Em.newGtok] at h
   split at h
   ·omega
   ·split at h
    ·cases h
    ·exact Nat.lt_of_lt_of_le (hg.own_lt b' ow h) hb.size
  case own_g=>
   intro b' i h
   simp only[Em.newGtok] at h
   simp only[List.length_append,List.length_cons,List.length_nil]
   split at h
   ·cases h;omega
   ·split at h
    ·cases h
    ·have:=hg.own_g b' i h;omega
  case gk=>
   intro i
   show upd E.gk g.toks.length (some (m,n)) i=(g.toks++[(m,n)])[i]?
   by_cases hik:i=g.toks.length
   ·subst hik;rw[upd_same];simp
   ·rw[upd_ne _ _ hik,hg.gk,List.getElem?_append]
    split
    ·rfl
    ·rw[List.getElem?_eq_none (by omega),List.getElem?_eq_none (by simp;omega)]
  case imm_lt=>
   intro b' o h
   rcases h with h|⟨rfl,_⟩
   ·exact Nat.lt_of_lt_of_le (hg.imm_lt b' o h) hb.size
   ·exact hblt
  case ng=>exact hg.ng
  case boxes=>
   intro i bx h
   obtain⟨q1,q2,q3⟩:=hg.boxes i bx h
   have hnb:=hne _ _ q1
   refine⟨?_,λo hi=>hi.elim (q2 o) λe=>hnb e.1,q3.up hu (hb.block _ (hg.own_lt _ _ q1))⟩
   show(Em.newGtok E g.toks.length b (n*m) (m,n) v).owner (E.gb i)=_
   simp[Em.newGtok,hnb,q1]
  case toks=>
   intro i m' n' h
   rw[List.getElem?_append] at h
   split at h
   ·rename_i hlt
    have e:(E.newGtok g.toks.length b (n*m) (m,n) v).gt i=E.gt i:=upd_ne _ _ (by omega)
    rw[e]
    refine(hg.toks i m' n' h).up λb' hw=>?_
    have hnb:=hne _ _ hw
    refine⟨hb.block b' (hg.own_lt b' _ hw),?_,λo=>⟨λh=>h.elim id λe=>absurd e.1 hnb,.inl⟩⟩
    have:¬i=g.toks.length:=by omega
    simp[Em.newGtok,hnb,hw,this]
   ·rename_i hge
    have hi:i=g.toks.length:=by
     have:=(List.getElem?_eq_some_iff.1 h).1
     simp at this
     omega
    subst hi
    simp at h
    obtain⟨rfl,rfl⟩:=h
    have e:(E.newGtok g.toks.length b (n*m) (m,n) v).gt g.toks.length=v:=upd_same _ _ _
    rw[e,←hv]
    refine⟨b,cap,cur,t,rfl,hc,hroom,hcur,hm,by simp[Em.newGtok],λo=>⟨λh=>h.elim (λh=>?_) (·.2),λh=>.inr ⟨rfl,h⟩⟩⟩
    have:=hg.imm_lt b o h
    omega
 ·intro b' ow h
  simp only[Em.newGtok] at h
  split at h
  ·cases h;exact .inr ⟨_,rfl⟩
  ·split at h
   ·cases h
   ·exact ho b' ow h
theorem gsl_new{E:Em}{w w':World}{g:Glob}(hg:GRel E w g)(ho:GlobOnly E)(hb:Below w.heap.size w w'){b m cap:Nat}{xs:List Dat}{cur:Array Value}{t:TypeId}(h1:w.heap.size≤b)
 (hc:w'.heap[b]?=some (.cells cur t (0,0))) (hroom:xs.length≤cap) (hcur:cur.size=cap*m) (hm:0<m) (hf:Flat E w m xs cur.toList):
 ∃E',Up E w g.toks E' w' (g.toks++[(m,xs.length)])∧GRel E' w' ⟨g.boxes,g.toks++[(m,xs.length)]⟩∧GlobOnly E'∧Rep E' w' (.gsl g.toks.length m xs) (.slice (some ⟨b,0,none⟩) xs.length cap):=by
 obtain⟨hu,hg',ho'⟩:=gtok_at (n:=xs.length) hg ho hb h1 hc hroom hcur hm
 refine⟨_,hu,hg',ho',?_⟩
 have hr:Rep (E.newGtok g.toks.length b (xs.length*m) (m,xs.length) (.slice (some ⟨b,0,none⟩) xs.length cap)) w' (.sl m xs) (.slice (some ⟨b,0,none⟩) xs.length cap):=by
  refine Rep.sl_of hroom hf.2.1 (λi x hx j d hd=>?_)
  obtain⟨h1,u,hu',hr⟩:=hf.2.2 i x hx j d hd
  have hi:i<xs.length:=(List.getElem?_eq_some_iff.1 hx).1
  have hj:j<m:=by rw[←hf.2.1 x (List.mem_of_getElem? hx)];exact(List.getElem?_eq_some_iff.1 hd).1
  have hlt:i*m+j<xs.length*m:=by
   have:(i+1)*m≤xs.length*m:=Nat.mul_le_mul_right _ hi
   rw[Nat.add_mul] at this
   omega
  refine⟨h1,.inr ⟨rfl,by omega⟩,u,?_,hr.up hu⟩
  simp only[Nat.zero_add,World.cell?,hc,Option.isSome_none,Bool.false_eq_true,if_false]
  simpa using hu'
 exact .gsl _ _ _ _ xs.length hr (upd_same E.gk g.toks.length _) (Nat.le_refl _) (λ_=>(upd_same E.gt g.toks.length _).symm)
end Go.Proofs.YtiheejdkkjfenaaGreatDoor.Pa
namespace Go.Proofs.YtiheejdkkjfenaaGreatDoor.Pa
open Go Go.RowKit Go.Proofs.YtiheejdkkjfenaaGreatDoor.Am
theorem infoRow:(Tryz.prog.info? 24).map (λi=>(i.zero,i.size,i.bytes))=some (some (.slice none 0 0),1,24):=by kernel_rfl
set_option maxHeartbeats 2000000 in
set_option maxRecDepth 100000 in
theorem clone_calls(b off n c:Nat)(news:List Value)(w:World)(hl:news.length=n)(hbig:n*24≤140737488355328)
 (hc:∀j u,news[j]?=some u→w.cell? ⟨b,off+j,none⟩=some u) (h1:∀u∈news,u.oneCell'=true):
 Calls Tryz.prog 72 #[.slice (some ⟨b,off,none⟩) n c] w λe w'=>∃v',e=.returned v'∧w'.ownsRow w.heap.size 24 1 v' n news∧Below w.heap.size w w':=by
 obtain⟨i0,hi,hz0,hz1,hz2⟩:=info_parts infoRow
 have t22:=Tryz.underlying86
 have q22:∀(w:World) (a:Option Addr) (n c n' c':Nat),(binOp .eql 86 (.slice a n c) (.slice none n' c')).run Tryz.prog w=.ok (.bool a.isNone) w:=λw a n c n' c'=>Lib.run_eql_slice_nil w _ _ a n c n' c' t22
 have u22:∀w,Sem.run Tryz.prog (underlying 86) w=.ok (TypeDesc.slice 24) w:=run_underlying t22
 have A:Aside (∀j u,news[j]?=some u→w.cell? ⟨b,off+j,none⟩=some u):=hc
 clear hc
 go_enter Tryz.func72,Tryz.ntmps72
 go_wp2_with (at_builtin;refine wpList_append_own _ rfl _ _ 86 rfl w.heap.size 24 i0 (.slice none 0 0) 1 24 t22 hi hz0 hz1 hz2 rfl (by decide) _ _ _ rfl (World.ownsRow_made w #[] 0 (Nat.le_refl _) (Nat.zero_le _) (by simp)) ⟨b,off,none⟩ n c news rfl ?qc1 ?qc2 ?qc3 ?qc4 ?qc5 ?qc6 ?_)
 case qc1=>simpa using hl
 case qc2=>
  intro j u hj
  rw[Addr.add_lit]
  exact Lib.cell?_alloc_some _ (A.out j u hj)
 case qc3=>exact h1
 case qc4=>unfold maxLen;omega
 case qc5=>omega
 case qc6=>simp
 intro v' w1 hown hgrow hnil
 go_wp2
 go_ret
 refine⟨v',rfl,by simpa using hown,?_⟩
 exact((Below.refl _ w).alloc (Nat.le_refl _) _).grown hgrow (by simp) (by intro k hk;simp[Value.ownBlock] at hk;omega)
theorem run_append_void{P:Program}(w:World)(base:Nat)(t ty e:TypeId)(i:TypeInfo)(size:Nat)(ht:P.underlying t=some (.slice e))(hi:P.info? e=some i)
 (v:Value) (n:Nat) (xs:List Value) (hown:w.ownsRow base e size v n xs) (a:Addr) (c:Nat):(Builtin.append_ #[t,t] ty #[v,.slice (some a) 0 c]).run P w=.ok v w:=by
 have hf:=run_firstCells_some (P:=P) w i.size 0 a 0 c [] (by simp) (λj u h=>by simp at h)
 rcases hown.2 with ⟨rfl,rfl⟩|⟨g,cap,cur,rfl,_,_,hnc,_⟩
 ·simp[Builtin.append_,run_underlying ht,sizeOf,typeInfo,hi,Builtin.lenOf,hf]
 ·simp[Builtin.append_,run_underlying ht,sizeOf,typeInfo,hi,Builtin.lenOf,hf,hnc,storeCells]
theorem wpList_append_void{P:Program}{w:World}{ops:Array Oper}{rest:List Oper}{o:Oper}{a:Act}{Q:Exit→Act→World→Prop}(hgd:o.guard=none)(s x:Operand)(t:TypeId)
 (ho:o.op=.call {callee:=.builtin .append,args:=#[s,x],argTypes:=#[t,t]})
 (base:Nat) (e:TypeId) (i:TypeInfo) (size:Nat) (ht:P.underlying t=some (.slice e)) (hi:P.info? e=some i)
 (v:Value) (n:Nat) (xs:List Value) (hs:a.eval s=v) (hown:w.ownsRow base e size v n xs) (b:Addr) (c:Nat) (hx:a.eval x=.slice (some b) 0 c)
 (h:wpList P ops Q rest (a.put o.dst v) w):wpList P ops Q (o::rest) a w:=by
 refine wpList_plain hgd λK hK=>?_
 have hrun:=run_append_void (P:=P) w base t o.type e i size ht hi v n xs hown b c
 unfold Oper.wp
 simp[execOp,ho,resolve,invoke,builtin,hs,hx,hrun,Result.andThen]
 exact hK _ _ h
set_option maxHeartbeats 2000000 in
set_option maxRecDepth 100000 in
theorem clone_nil(a:Option Addr)(w:World):
 Calls Tryz.prog 72 #[.slice a 0 0] w λe w'=>(∃a',e=.returned (.slice a' 0 0))∧Below w.heap.size w w':=by
 obtain⟨i0,hi,hz0,hz1,hz2⟩:=info_parts infoRow
 have t22:=Tryz.underlying86
 have q22:∀(w:World) (a:Option Addr) (n c n' c':Nat),(binOp .eql 86 (.slice a n c) (.slice none n' c')).run Tryz.prog w=.ok (.bool a.isNone) w:=λw a n c n' c'=>Lib.run_eql_slice_nil w _ _ a n c n' c' t22
 have u22:∀w,Sem.run Tryz.prog (underlying 86) w=.ok (TypeDesc.slice 24) w:=run_underlying t22
 cases a with
 |none=>
  go_enter Tryz.func72,Tryz.ntmps72
  go_wp2
  go_ret
  exact⟨⟨_,rfl⟩,Below.refl _ _⟩
 |some a=>
  go_enter Tryz.func72,Tryz.ntmps72
  go_wp2_with (at_builtin;refine wpList_append_void rfl _ _ 86 rfl w.heap.size 24 i0 1 t22 hi _ 0 [] rfl (World.ownsRow_made w #[] 0 (Nat.le_refl _) (Nat.zero_le _) rfl) a 0 rfl ?_)
  go_ret
  exact⟨⟨_,rfl⟩,(Below.refl _ w).alloc (Nat.le_refl _) _⟩
end Go.Proofs.YtiheejdkkjfenaaGreatDoor.Pa
namespace Go.Proofs.YtiheejdkkjfenaaGreatDoor.Pa
open Go Go.RowKit Go.Proofs.YtiheejdkkjfenaaGreatDoor.Am
theorem rows_key{E:Em}{w:World}{g:Glob}(hg:GRel E w g)(ho:GlobOnly E){xs:List Dat}(hne:xs≠[])(hlen:xs.length≤1099511627776){v:Value}(h:Rep E w (.sl 1 xs) v):
 Calls Tryz.prog 72 #[v] w (Post E w g (.val (.d (.gsl g.toks.length 1 xs))) ⟨g.boxes,g.toks++[(1,xs.length)]⟩):=by
 cases h with
 |emp=>exact absurd rfl hne
 |sl _ _ b o c vs hc hm h1 h2 h3 h4=>
  have one:∀(i:Nat) x,xs[i]?=some x→∃d,x.cells[0]?=some d:=λi x hx=>by
   have:=hm x (List.mem_of_getElem? hx)
   exact⟨x.cells[0],List.getElem?_eq_getElem (by omega)⟩
  refine(clone_calls b o xs.length c ((List.range xs.length).map vs) w (by simp) (by omega) (λj u hj=>?_) (λu hu=>?_)).mono λe w' ⟨v',he,hown,hb⟩=>?_
  ·simp only[List.getElem?_map,Option.map_eq_some_iff] at hj
   obtain⟨k,hk,rfl⟩:=hj
   have hlt:j<xs.length:=by simpa using(List.getElem?_eq_some_iff.1 hk).1
   rw[List.getElem?_range hlt] at hk
   cases hk
   obtain⟨d,hd⟩:=one j _ (List.getElem?_eq_getElem hlt)
   simpa using h3 j _ (List.getElem?_eq_getElem hlt) 0 d hd
  ·obtain⟨k,hk,rfl⟩:=List.mem_map.1 hu
   have hlt:k<xs.length:=by simpa using hk
   obtain⟨d,hd⟩:=one k _ (List.getElem?_eq_getElem hlt)
   have q:=(h4 k _ (List.getElem?_eq_getElem hlt) 0 d hd).oneCell (h1 k _ (List.getElem?_eq_getElem hlt) 0 d hd)
   simpa using q
  ·subst he
   obtain⟨_,hh|⟨b',cap,cur,rfl,hB,hc',hn,_,hz,ht⟩⟩:=hown
   ·exact absurd (List.length_eq_zero_iff.1 hh.2) hne
   ·have hf:Flat E w 1 xs cur.toList:=by
     refine⟨by simp[hz];omega,hm,λi x hx j d hd=>?_⟩
     have hi:i<xs.length:=(List.getElem?_eq_some_iff.1 hx).1
     have hj:j=0:=by
      have:=(List.getElem?_eq_some_iff.1 hd).1
      rw[hm x (List.mem_of_getElem? hx)] at this
      omega
     subst hj
     refine⟨h1 i x hx 0 d hd,vs i,?_,by simpa using h4 i x hx 0 d hd⟩
     have e:(cur.toList.take (xs.length*1))[i]?=some (vs i):=by rw[ht,List.getElem?_map,List.getElem?_range hi];rfl
     rw[List.getElem?_take] at e
     split at e
     ·simpa using e
     ·cases e
    obtain⟨E',u1,u2,u3,u4⟩:=gsl_new hg ho hb hB hc' hn hz (by decide) hf
    exact⟨E',u1,u2,u3,_,rfl,u4⟩
def rowSays:List Dat→Glob→Option (Out×Glob)
 |[.nil],g=>some (.val (.d .nil),g)
 |[.sl m xs],g|[.gsl _ m xs],g=>bif Nat.beq m 1&&(Nat.ble xs.length 1099511627776&&!xs.isEmpty) then some (.val (.d (.gsl g.toks.length 1 xs)),⟨g.boxes,g.toks++[(1,xs.length)]⟩) else none
 |_,_=>none
theorem rowSays_inv{ds:List Dat}{g:Glob}{r:Out×Glob}(h:rowSays ds g=some r):
 (ds=[.nil]∧r=(.val (.d .nil),g))∨∃xs,(ds=[.sl 1 xs]∨∃t,ds=[.gsl t 1 xs])∧xs≠[]∧xs.length≤1099511627776∧r=(.val (.d (.gsl g.toks.length 1 xs)),⟨g.boxes,g.toks++[(1,xs.length)]⟩):=by
 match ds,h with
 |[.nil],h=>cases h;exact .inl ⟨rfl,rfl⟩
 |[.sl m xs],h=>
  simp only[rowSays] at h
  cases hc:(Nat.beq m 1&&(Nat.ble xs.length 1099511627776&&!xs.isEmpty)) with
  |false=>rw[hc] at h;cases h
  |true=>
   rw[hc] at h
   cases h
   simp only[Bool.and_eq_true] at hc
   obtain rfl:=Nat.eq_of_beq_eq_true hc.1
   exact .inr ⟨xs,.inl rfl,(by rintro rfl;cases hc.2.2),Nat.le_of_ble_eq_true hc.2.1,rfl⟩
 |[.gsl t m xs],h=>
  simp only[rowSays] at h
  cases hc:(Nat.beq m 1&&(Nat.ble xs.length 1099511627776&&!xs.isEmpty)) with
  |false=>rw[hc] at h;cases h
  |true=>
   rw[hc] at h
   cases h
   simp only[Bool.and_eq_true] at hc
   obtain rfl:=Nat.eq_of_beq_eq_true hc.1
   exact .inr ⟨xs,.inr ⟨t,rfl⟩,(by rintro rfl;cases hc.2.2),Nat.le_of_ble_eq_true hc.2.1,rfl⟩
theorem rowSays_ok{Bs:Em→World→Prop}:∀ds g out g',rowSays ds g=some (out,g')→Am.Enters Tryz.prog 72∧∀E w vs,Bs E w→GRel E w g→GlobOnly E→ReL E w ds vs→Calls Tryz.prog 72 vs.toArray w (Post E w g out g'):=by
 intro ds g out g' hs
 obtain⟨d,rfl⟩:∃d,ds=[d]:=by rcases rowSays_inv hs with ⟨rfl,_⟩|⟨xs,rfl|⟨t,rfl⟩,_⟩<;>exact⟨_,rfl⟩
 refine⟨⟨Tryz.f72,Tryz.func72,by kernel_rfl,by kernel_rfl⟩,λE w vs hb hg ho hr=>?_⟩
 obtain⟨v0,rfl⟩:∃v0,vs=[v0]:=by
  match vs,hr.1 with
  |[v0],_=>exact⟨v0,rfl⟩
 have h0:=hr.2 0 _ _ rfl rfl
 rcases rowSays_inv hs with ⟨hds,he⟩|⟨xs,hds,hne,hlen,he⟩
 ·cases he
  cases hds
  cases h0 with
  |nil a=>
   refine(clone_nil a w).mono λe w' ⟨⟨a',h1⟩,hb'⟩=>?_
   subst h1
   exact⟨E,up_below hg hb',hg.below hb',ho,_,rfl,.nil a'⟩
 cases he
 rcases hds with hds|⟨t,hds⟩
 ·cases hds
  exact rows_key hg ho hne hlen h0
 ·cases hds
  cases h0 with
  |gsl _ _ _ _ n h=>exact rows_key hg ho hne hlen h
theorem infoPat:(Tryz.prog.info? 52).map (λi=>(i.zero,i.size,i.bytes))=some (some (.agg #[.int .i64 0,.string ⟨#[]⟩,.int .i64 0,.slice none 0 0,.int .i64 0]),5,64):=by kernel_rfl
set_option maxHeartbeats 2000000 in
set_option maxRecDepth 100000 in
theorem grow_zero(a:Option Addr)(w:World):Calls Tryz.prog 189 #[.slice a 0 0,.int .i64 0] w λe w'=>e=.returned (.slice a 0 0)∧w'=w:=by
 go_enter Tryz.func189,Tryz.ntmps189
 go_wp2
 go_ret
 exact⟨rfl,rfl⟩
set_option maxHeartbeats 4000000 in
set_option maxRecDepth 100000 in
theorem grow_some(a:Option Addr)(n:Nat)(h0:0<n)(hn:n≤1099511627776)(w:World):
 Calls Tryz.prog 189 #[.slice a 0 0,.int .i64 n] w λe w'=>∃cap cur,e=.returned (.slice (some ⟨w.heap.size,0,none⟩) 0 cap)∧cur.size=cap*5∧w'=w.drew.alloc (.cells cur 52):=by
 obtain⟨i0,hi,hz0,hz1,hz2⟩:=info_parts infoPat
 have t22:=Tryz.underlying24
 have u22:∀w,Sem.run Tryz.prog (underlying 24) w=.ok (TypeDesc.slice 52) w:=run_underlying t22
 have z25:∀w,(Go.sizeOf 52).run Tryz.prog w=.ok i0.size w:=λw=>by simp[Go.sizeOf,typeInfo,hi]
 have h1:¬((n:Int)<0):=by omega
 have h2:wrap64 ((0:Int)-(0:Int))=0:=by unfold wrap64;omega
 have h3:wrap64 ((n:Int)-(0:Int))=(n:Int):=by unfold wrap64;omega
 have h4:(n:Int)>0:=by omega
 have hold:(Builtin.firstCells i0.size 0 (.slice a 0 0)).run Tryz.prog w.drew=.ok ([]:List Value).toArray w.drew:=by
  cases a with
  |none=>exact run_firstCells_none w.drew i0.size 0 0 0
  |some a=>exact run_firstCells_some w.drew i0.size 0 a 0 0 [] (by simp) (λj v hj=>by simp at hj)
 have hroom:0<0+n:=by omega
 have hrz:∀ty,(Builtin.append_ #[24,3] ty #[.slice a 0 0,.int .i64 (n:Int)]).run Tryz.prog w=
  .ok (.slice (some ⟨w.heap.size,0,none⟩) (0+n) (grownCap w (0+n) 0 52)) (w.drew.alloc (.cells (([]:List Value).toArray++Builtin.zeroCells (Value.agg #[.int .i64 0,.string ⟨#[]⟩,.int .i64 0,.slice none 0 0,.int .i64 0]).cells n++Builtin.zeroCells (Value.agg #[.int .i64 0,.string ⟨#[]⟩,.int .i64 0,.slice none 0 0,.int .i64 0]).cells (grownCap w (0+n) 0 52-(0+n))) 52)):=λty=>
  Lib.run_append_grow_zeros w 24 3 ty 52 i0 _ .i64 .i64 t22 Tryz.underlying3 hi hz0 a 0 0 [] hold n h0 (by rw[hz1];decide) hroom (by omega) (by rw[hz2];omega) (growslice_fits hroom (by rw[hz2];omega))
 have hGn:0+n≤grownCap w (0+n) 0 52:=grownCap_ge w _ _ _
 obtain⟨G,hG⟩:∃G,G=grownCap w (0+n) 0 52:=⟨_,rfl⟩
 rw[←hG] at hrz hGn
 have hG63:G≤9223372036854775807:=by
  have:=grownCap_le_maxLen w (0+n) 0 52 (by unfold maxLen;omega)
  rw[←hG] at this
  unfold maxLen at this
  omega
 obtain⟨cur,hcur⟩:∃cur,cur=(([]:List Value).toArray++Builtin.zeroCells (Value.agg #[.int .i64 0,.string ⟨#[]⟩,.int .i64 0,.slice none 0 0,.int .i64 0]).cells n++Builtin.zeroCells (Value.agg #[.int .i64 0,.string ⟨#[]⟩,.int .i64 0,.slice none 0 0,.int .i64 0]).cells (G-(0+n))):=⟨_,rfl⟩
 have hsz:cur.size=G*5:=by
  rw[hcur]
  simp[Builtin.zeroCells,Value.cells]
  omega
 rw[←hcur] at hrz
 clear hold hG hcur
 go_enter Tryz.func189,Tryz.ntmps189
 cases a with
 |none=>
  go_wp2_with (at_builtin;refine Lib.wpList_append_run _ rfl _ _ _ _ rfl _ _ rfl rfl _ _ (hrz _) ?_)
  all_goals (go_ret;exact⟨_,rfl,_,hsz,rfl⟩)
 |some a=>
  obtain⟨ab,ao,asp⟩:=a
  go_wp2_with (at_builtin;refine Lib.wpList_append_run _ rfl _ _ _ _ rfl _ _ rfl rfl _ _ (hrz _) ?_)
  all_goals (go_ret;exact⟨_,rfl,_,hsz,rfl⟩)
end Go.Proofs.YtiheejdkkjfenaaGreatDoor.Pa
namespace Go.Proofs.YtiheejdkkjfenaaGreatDoor.Pa
open Go Go.RowKit Go.Proofs.YtiheejdkkjfenaaGreatDoor.Am
def growSays:List Dat→Glob→Option (Out×Glob)
 |[.nil,.int .i64 (.ofNat n)],g=>bif Nat.beq n 0 then some (.val (.d .nil),g) else bif Nat.ble n 1099511627776 then some (.val (.d (.gsl g.toks.length 5 [])),⟨g.boxes,g.toks++[(5,0)]⟩) else none
 |_,_=>none
theorem growSays_inv{ds:List Dat}{g:Glob}{r:Out×Glob}(h:growSays ds g=some r):
 ∃n:Nat,ds=[.nil,.int .i64 n]∧((n=0∧r=(.val (.d .nil),g))∨(0<n∧n≤1099511627776∧r=(.val (.d (.gsl g.toks.length 5 [])),⟨g.boxes,g.toks++[(5,0)]⟩))):=by
 match ds,h with
 |[.nil,.int .i64 (.ofNat n)],h=>
  refine⟨n,rfl,?_⟩
  simp only[growSays] at h
  cases hc:Nat.beq n 0 with
  |true=>rw[hc] at h;cases h;exact .inl ⟨Nat.eq_of_beq_eq_true hc,rfl⟩
  |false=>
   rw[hc] at h
   have h0:0<n:=by
    rcases Nat.eq_zero_or_pos n with e|e
    ·subst e;cases hc
    ·exact e
   cases hd:Nat.ble n 1099511627776 with
   |false=>rw[hd] at h;cases h
   |true=>rw[hd] at h;cases h;exact .inr ⟨h0,Nat.le_of_ble_eq_true hd,rfl⟩
theorem growSays_ok{Bs:Em→World→Prop}:∀ds g out g',growSays ds g=some (out,g')→Am.Enters Tryz.prog 189∧∀E w vs,Bs E w→GRel E w g→GlobOnly E→ReL E w ds vs→Calls Tryz.prog 189 vs.toArray w (Post E w g out g'):=by
 intro ds g out g' hs
 obtain⟨n,rfl,he⟩:=growSays_inv hs
 refine⟨⟨Tryz.f189,Tryz.func189,by kernel_rfl,by kernel_rfl⟩,λE w vs hb hg ho hr=>?_⟩
 obtain⟨v0,v1,rfl⟩:∃v0 v1,vs=[v0,v1]:=by
  match vs,hr.1 with
  |[v0,v1],_=>exact⟨v0,v1,rfl⟩
 have h0:=hr.2 0 _ _ rfl rfl
 have h1:=hr.2 1 _ _ rfl rfl
 cases h0
 cases h1
 rename_i a
 rcases he with ⟨rfl,he⟩|⟨h0,hn,he⟩
 ·cases he
  refine(grow_zero a w).mono λe w' ⟨he,hw⟩=>?_
  subst he hw
  exact⟨E,Up.refl _ _ _,hg,ho,_,rfl,.nil _⟩
 ·cases he
  refine(grow_some a n h0 hn w).mono λe w' ⟨cap,cur,he,hsz,hw⟩=>?_
  subst he hw
  have hb':Below w.heap.size w (w.drew.alloc (.cells cur 52)):=((Below.refl _ w).drew).alloc (Nat.le_refl _) _
  obtain⟨E',u1,u2,u3,u4⟩:=gsl_new (xs:=[]) hg ho hb' (Nat.le_refl _) (b:=w.heap.size) (pushed_drew w _).new (Nat.zero_le cap) hsz (by decide) ⟨by simp,λx hx=>by simp at hx,λi x hx=>by simp at hx⟩
  exact⟨E',u1,u2,u3,_,rfl,u4⟩
theorem add64(x y:Int)(w:World)(h0:0≤x)(h1:x≤1152921504606846976)(h2:0≤y)(h3:y≤1152921504606846976):(Op.intArith .add .i64 x y).run Tryz.prog w=.ok (.int .i64 (x+y)) w:=by
 have:IntKind.i64.wrap (x+y)=x+y:=by rw[IntKind.wrap_i64];omega
 simp[Op.intArith,this]
set_option maxHeartbeats 2000000 in
set_option maxRecDepth 100000 in
theorem add_calls(b o:Nat)(x y:Int)(w:World)(hc:w.cell? ⟨b,o,none⟩=some (.int .i64 x))(hz:w.frozen? ⟨b,o,none⟩=false)(h0:0≤x)(h1:x≤1152921504606846976)(h2:0≤y)(h3:y≤1152921504606846976):
 Calls Tryz.prog 125 #[.pointer (some ⟨b,o,none⟩),.int .i64 y] w λe w'=>e=.returned (.int .i64 (x+y))∧w'=w.setCell ⟨b,o,none⟩ (.int .i64 (x+y)):=by
 go_enter Tryz.func125,Tryz.ntmps125
 go_wp2
 rw[run_call_add Tryz.func188 (by kernel_rfl) (by kernel_rfl) (by kernel_rfl) .i64 (by kernel_rfl) hc hz (add64 x y w h0 h1 h2 h3)]
 rw[Oper.upon_value]
 go_wp2
 go_ret
 exact⟨rfl,rfl⟩
def boxInt(g:Glob)(i o:Nat):Option Int:=
 match g.boxes[i]? with
 |some (.cells cs)=>match cs[o]? with
  |some (.d (.int .i64 n))=>some n
  |_=>none
 |_=>none
def addBox(g:Glob)(i o:Nat)(s:Int):Glob:=
 match g.boxes[i]? with
 |some (.cells cs)=>⟨g.boxes.set i (.cells (cs.set o (.d (.int .i64 s)))),g.toks⟩
 |_=>g
def addSays:List Dat→Glob→Option (Out×Glob)
 |[.ptr (some (i,o)),.int .i64 (.ofNat d)],g=>match boxInt g i o with
  |some (.ofNat n)=>bif Nat.ble n 1152921504606846976&&Nat.ble d 1152921504606846976 then some (.val (.d (.int .i64 ((n+d:Nat):Int))),addBox g i o ((n+d:Nat):Int)) else none
  |_=>none
 |_,_=>none
theorem addSays_inv{ds:List Dat}{g:Glob}{r:Out×Glob}(h:addSays ds g=some r):
 ∃(i o n d:Nat) (cs:List GVal),ds=[.ptr (some (i,o)),.int .i64 (d:Int)]∧g.boxes[i]?=some (.cells cs)∧cs[o]?=some (.d (.int .i64 (n:Int)))∧n≤1152921504606846976∧d≤1152921504606846976∧
  r=(.val (.d (.int .i64 ((n+d:Nat):Int))),⟨g.boxes.set i (.cells (cs.set o (.d (.int .i64 ((n+d:Nat):Int))))),g.toks⟩):=by
 match ds,h with
 |[.ptr (some (i,o)),.int .i64 (.ofNat d)],h=>
  simp only[addSays] at h
  cases hb:boxInt g i o with
  |none=>rw[hb] at h;cases h
  |some x=>
   rw[hb] at h
   match x,hb,h with
   |.ofNat n,hb,h=>
    simp only at h
    cases hc:(Nat.ble n 1152921504606846976&&Nat.ble d 1152921504606846976) with
    |false=>rw[hc] at h;cases h
    |true=>
     rw[hc] at h
     simp only[Bool.and_eq_true] at hc
     unfold boxInt at hb
     split at hb
     ·rename_i cs hcs
      split at hb
      ·rename_i m hm
       cases hb
       have e:addBox g i o ((n+d:Nat):Int)=⟨g.boxes.set i (.cells (cs.set o (.d (.int .i64 ((n+d:Nat):Int))))),g.toks⟩:=by simp only[addBox,hcs]
       rw[e] at h
       cases h
       exact⟨i,o,n,d,cs,rfl,hcs,hm,Nat.le_of_ble_eq_true hc.1,Nat.le_of_ble_eq_true hc.2,rfl⟩
      ·cases hb
     ·cases hb
def st0(g:Glob):St:=⟨0,[],[],[],[],⟨[]⟩,⟨[]⟩,⟨[]⟩,g⟩
theorem mrel0{E:Em}{w:World}{g:Glob}(hg:GRel E w g):MRel E w (st0 g):=
 ⟨hg,λk g bx h=>by simp[st0,Mp.get_empty] at h,λk g m n h=>by simp[st0,Mp.get_empty] at h⟩
theorem addSays_ok{Bs:Em→World→Prop}:∀ds g out g',addSays ds g=some (out,g')→Am.Enters Tryz.prog 125∧∀E w vs,Bs E w→GRel E w g→GlobOnly E→ReL E w ds vs→Calls Tryz.prog 125 vs.toArray w (Post E w g out g'):=by
 intro ds g out g' hs
 obtain⟨i,o,n,d,cs,rfl,hcs,hn,hnl,hdl,he⟩:=addSays_inv hs
 cases he
 refine⟨⟨Tryz.f125,Tryz.func125,by kernel_rfl,by kernel_rfl⟩,λE w vs hb hg ho hr=>?_⟩
 obtain⟨v0,v1,rfl⟩:∃v0 v1,vs=[v0,v1]:=by
  match vs,hr.1 with
  |[v0,v1],_=>exact⟨v0,v1,rfl⟩
 have h0:=hr.2 0 _ _ rfl rfl
 have h1:=hr.2 1 _ _ rfl rfl
 cases h0 with
 |ptr _ _ hlt=>
 cases h1
 obtain⟨q1,q2,cur,te,q3,q4,q5,q6⟩:=hg.boxes i _ hcs
 have holt:o<cur.size:=by
  have:=(List.getElem?_eq_some_iff.1 hn).1
  simp at q4
  omega
 have hcell:cur[o]?=some (.int .i64 (n:Int)):=by
  obtain⟨u,hu⟩:∃u,cur[o]?=some u:=⟨_,Array.getElem?_eq_getElem holt⟩
  have:=q6 o (.d (.int .i64 n)) u (by rw[List.getElem?_map,hn];rfl) hu
  cases this with
  |d _ _ h=>cases h;exact hu
 have hc:w.cell? ⟨E.gb i,o,none⟩=some (.int .i64 (n:Int)):=by simp[World.cell?,q3,hcell]
 have hz:w.frozen? ⟨E.gb i,o,none⟩=false:=by simp[World.frozen?,q3]
 refine(add_calls (E.gb i) o n d w hc hz (by omega) (by omega) (by omega) (by omega)).mono λe w' ⟨he,hw⟩=>?_
 rw[setCell_eq_setRow w (E.gb i) o cur te (0,0) _ q3] at hw
 subst he hw
 have hw:=wrote_setRow w (E.gb i) cur (cur.setIfInBounds o (.int .i64 ((n:Int)+d))) te q3
 obtain⟨s1,s2,s3⟩:=(mrel0 hg).setGlob (i:=i) (bx:=.cells cs) (bx':=.cells (cs.set o (.d (.int .i64 ((n+d:Nat):Int))))) hcs hw (λE' f f'=>by
  show CellsAt _ _ _ _ ((cs.set o (.d (.int .i64 ((n+d:Nat):Int)))).map GVal.v)
  refine⟨_,te,hw.new,by simp at q4⊢;exact q4,λc hc=>?_,λj c v hc hv=>?_⟩
  ·rw[List.map_set] at hc
   rcases List.mem_or_eq_of_mem_set hc with hc|rfl
   ·exact q5 c hc
   ·rfl
  ·rw[List.map_set] at hc
   rw[Array.getElem?_setIfInBounds] at hv
   by_cases e:o=j
   ·subst e
    rw[List.getElem?_set_self (by simp;exact(List.getElem?_eq_some_iff.1 hn).1)] at hc
    simp[holt] at hv
    cases hc
    subst hv
    exact .d _ _ (by rw[show((n:Int)+(d:Int))=((n+d:Nat):Int) by omega];exact .int _ _)
   ·rw[List.getElem?_set_ne e] at hc
    rw[if_neg e] at hv
    exact f _ _ (q6 j c v hc hv))
 refine⟨E,s1,s3.g,ho,_,rfl,?_⟩
 rw[show((n:Int)+(d:Int))=((n+d:Nat):Int) by omega]
 exact .int _ _
end Go.Proofs.YtiheejdkkjfenaaGreatDoor.Pa
