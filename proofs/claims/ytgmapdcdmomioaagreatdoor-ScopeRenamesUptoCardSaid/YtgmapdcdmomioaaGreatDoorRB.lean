/- The parse layers in the plain machine: tables. What stringslite.IndexByte answers: where a byte first is (the model's own entry stands for the function without a Go body). slices.Clone of strings, as the kit's shelf lays it, in the plain machine. -/
import Derived.Test.YtgmapdcdmomioaaGreatDoorQH
import Derived.Test.YtgmapdcdmomioaaGreatDoorQE
import Derived.Test.YtgmapdcdmomioaaGreatDoorProg
import Derived.Lib.Bytealg
import Derived.Lib.Strings
import Derived.Lib.Slices
import Derived.Lib.Walk
import Derived.Shelf.Slices.Clone
set_option linter.all false
set_option autoImplicit false
set_option maxRecDepth 100000
namespace Go.Proofs.YtgmapdcdmomioaaGreatDoor.Pa
open Go Go.RowKit Go.Proofs.YtgmapdcdmomioaaGreatDoor.Am
def escs:FuncId→List Nat
 |17=>[26]|29=>[13,11,2]|30=>[86]|40=>[6,4,5,3,10,9,7]|46=>[12,6,5,4,1000000]|81=>[5,2,6,1000000]|149=>[1000000]|160=>[1000000]|161=>[1000000]|94=>[1000000]|155=>[1000000]|80=>[16,18]|89=>[7,1000000]|147=>[5,3,4]|98=>[1000000]|100=>[1000000]|227=>[1000000]|213=>[1000000]|179=>[1000000]|180=>[1000000]|181=>[1000000]|233=>[1000000]|112=>[1000000]|216=>[1000000]|189=>[1000000]|49=>[1000000]|190=>[1000000]|_=>[]
noncomputable def T0:Tb:=tbOf Tryz.prog [43,49] escs
theorem okT0:T0.Ok Tryz.prog:=tbOf_ok (by kernel_rfl) (by kernel_rfl) (by kernel_rfl)
end Go.Proofs.YtgmapdcdmomioaaGreatDoor.Pa
namespace Go.Proofs.YtgmapdcdmomioaaGreatDoor.Pa
open Go Go.RowKit Go.Proofs.YtgmapdcdmomioaaGreatDoor.Am
set_option maxHeartbeats 1000000 in
set_option maxRecDepth 100000 in
theorem idx_calls(s:ByteArray)(c:Int)(w:World):
 Calls Tryz.prog 162 #[.string s,.int .u8 c] w λe w'=>e=.returned (.int .i64 (Lib.indexByte s.data.toList c.toNat.toUInt8))∧w'=w:=by
 go_enter Tryz.func162,Tryz.ntmps162
 go_wp2
 rw[run_callFunc_extern Tryz.func207 (by kernel_rfl) (by kernel_rfl) (by kernel_rfl) (e:=Extern.BytealgIndexByte.indexByte) (by kernel_rfl),Lib.run_indexByteString]
 simp only[Result.andThen]
 rw[Oper.upon_value]
 go_wp2
 go_ret
 exact⟨rfl,rfl⟩
def idxSays:List Dat→Glob→Option (Out×Glob)
 |[.str s,.int .u8 c],g=>some (.val (.d (.int .i64 (Lib.indexByte s c.toNat.toUInt8))),g)
 |_,_=>none
theorem idxSays_inv{ds:List Dat}{g:Glob}{r:Out×Glob}(h:idxSays ds g=some r):∃s c,ds=[.str s,.int .u8 c]∧r=(.val (.d (.int .i64 (Lib.indexByte s c.toNat.toUInt8))),g):=by
 match ds,h with
 |[.str s,.int .u8 c],h=>cases h;exact⟨s,c,rfl,rfl⟩
theorem idxSays_ok{Bs:Em→World→Prop}:∀ds g out g',idxSays ds g=some (out,g')→Am.Enters Tryz.prog 162∧∀E w vs,Bs E w→GRel E w g→GlobOnly E→ReL E w ds vs→Calls Tryz.prog 162 vs.toArray w (Post E w g out g'):=by
 intro ds g out g' hs
 obtain⟨s,c,rfl,he⟩:=idxSays_inv hs
 cases he
 refine⟨⟨Tryz.f162,Tryz.func162,by kernel_rfl,by kernel_rfl⟩,λE w vs hb hg ho hr=>?_⟩
 obtain⟨v0,v1,rfl⟩:∃v0 v1,vs=[v0,v1]:=by
  match vs,hr.1 with
  |[v0,v1],_=>exact⟨v0,v1,rfl⟩
 have h0:=hr.2 0 _ _ rfl rfl
 have h1:=hr.2 1 _ _ rfl rfl
 cases h0
 cases h1
 refine(idx_calls ⟨s.toArray⟩ c w).mono λe w' ⟨he,hw⟩=>?_
 subst he hw
 exact⟨E,Up.refl _ _ _,hg,ho,_,rfl,.int _ _⟩
end Go.Proofs.YtgmapdcdmomioaaGreatDoor.Pa
namespace Go.Proofs
open Go.Shelf
def Tryz.laysNm216_ren:Go.Shelf.Ren:=⟨λ|16=>157|n=>n,λ|24=>61|9=>9|4=>4|n=>n,λ|n=>n⟩
theorem Tryz.laysNm216:Go.Proofs.Lays2.n16 Tryz.prog Tryz.laysNm216_ren:={
 mixed:=by kernel_rfl
 f16:=Tryz.func157.trans (congrArg some (by kernel_rfl))
 t4:=Tryz.underlying4
 a4:=Tryz.isAgg4
 z4:=Tryz.sizeOf4
 v4:=Tryz.zeroValue4
 t9:=Tryz.underlying9
 a9:=Tryz.isAgg9
 z9:=Tryz.sizeOf9
 v9:=Tryz.zeroValue9
 t24:=Tryz.underlying61
 a24:=Tryz.isAgg61
 z24:=Tryz.sizeOf61
 v24:=Tryz.zeroValue61
 i9:=by kernel_rfl}
end Go.Proofs
namespace Go.Proofs.YtgmapdcdmomioaaGreatDoor.Pa
open Go Go.RowKit Go.Proofs.YtgmapdcdmomioaaGreatDoor.Am
def allStr:List Dat→Bool
 |[]=>true
 |.str _::l=>allStr l
 |_::_=>false
def strsOf:List Dat→List ByteArray
 |[]=>[]
 |.str s::l=>⟨s.toArray⟩::strsOf l
 |_::l=>ByteArray.empty::strsOf l
theorem strsOf_len:∀l,(strsOf l).length=l.length
 |[]=>rfl
 |x::l=>by cases x<;>simp[strsOf,strsOf_len l]
theorem strsOf_get:∀(l:List Dat),allStr l=true→∀(j:Nat) (x:Dat),l[j]?=some x→∃s:List UInt8,x=.str s∧(strsOf l)[j]?=some ⟨s.toArray⟩
 |[],_,j,x,h=>by cases j<;>cases h
 |.str s::l,ha,0,x,h=>by cases h;exact⟨s,rfl,rfl⟩
 |.str s::l,ha,j+1,x,h=>by
  obtain⟨s',h1,h2⟩:=strsOf_get l ha j x h
  exact⟨s',h1,h2⟩
def cloneSays:List Dat→Glob→Option (Out×Glob)
 |[.nil],g=>some (.val (.d (.sl 1 [])),g)
 |[.sl m xs],g|[.gsl _ m xs],g=>bif Nat.beq m 1&&allStr xs&&Nat.ble xs.length 8796093022208 then some (.val (.d (.sl 1 xs)),g) else none
 |_,_=>none
theorem cloneSays_inv{ds:List Dat}{g:Glob}{r:Out×Glob}(h:cloneSays ds g=some r):(ds=[.nil]∧r=(.val (.d (.sl 1 [])),g))∨∃xs,(ds=[.sl 1 xs]∨∃t,ds=[.gsl t 1 xs])∧allStr xs=true∧xs.length≤8796093022208∧r=(.val (.d (.sl 1 xs)),g):=by
 match ds,h with
 |[.nil],h=>cases h;exact .inl ⟨rfl,rfl⟩
 |[.sl m xs],h=>
  simp only[cloneSays] at h
  cases hc:(Nat.beq m 1&&allStr xs&&Nat.ble xs.length 8796093022208) with
  |false=>rw[hc] at h;cases h
  |true=>
   rw[hc] at h
   cases h
   simp only[Bool.and_eq_true] at hc
   obtain rfl:=Nat.eq_of_beq_eq_true hc.1.1
   exact .inr ⟨xs,.inl rfl,hc.1.2,Nat.le_of_ble_eq_true hc.2,rfl⟩
 |[.gsl t m xs],h=>
  simp only[cloneSays] at h
  cases hc:(Nat.beq m 1&&allStr xs&&Nat.ble xs.length 8796093022208) with
  |false=>rw[hc] at h;cases h
  |true=>
   rw[hc] at h
   cases h
   simp only[Bool.and_eq_true] at hc
   obtain rfl:=Nat.eq_of_beq_eq_true hc.1.1
   exact .inr ⟨xs,.inr ⟨t,rfl⟩,hc.1.2,Nat.le_of_ble_eq_true hc.2,rfl⟩
theorem imm_up{E:Em}{w w':World}{g:Glob}(hg:GRel E w g)(hb:Below w.heap.size w w'){b n:Nat}(h1:w.heap.size≤b)(h2:b<w'.heap.size):
 Up E w g.toks (E.newImm b n) w' g.toks∧GRel (E.newImm b n) w' g:=by
 have hu:Up E w g.toks (E.newImm b n) w' g.toks:={up_below hg hb with
  imm:=λb' o h=>.inl h
  cell:=(up_below hg hb).cell
  gb:=λ_ _=>rfl
  ng:=Nat.le_refl _
  gtoks:=λ_ _ n h=>⟨n,h,Nat.le_refl _,λ_=>rfl⟩
  gk:=λ_ _ n h=>⟨n,h,Nat.le_refl _,λ_=>rfl⟩
  tok:=λ_ _ h=>.inl h
  alien:=λb' h ho=>⟨hb.block b' h,ho,λo hi=>hi.elim id λe=>by omega⟩}
 refine⟨hu,?_⟩
 constructor
 case own_lt=>exact λb' ow h=>Nat.lt_of_lt_of_le (hg.own_lt b' ow h) hb.size
 case own_g=>exact hg.own_g
 case gk=>exact hg.gk
 case imm_lt=>exact λb' o h=>h.elim (λh=>Nat.lt_of_lt_of_le (hg.imm_lt b' o h) hb.size) λh=>by omega
 case ng=>exact hg.ng
 case boxes=>
  intro i bx h
  obtain⟨h1,h2,h3⟩:=hg.boxes i bx h
  exact⟨h1,λo hi=>hi.elim (h2 o) λe=>by have:=hg.own_lt _ _ h1;have:=e.1;simp only[Em.newImm] at this;omega,h3.up hu (hb.block _ (hg.own_lt _ _ h1))⟩
 case toks=>
  intro i m k h
  exact(hg.toks i m k h).up λb' hw=>⟨hb.block b' (hg.own_lt b' _ hw),hw,λo=>⟨λh=>h.elim id λe=>by have:=hg.own_lt b' _ hw;omega,.inl⟩⟩
theorem own_rep{E:Em}{w w':World}{g:Glob}(hg:GRel E w g)(hb:Below w.heap.size w w')(ho:GlobOnly E){xs:List Dat}(ha:allStr xs=true){e:TypeId}{v':Value}
 (hr:w'.ownsRow w.heap.size e 1 v' xs.length ((strsOf xs).map Value.string)):
 ∃E',Up E w g.toks E' w' g.toks∧GRel E' w' g∧GlobOnly E'∧Rep E' w' (.sl 1 xs) v':=by
 obtain⟨_,h|⟨b,cap,cur,rfl,hB,hc,hn,_,hz,ht⟩⟩:=hr
 ·obtain⟨rfl,h0⟩:=h
  cases xs with
  |cons=>cases h0
  |nil=>exact⟨E,up_below hg hb,hg.below hb,ho,.emp 1 none 0⟩
 ·have hlt:b<w'.heap.size:=(Array.getElem?_eq_some_iff.1 hc).1
  obtain⟨hu,hg'⟩:=imm_up (n:=xs.length) hg hb hB hlt
  refine⟨_,hu,hg',ho,?_⟩
  have cell:∀(j:Nat) x,xs[j]?=some x→∃s,x=.str s∧w'.cell? ⟨b,j,none⟩=some (.string ⟨s.toArray⟩):=λj x hx=>by
   obtain⟨s,rfl,h2⟩:=strsOf_get xs ha j x hx
   refine⟨s,rfl,?_⟩
   have hj:j<xs.length:=(List.getElem?_eq_some_iff.1 hx).1
   have h3:(cur.toList.take (xs.length*1))[j]?=some (.string ⟨s.toArray⟩):=by rw[ht,List.getElem?_map,h2];rfl
   rw[List.getElem?_take] at h3
   have h4:cur[j]?=some (.string ⟨s.toArray⟩):=by
    split at h3
    ·rw[←Array.getElem?_toList];exact h3
    ·cases h3
   simp only[World.cell?,hc]
   exact h4
  refine .sl 1 xs b 0 cap (λn=>match xs[n]? with|some (.str s)=>.string ⟨s.toArray⟩|_=>undef) hn (λx hx=>?_) (λi x hx j d hd=>?_) (λi x hx j d hd=>?_) (λi x hx j d hd=>?_) (λi x hx j d hd=>?_)
  ·obtain⟨j,hj,rfl⟩:=List.mem_iff_getElem.1 hx
   obtain⟨s,h1,_⟩:=cell j _ (List.getElem?_eq_getElem hj)
   rw[h1];rfl
  all_goals
   obtain⟨s,rfl,h1⟩:=cell i x hx
   have hi:i<xs.length:=(List.getElem?_eq_some_iff.1 hx).1
   match j,hd with
   |0,hd=>?_
  ·cases hd;rfl
  ·exact .inr ⟨rfl,by omega⟩
  ·have e1:i*1+0=i:=by omega
   have e2:0+i*1+0=i:=by omega
   simp only[e1,e2,hx]
   exact h1
  ·have e1:i*1+0=i:=by omega
   cases hd
   simp only[e1,hx]
   exact .str s
theorem cloneSays_ok{Bs:Em→World→Prop}:∀ds g out g',cloneSays ds g=some (out,g')→Am.Enters Tryz.prog 157∧∀E w vs,Bs E w→GRel E w g→GlobOnly E→ReL E w ds vs→Calls Tryz.prog 157 vs.toArray w (Post E w g out g'):=by
 intro ds g out g' hs
 refine⟨⟨Tryz.f157,Tryz.func157,by kernel_rfl,by kernel_rfl⟩,λE w vs hb hg ho hr=>?_⟩
 have zero:∀(a:Option Addr) (c:Nat),Calls Tryz.prog 157 #[.slice a 0 c] w λe w'=>∃v',e=.returned v'∧w'.ownsRow w.heap.size 9 1 v' 0 []∧Below w.heap.size w w':=λa c=>by
  cases a with
  |none=>
   refine(Any.slices_Clone_string_nil Tryz.laysNm216 0 c w).mono λe w' ⟨h1,h2⟩=>?_
   subst h2
   exact⟨_,h1,⟨rfl,.inl ⟨rfl,rfl⟩⟩,Below.refl _ _⟩
  |some a=>exact(Any.slices_Clone_string_zero Tryz.laysNm216 a c w).mono λe w' ⟨v',h1,h2,_,h4⟩=>⟨v',h1,h2,h4⟩
 have empty:∀(a:Option Addr) (c:Nat),Calls Tryz.prog 157 #[.slice a 0 c] w (Post E w g (.val (.d (.sl 1 []))) g):=λa c=>
  (zero a c).mono λe w' ⟨v',h1,h2,h3⟩=>by
   obtain⟨E',u1,u2,u3,u4⟩:=own_rep (xs:=[]) hg h3 ho rfl h2
   exact⟨E',u1,u2,u3,v',h1,u4⟩
 rcases cloneSays_inv hs with ⟨rfl,he⟩|⟨xs,hds,ha,hl,he⟩
 all_goals
  cases he
 ·obtain⟨v0,rfl⟩:∃v0,vs=[v0]:=by
   match vs,hr.1 with
   |[v0],_=>exact⟨v0,rfl⟩
  have h:=hr.2 0 _ _ rfl rfl
  cases h with
  |nil a=>exact empty a 0
 obtain⟨v0,rfl,h⟩:∃v0,vs=[v0]∧Rep E w (.sl 1 xs) v0:=by
  rcases hds with rfl|⟨t,rfl⟩
  ·match vs,hr.1 with
   |[v0],_=>exact⟨v0,rfl,hr.2 0 _ _ rfl rfl⟩
  ·match vs,hr.1 with
   |[v0],_=>
    have h:=hr.2 0 _ _ rfl rfl
    cases h with
    |gsl t m xs v n h=>exact⟨v0,rfl,h⟩
 ·cases h with
  |emp m a c=>exact empty a c
  |sl m xs b o c vs hc hm h1 h2 h3 h4=>
   have hzs:∀j,j<(strsOf xs).length→w.cell? ⟨b,o+j,none⟩=some (.string ((strsOf xs).getD j ByteArray.empty)):=λj hj=>by
    have hj':j<xs.length:=by rw[←strsOf_len];exact hj
    obtain⟨s,e1,e2⟩:=strsOf_get xs ha j _ (List.getElem?_eq_getElem hj')
    have e3:(strsOf xs).getD j ByteArray.empty=⟨s.toArray⟩:=by rw[List.getD_eq_getElem?_getD,e2];rfl
    rw[e3]
    have k1:=h3 j _ (List.getElem?_eq_getElem hj') 0 (.str s) (by rw[e1];rfl)
    have k2:=h4 j _ (List.getElem?_eq_getElem hj') 0 (.str s) (by rw[e1];rfl)
    have e4:o+j*1+0=o+j:=by omega
    have e5:j*1+0=j:=by omega
    rw[e4,e5] at k1
    rw[e5] at k2
    cases hv:vs j with
    |string=>rw[hv] at k1 k2;cases k2;exact k1
    |_=>rw[hv] at k2;cases k2
   refine(Any.slices_Clone_string Tryz.laysNm216 b o xs.length c (strsOf xs) w (by rw[strsOf_len];exact Nat.le_refl _) (by omega) hzs).mono λe w' ⟨v',h1,h2,_,h4⟩=>?_
   rw[←strsOf_len xs,List.take_length,strsOf_len] at h2
   obtain⟨E',u1,u2,u3,u4⟩:=own_rep hg h4 ho ha h2
   exact⟨E',u1,u2,u3,v',h1,u4⟩
end Go.Proofs.YtgmapdcdmomioaaGreatDoor.Pa
