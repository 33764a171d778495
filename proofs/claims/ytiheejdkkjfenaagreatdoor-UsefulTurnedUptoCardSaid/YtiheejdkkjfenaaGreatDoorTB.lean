/- slices.Repeat of one pattern. slices.Repeat of one pattern: the walk. So many patterns that meet whatever it is. So many patterns that meet whatever it is, as an answer of the plain machine. -/
import Derived.Laws.CopyOwn
import Derived.Test.YtiheejdkkjfenaaGreatDoorTA
import Derived.Deep.LoopGhost
import Derived.Deep.RegionLaw
import Derived.OwnWalk
import Derived.Lib.Hide
set_option linter.all false
set_option autoImplicit false
namespace Go.Proofs.YtiheejdkkjfenaaGreatDoor.Pa
open Go Go.RowKit Go.Proofs.YtiheejdkkjfenaaGreatDoor.Am
theorem run_copy_k{P:Program}(w:World)(dT sT ty elem:TypeId)(k g o dLen dCap:Nat)(a:Addr)(sLen sCap:Nat)(cur:Array Value)(t:TypeId)(cs:List Value)
 (hu:P.underlying dT=some (.slice elem)) (hs:(P.info? elem).map (·.size)=some k)
 (hg:w.heap[g]?=some (.cells cur t (0,0))) (hn:cs.length=Nat.min sLen dLen*k)
 (hsrc:∀j v,cs[j]?=some v→w.cell? (a.add j)=some v) (hfit:o+cs.length≤cur.size) (h1:∀v∈cs,v.oneCell'=true):
 (Builtin.copy_ #[dT,sT] ty #[.slice (some ⟨g,o,none⟩) dLen dCap,.slice (some a) sLen sCap]).run P w=
  .ok (goInt (Nat.min sLen dLen)) (w.setRow g (cur.toList.take o++cs++cur.toList.drop (o+cs.length)).toArray):=by
 have hl:=run_loadCells_list (P:=P) w a cs hsrc
 have hst:=run_storeCells_at P g o t cs 0 cur w hg (by simpa using hfit) h1
 cases hq:P.info? elem with
 |none=>simp[hq] at hs
 |some i=>
  have hi:i.size=k:=by simpa[hq] using hs
  simp[Builtin.copy_,run_underlying hu,Builtin.lenOf,Builtin.firstCells,Go.sizeOf,typeInfo,hq,hi,←hn,hl,hst]
theorem run_copy_zero{P:Program}(w:World)(dT sT ty elem:TypeId)(k:Nat)(d a:Option Addr)(dLen dCap sLen sCap:Nat)(hu:P.underlying dT=some (.slice elem))(hs:(P.info? elem).map (·.size)=some k)(hn:Nat.min sLen dLen=0):
 (Builtin.copy_ #[dT,sT] ty #[.slice d dLen dCap,.slice a sLen sCap]).run P w=.ok (goInt 0) w:=by
 cases hq:P.info? elem with
 |none=>simp[hq] at hs
 |some i=>
  have hl:∀(x:Addr),(loadCells x 0).run P w=.ok #[] w:=λx=>by simpa using run_loadCells_list (P:=P) w x [] (by simp)
  cases d<;>cases a<;>simp[Builtin.copy_,run_underlying hu,Builtin.lenOf,Builtin.firstCells,Go.sizeOf,typeInfo,hq,hn,storeCells,hl]
theorem wpList_copy_run{P:Program}{w:World}{ops:Array Oper}{rest:List Oper}{o:Oper}{a:Act}{Q:Exit→Act→World→Prop}(hgd:o.guard=none)(d s:Operand)(dT sT:TypeId)
 (ho:o.op=.call {callee:=.builtin .copy,args:=#[d,s],argTypes:=#[dT,sT]}) (dv sv:Value) (hd:a.eval d=dv) (hs:a.eval s=sv) (v:Value) (w':World)
 (hrun:∀ty,(Builtin.copy_ #[dT,sT] ty #[dv,sv]).run P w=.ok v w') (h:wpList P ops Q rest (a.put o.dst v) w'):wpList P ops Q (o::rest) a w:=by
 refine wpList_plain hgd λK hK=>?_
 have hrun:=hrun o.type
 unfold Oper.wp
 simp[execOp,ho,resolve,invoke,builtin,hd,hs,hrun,Result.andThen]
 exact hK _ _ h
theorem step_copy_run{P:Program}{ops:Array Oper}{o:Oper}{a:Act}{w:World}{K:Act→World→Prop}{Q:Exit→Act→World→Prop}{E:Prop}(hgd:o.guard=none)(d s:Operand)(dT sT:TypeId)
 (ho:o.op=.call {callee:=.builtin .copy,args:=#[d,s],argTypes:=#[dT,sT]}) (dv sv:Value) (hd:a.eval d=dv) (hs:a.eval s=sv) (v:Value) (w':World)
 (hrun:∀ty,(Builtin.copy_ #[dT,sT] ty #[dv,sv]).run P w=.ok v w') (h:K (a.put o.dst v) w'):
 if Region.wanted o (yielded ops a.tmps)=true then Oper.wp P o a w K Q else E:=by
 have hw:Region.wanted o (yielded ops a.tmps)=true:=by simp[Region.wanted,hgd]
 rw[if_pos hw]
 have hrun:=hrun o.type
 unfold Oper.wp
 simp[execOp,ho,resolve,invoke,builtin,hd,hs,hrun,Result.andThen]
 exact h
def Reps(pc:List Value)(k:Nat)(cur:Array Value):Prop:=∀j,j<k*5→cur[j]?=pc[j%5]?
theorem Reps.more{pc:List Value}{k m:Nat}{cur:Array Value}(h:Reps pc k cur){cs:List Value}(hcs:cs.length=m*5)(hc:∀j,j<m*5→cs[j]?=pc[j%5]?)(hfit:k*5+m*5≤cur.size):
 Reps pc (k+m) (cur.toList.take (k*5)++cs++cur.toList.drop (k*5+cs.length)).toArray:=by
 intro j hj
 have hl:(cur.toList.take (k*5)).length=k*5:=by simp;omega
 rw[List.getElem?_toArray,List.append_assoc,List.getElem?_append,hl]
 by_cases h1:j<k*5
 ·rw[if_pos h1,List.getElem?_take,if_pos h1,Array.getElem?_toList]
  exact h j h1
 ·rw[if_neg h1,List.getElem?_append,if_pos (by omega),hc _ (by omega)]
  congr 1
  omega
theorem Reps.size{k m:Nat}{cur:Array Value}{cs:List Value}(hcs:cs.length=m*5)(hfit:k*5+m*5≤cur.size):
 (cur.toList.take (k*5)++cs++cur.toList.drop (k*5+cs.length)).toArray.size=cur.size:=by
 simp
 omega
theorem run_turn{P:Program}{w:World}{dT sT elem:TypeId}(hu:P.underlying dT=some (.slice elem))(hs:(P.info? elem).map (·.size)=some 5){g n k:Nat}{cur:Array Value}{t:TypeId}{pc:List Value}
 (hg:w.heap[g]?=some (.cells cur t (0,0))) (hsz:cur.size=n*5) (hr:Reps pc k cur) (hk:k<n) (hpc:pc.length=5) (h1:∀v∈pc,v.oneCell'=true):
 ∃m cur',m=Nat.min k (n-k)∧cur'.size=n*5∧Reps pc (k+m) cur'∧∀ty,(Builtin.copy_ #[dT,sT] ty #[.slice (some ⟨g,k*5,none⟩) (n-k) (n-k),.slice (some ⟨g,0,none⟩) k n]).run P w=.ok (.int .i64 (m:Int)) (w.setRow g cur'):=by
 obtain⟨m,hm⟩:∃m,m=Nat.min k (n-k):=⟨_,rfl⟩
 have hm1:m≤k:=by rw[hm];exact Nat.min_le_left _ _
 have hm2:m≤n-k:=by rw[hm];exact Nat.min_le_right _ _
 obtain⟨cs,hcs⟩:∃cs,cs=cur.toList.take (m*5):=⟨_,rfl⟩
 have hl:cs.length=m*5:=by rw[hcs];simp;omega
 have hc:∀j,j<m*5→cs[j]?=pc[j%5]?:=λj hj=>by
  rw[hcs,List.getElem?_take,if_pos hj,Array.getElem?_toList]
  exact hr j (by omega)
 refine⟨m,(cur.toList.take (k*5)++cs++cur.toList.drop (k*5+cs.length)).toArray,hm,?_,hr.more hl hc (by omega),λty=>?_⟩
 ·rw[Reps.size hl (by omega)];exact hsz
 ·have:=run_copy_k (P:=P) w dT sT ty elem 5 g (k*5) (n-k) (n-k) ⟨g,0,none⟩ k n cur t cs hu hs hg (by rw[←hm];exact hl) (λj v hj=>?_) (by omega) (λv hv=>?_)
  ·rw[this,←hm];rfl
  ·have hjl:j<m*5:=by rw[←hl];exact(List.getElem?_eq_some_iff.1 hj).1
   rw[Addr.add_lit]
   rw[hcs,List.getElem?_take,if_pos hjl,Array.getElem?_toList] at hj
   simp[World.cell?,hg,hj]
  ·obtain⟨j,hj⟩:=List.mem_iff_getElem?.1 hv
   have hjl:j<m*5:=by rw[←hl];exact(List.getElem?_eq_some_iff.1 hj).1
   rw[hc j hjl] at hj
   exact h1 v (List.mem_of_getElem? hj)
end Go.Proofs.YtiheejdkkjfenaaGreatDoor.Pa
namespace Go.Proofs.YtiheejdkkjfenaaGreatDoor.Pa
open Go Go.RowKit Go.Proofs.YtiheejdkkjfenaaGreatDoor.Am
theorem run_first{P:Program}{w:World}{dT sT elem:TypeId}(hu:P.underlying dT=some (.slice elem))(hs:(P.info? elem).map (·.size)=some 5){g n b o c:Nat}{cur:Array Value}{t:TypeId}{pc:List Value}
 (hg:w.heap[g]?=some (.cells cur t (0,0))) (hsz:cur.size=n*5) (h0:0<n) (hpc:pc.length=5) (h1:∀v∈pc,v.oneCell'=true) (hsrc:∀j v,pc[j]?=some v→w.cell? ⟨b,o+j,none⟩=some v):
 ∃cur',cur'.size=n*5∧Reps pc 1 cur'∧∀ty,(Builtin.copy_ #[dT,sT] ty #[.slice (some ⟨g,0,none⟩) n n,.slice (some ⟨b,o,none⟩) 1 c]).run P w=.ok (.int .i64 1) (w.setRow g cur'):=by
 have hmin:Nat.min 1 n=1:=Nat.min_eq_left (by omega)
 have hm:Reps pc (0+1) (cur.toList.take (0*5)++pc++cur.toList.drop (0*5+pc.length)).toArray:=
  Reps.more (pc:=pc) (k:=0) (m:=1) (cur:=cur) (λj hj=>by omega) (by omega) (λj hj=>by rw[Nat.mod_eq_of_lt (by omega)]) (by omega)
 refine⟨_,?_,hm,λty=>?_⟩
 ·rw[Reps.size (k:=0) (m:=1) (by omega) (by omega)];exact hsz
 ·have:=run_copy_k (P:=P) w dT sT ty elem 5 g 0 n n ⟨b,o,none⟩ 1 c cur t pc hu hs hg (by rw[hmin];omega) (λj v hj=>by rw[Addr.add_lit];exact hsrc j v hj) (by omega) h1
  rw[this,hmin]
  rfl
theorem hsPat:(Tryz.prog.info? 52).map (·.size)=some 5:=by kernel_rfl
set_option maxHeartbeats 600000 in
set_option maxRecDepth 100000 in
theorem repeat_calls(b o c n:Nat)(pc:List Value)(hpc:pc.length=5)(h1:∀v∈pc,v.oneCell'=true)(h0:0<n)(hn:n≤1099511627776)(w:World)(hsrc:∀j v,pc[j]?=some v→w.cell? ⟨b,o+j,none⟩=some v):
 Calls Tryz.prog 73 #[.slice (some ⟨b,o,none⟩) 1 c,.int .i64 n] w λe w'=>∃cur t,e=.returned (.slice (some ⟨w.heap.size,0,none⟩) n n)∧w'.heap[w.heap.size]?=some (.cells cur t (0,0))∧cur.size=n*5∧Reps pc n cur∧Below w.heap.size w w':=by
 obtain⟨i0,hi,hz0,hz1,hz2⟩:=info_parts infoPat
 have t22:=Tryz.underlying24
 have u22:∀w,Sem.run Tryz.prog (underlying 24) w=.ok (TypeDesc.slice 52) w:=run_underlying t22
 have hMul:=Tryz.bits_Mul 1 n (by omega) (by omega) w
 rw[Nat.one_mul,Nat.div_eq_of_lt (by omega:n<18446744073709551616),Nat.mod_eq_of_lt (by omega:n<18446744073709551616)] at hMul
 have HSRC:Aside (∀j v,pc[j]?=some v→w.cell? ⟨b,o+j,none⟩=some v):=hsrc
 have H1:Aside (∀v∈pc,v.oneCell'=true):=h1
 clear hsrc h1
 have k1:¬((n:Int)<0):=by omega
 have k2:¬((n:Int)>9223372036854775807):=by omega
 go_enter Tryz.func73,Tryz.ntmps73
 go_wp2_with (first|(go_at_call 121;refine hMul.mono ?_;rintro e w' ⟨rfl,hw⟩;rw[hw])|(at_make;refine wpList_make_full _ rfl _ _ 24 rfl w.heap.size 52 i0 _ 5 t22 hi hz0 hz1 _ _ _ _ n rfl rfl rfl rfl (by rw[hz2];omega) (by unfold maxLen;omega) (Nat.le_refl _) ?_))
 intro w1 hown hgr
 obtain⟨G,hG⟩:∃G,G=w.heap.size:=⟨_,rfl⟩
 have hb1:Below w.heap.size w w1:=(Below.refl _ w).grown hgr (Nat.le_refl _) (by intro k hk;cases hk)
 obtain⟨cur0,hc0,hz0'⟩:∃cur0,w1.heap[G]?=some (.cells cur0 52 (0,0))∧cur0.size=n*5:=by
  obtain⟨_,hh|⟨b',cap,cur,he,hB,hc',hn',_,hz,ht⟩⟩:=hown
  ·cases hh.1
  ·cases he;rw[hG];exact⟨cur,hc',hz⟩
 have hbl:b<w.heap.size:=World.block_lt_of_cell? w ⟨b,o+0,none⟩ (HSRC.out 0 pc[0] (List.getElem?_eq_getElem (by omega)))
 obtain⟨cur1,hz1',hr1,hrun1⟩:=run_first (c:=c) (sT:=24) t22 hsPat hc0 hz0' h0 hpc H1.out (λj v hj=>(hb1.cell hbl).trans (HSRC.out j v hj))
 have hc1:(w1.setRow G cur1).heap[G]?=some (.cells cur1 52 (0,0)):=setRow_heap w1 G cur0 _ _ _ hc0
 have hb2:Below w.heap.size w (w1.setRow G cur1):=below_setRow hb1 (by omega) _
 rw[←hG]
 obtain⟨w2,hw2⟩:∃w2,w2=w1.setRow G cur1:=⟨_,rfl⟩
 rw[←hw2] at hrun1 hc1 hb2
 have HC:=Lib.hid hc1
 have HZ:=Lib.hid hz1'
 have HR:=Lib.hid hr1
 have HB:=Lib.hid hb2
 clear hc1 hz1' hr1 hb2 hc0 hz0' hb1 hown hgr hw2 hMul
 go_wp2_with (with_reducible refine wpList_copy_run (o:=⟨some 33,_,_,_,_,_⟩) rfl _ _ _ _ rfl _ _ rfl rfl _ _ hrun1 ?_)
 rw[←hG,hrun1]
 simp only[Result.andThen]
 rw[Oper.upon_value]
 go_wp2_with fail
 subst hG
 go_loopg [8] (n-1) (λg x8 wr=>∃(k:Nat) (cur:Array Value),k+g=n∧x8=.int .i64 k∧Hid (1≤k∧k≤n)∧Hid (wr.heap[w.heap.size]?=some (.cells cur 52 (0,0)))∧Hid (cur.size=n*5)∧Hid (Reps pc k cur)∧Hid (Below w.heap.size w wr))
 case atStart=>exact⟨1,cur1,by omega,rfl,Lib.hid ⟨Nat.le_refl _,h0⟩,HC,HZ,HR,HB⟩
 case round=>
  obtain⟨k,cur,hk,rfl,HK,HC,HZ,HR,HB⟩:=hrel
  by_cases hlt:k<n
  ·obtain⟨m,cur',hm,hz',hr',hrun'⟩:=run_turn (dT:=24) (sT:=24) (w:=wr.drew) t22 hsPat HC.out HZ.out HR.out hlt hpc H1.out
   have hc':(wr.drew.setRow w.heap.size cur').heap[w.heap.size]?=some (.cells cur' 52 (0,0)):=setRow_heap wr.drew w.heap.size cur _ _ _ HC.out
   have hb':Below w.heap.size w (wr.drew.setRow w.heap.size cur'):=below_setRow HB.out.drew (by omega) _
   have hm1:1≤m:=by have:=HK.out.1;rw[hm];exact Nat.le_min.2 ⟨by omega,by omega⟩
   have hm2:k+m≤n:=by
    have:m≤n-k:=by rw[hm];exact Nat.min_le_right _ _
    omega
   have HC':=Lib.hid hc'
   have HZ':=Lib.hid hz'
   have HR':=Lib.hid hr'
   have HB':=Lib.hid hb'
   clear hc' hz' hr' hb' hm
   have k3:k≤n:=by omega
   have k4:¬n=k:=by omega
   have k5:IntKind.i64.wrap ((k:Int)+(m:Int))=((k+m:Nat):Int):=by rw[IntKind.wrap_i64];omega
   go_wp2_with fail
   go_region_law (refine step_copy_run rfl (.tmp 41) (.tmp 44) 24 24 rfl (.slice (some ⟨w.heap.size,k*5,none⟩) (n-k) (n-k)) (.slice (some ⟨w.heap.size,0,none⟩) k n) ?hd ?hs (.int .i64 (m:Int)) (wr.drew.setRow w.heap.size cur') hrun' ?_)
   go_wp2_with fail
   go_roundg (n-(k+m))
   case measure=>omega
   case rel=>exact⟨k+m,cur',by omega,congrArg (Value.int .i64) (by omega),Lib.hid ⟨by omega,hm2⟩,HC',HZ',HR',HB'⟩
  ·have hkn:k=n:=by have:=HK.out.2;omega
   subst hkn
   go_wp2_with fail
   go_ret
   exact⟨cur,_,rfl,HC.out,HZ.out,HR.out,HB.out⟩
end Go.Proofs.YtiheejdkkjfenaaGreatDoor.Pa
namespace Go.Proofs.YtiheejdkkjfenaaGreatDoor.Pa
open Go Go.RowKit Go.Proofs.YtiheejdkkjfenaaGreatDoor.Am
def anyCells:List Value:=[.int .i64 1,.string ⟨#[]⟩,.int .i64 0,.slice none 0 0,.int .i64 0]
set_option maxHeartbeats 1000000 in
set_option maxRecDepth 100000 in
theorem wilds_some(n:Nat)(h0:0<n)(hn:n≤1099511627776)(w:World):
 Calls Tryz.prog 44 #[.int .i64 n] w λe w'=>∃b cur t,e=.returned (.slice (some ⟨b,0,none⟩) n n)∧w.heap.size≤b∧w'.heap[b]?=some (.cells cur t (0,0))∧cur.size=n*5∧Reps anyCells n cur∧Below w.heap.size w w':=by
 go_enter Tryz.func44,Tryz.ntmps44
 go_wp2_with (go_at_call 73;refine(repeat_calls _ 0 1 n anyCells rfl (by decide) h0 hn _ ?_).mono ?_)
 ·intro j v hj
  have h:=(pushed_alloc w (.cells #[.int .i64 1,.string ⟨#[]⟩,.int .i64 0,.slice none 0 0,.int .i64 0] 52)).new
  have hj':(#[.int .i64 1,.string ⟨#[]⟩,.int .i64 0,.slice none 0 0,.int .i64 0]:Array Value)[j]?=some v:=by rw[←hj];simp[anyCells]
  simp only[World.cell?,h,Nat.zero_add]
  exact hj'
 ·rintro e w' ⟨cur,t,rfl,hc,hs,hr,hb⟩
  have hsz:=(pushed_alloc w (.cells #[.int .i64 1,.string ⟨#[]⟩,.int .i64 0,.slice none 0 0,.int .i64 0] 52)).size
  have hb':Below w.heap.size w w':=((Below.refl _ w).alloc (Nat.le_refl _) _).trans (hb.mono (by omega))
  rw[hsz] at hc
  have HH:=Lib.hid (And.intro hc (And.intro hs (And.intro hr hb')))
  clear hc hs hr hb hb'
  go_wp2_with fail
  go_ret
  obtain⟨hc,hs,hr,hb⟩:=HH.out
  exact⟨_,cur,t,rfl,by omega,hc,hs,hr,hb⟩
set_option maxHeartbeats 1000000 in
set_option maxRecDepth 100000 in
theorem repeat_zero(b o c:Nat)(w:World):
 Calls Tryz.prog 73 #[.slice (some ⟨b,o,none⟩) 1 c,.int .i64 0] w λe w'=>(∃a k,e=.returned (.slice a 0 k))∧Below w.heap.size w w':=by
 obtain⟨i0,hi,hz0,hz1,hz2⟩:=info_parts infoPat
 have t22:=Tryz.underlying24
 have u22:∀w,Sem.run Tryz.prog (underlying 24) w=.ok (TypeDesc.slice 52) w:=run_underlying t22
 have hMul:=Tryz.bits_Mul 1 0 (by omega) (by omega) w
 go_enter Tryz.func73,Tryz.ntmps73
 go_wp2_with (first|(go_at_call 121;refine hMul.mono ?_;rintro e w' ⟨rfl,hw⟩;rw[hw])|(at_make;refine wpList_make_full _ rfl _ _ 24 rfl w.heap.size 52 i0 _ 5 t22 hi hz0 hz1 _ _ _ _ 0 rfl rfl rfl rfl (by rw[hz2];omega) (by unfold maxLen;omega) (Nat.le_refl _) ?_))
 intro w1 hown hgr
 have HB:=Lib.hid ((Below.refl _ w).grown hgr (Nat.le_refl _) (by intro k hk;cases hk))
 have hrun:=λty=>run_copy_zero (P:=Tryz.prog) w1 24 24 ty 52 5 (some ⟨w.heap.size,0,none⟩) (some ⟨b,o,none⟩) 0 0 1 c t22 hsPat rfl
 clear hown hgr hMul
 go_wp2_with fail
 refine wp_loop_rounds 1 ?_
 rw[rounds_succ]
 go_wp2_with fail
 go_ret
 exact⟨⟨_,_,rfl⟩,HB.out⟩
end Go.Proofs.YtiheejdkkjfenaaGreatDoor.Pa
namespace Go.Proofs.YtiheejdkkjfenaaGreatDoor.Pa
open Go Go.RowKit Go.Proofs.YtiheejdkkjfenaaGreatDoor.Am
theorem imm_up{E:Em}{w w':World}{g:Glob}(hg:GRel E w g)(hb:Below w.heap.size w w'){b n:Nat}(h1:w.heap.size≤b)(h2:b<w'.heap.size):
 Up E w g.toks (E.newImm b n) w' g.toks∧GRel (E.newImm b n) w' g:=by
 have hu:Up E w g.toks (E.newImm b n) w' g.toks:={up_below hg hb with
  imm:=λb' o h=>.inl h
  cell:=(up_below hg hb).cell
  gb:=λ_ _=>rfl
  ng:=Nat.le_refl _
  gtoks:=λ_ _ n h=>⟨n,h,Nat.le_refl _,λ_=>rfl⟩
  gk:=λ_ _ n h=>⟨n,h,Nat.le_refl _,λ_=>rfl⟩
  tok:=λ_ _ h=>.inl h
  alien:=λb' h ho=>⟨hb.block b' h,ho,λo hi=>hi.elim id λe=>by omega⟩}
 refine⟨hu,?_⟩
 constructor
 case own_lt=>exact λb' ow h=>Nat.lt_of_lt_of_le (hg.own_lt b' ow h) hb.size
 case own_g=>exact hg.own_g
 case gk=>exact hg.gk
 case imm_lt=>exact λb' o h=>h.elim (λh=>Nat.lt_of_lt_of_le (hg.imm_lt b' o h) hb.size) λh=>by omega
 case ng=>exact hg.ng
 case boxes=>
  intro i bx h
  obtain⟨h1,h2,h3⟩:=hg.boxes i bx h
  exact⟨h1,λo hi=>hi.elim (h2 o) λe=>by have:=hg.own_lt _ _ h1;have:=e.1;simp only[Em.newImm] at this;omega,h3.up hu (hb.block _ (hg.own_lt _ _ h1))⟩
 case toks=>
  intro i m k h
  exact(hg.toks i m k h).up λb' hw=>⟨hb.block b' (hg.own_lt b' _ hw),hw,λo=>⟨λh=>h.elim id λe=>by have:=hg.own_lt b' _ hw;omega,.inl⟩⟩
set_option maxHeartbeats 1000000 in
set_option maxRecDepth 100000 in
theorem wilds_zero(w:World):Calls Tryz.prog 44 #[.int .i64 0] w λe w'=>(∃a k,e=.returned (.slice a 0 k))∧Below w.heap.size w w':=by
 go_enter Tryz.func44,Tryz.ntmps44
 go_wp2_with (go_at_call 73;refine(repeat_zero _ 0 1 _).mono ?_)
 rintro e w' ⟨⟨a,k,rfl⟩,hb⟩
 have hsz:=(pushed_alloc w (.cells #[.int .i64 1,.string ⟨#[]⟩,.int .i64 0,.slice none 0 0,.int .i64 0] 52)).size
 have HB:=Lib.hid (((Below.refl _ w).alloc (Nat.le_refl _) _).trans (hb.mono (by omega)):Below w.heap.size w w')
 clear hb
 go_wp2_with fail
 go_ret
 exact⟨⟨_,_,rfl⟩,HB.out⟩
def anyPat:Dat:=.agg [.int .i64 1,.str [],.int .i64 0,.nil,.int .i64 0]
def wildSays:List Dat→Glob→Option (Out×Glob)
 |[.int .i64 (.ofNat n)],g=>bif Nat.ble n 1099511627776 then some (.val (.d (.sl 5 (List.replicate n anyPat))),g) else none
 |_,_=>none
theorem wildSays_inv{ds:List Dat}{g:Glob}{r:Out×Glob}(h:wildSays ds g=some r):∃n:Nat,ds=[.int .i64 n]∧n≤1099511627776∧r=(.val (.d (.sl 5 (List.replicate n anyPat))),g):=by
 match ds,h with
 |[.int .i64 (.ofNat n)],h=>
  simp only[wildSays] at h
  cases hc:Nat.ble n 1099511627776 with
  |false=>rw[hc] at h;cases h
  |true=>rw[hc] at h;cases h;exact⟨n,rfl,Nat.le_of_ble_eq_true hc,rfl⟩
theorem any_rep(E:Em)(w:World):∀(j:Nat) d,anyPat.cells[j]?=some d→d.one=true∧∃u,anyCells[j]?=some u∧Rep E w d u:=by
 intro j d h
 match j,h with
 |0,h=>cases h;exact⟨rfl,_,rfl,.int _ _⟩
 |1,h=>cases h;exact⟨rfl,_,rfl,.str []⟩
 |2,h=>cases h;exact⟨rfl,_,rfl,.int _ _⟩
 |3,h=>cases h;exact⟨rfl,_,rfl,.nil _⟩
 |4,h=>cases h;exact⟨rfl,_,rfl,.int _ _⟩
theorem wildSays_ok{Bs:Em→World→Prop}:∀ds g out g',wildSays ds g=some (out,g')→Am.Enters Tryz.prog 44∧∀E w vs,Bs E w→GRel E w g→GlobOnly E→ReL E w ds vs→Calls Tryz.prog 44 vs.toArray w (Post E w g out g'):=by
 intro ds g out g' hs
 obtain⟨n,rfl,hn,he⟩:=wildSays_inv hs
 cases he
 refine⟨⟨Tryz.f44,Tryz.func44,by kernel_rfl,by kernel_rfl⟩,λE w vs hb hg ho hr=>?_⟩
 obtain⟨v0,rfl⟩:∃v0,vs=[v0]:=by
  match vs,hr.1 with
  |[v0],_=>exact⟨v0,rfl⟩
 have h0:=hr.2 0 _ _ rfl rfl
 cases h0
 rcases Nat.eq_zero_or_pos n with rfl|h0
 ·refine(wilds_zero w).mono λe w' ⟨⟨a,k,he⟩,hb⟩=>?_
  subst he
  exact⟨E,up_below hg hb,hg.below hb,ho,_,rfl,.emp 5 a k⟩
 ·refine(wilds_some n h0 hn w).mono λe w' ⟨b,cur,t,he,hB,hc,hs,hr,hb⟩=>?_
  subst he
  have hlt:b<w'.heap.size:=(Array.getElem?_eq_some_iff.1 hc).1
  obtain⟨hu,hg'⟩:=imm_up (n:=n*5) hg hb hB hlt
  refine⟨_,hu,hg',ho,_,rfl,?_⟩
  have:=Rep.sl_of (E:=E.newImm b (n*5)) (w:=w') (m:=5) (xs:=List.replicate n anyPat) (b:=b) (o:=0) (c:=n) (by simp) (λx hx=>by rw[(List.mem_replicate.1 hx).2];rfl) (λi x hx j d hd=>by
   obtain rfl:x=anyPat:=(List.mem_replicate.1 (List.mem_of_getElem? hx)).2
   have hi:i<n:=by simpa using(List.getElem?_eq_some_iff.1 hx).1
   have hj:j<5:=(List.getElem?_eq_some_iff.1 hd).1
   obtain⟨q1,u,q2,q3⟩:=any_rep (E.newImm b (n*5)) w' j d hd
   refine⟨q1,.inr ⟨rfl,by omega⟩,u,?_,q3⟩
   have h:=hr (i*5+j) (by omega)
   rw[show(i*5+j)%5=j by omega,q2] at h
   simp only[Nat.zero_add,World.cell?,hc,Option.isSome_none,Bool.false_eq_true,if_false]
   simpa using h)
  have h:Rep (E.newImm b (n*5)) w' (.sl 5 (List.replicate n anyPat)) (.slice (some ⟨b,0,none⟩) n n):=by simpa using this
  exact h
end Go.Proofs.YtiheejdkkjfenaaGreatDoor.Pa
