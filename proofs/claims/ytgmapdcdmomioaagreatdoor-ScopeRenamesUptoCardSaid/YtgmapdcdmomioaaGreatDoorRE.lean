/- What comes in, as plain data: of any types of numbers, words, structs and slices of such. (one_le, part_le, length_le are three small lemmas turned from the folder how-to-prove-an-upto-statement.) What every law's end needs: the library's errors lie in memory; how arguments are opened. -/
import Derived.Test.YtgmapdcdmomioaaGreatDoorRC
import Derived.Test.YtgmapdcdmomioaaGreatDoorRows
import Derived.ProofKit
import Derived.OpenShut
import Derived.JoinedCond
import Derived.Deep.Slices
import Derived.Lib.SmallJoins
import Derived.Test.YtgmapdcdmomioaaGreatDoorTie
import Derived.LaidMore
import Derived.MakeChecks
import Derived.Carry
import Derived.Stop.LaidErr
import Derived.Deep.DeepHandedRow
import Derived.Deep.DeepWitnessRef
set_option linter.all false
set_option autoImplicit false
set_option maxRecDepth 100000
namespace Go.Proofs.YtgmapdcdmomioaaGreatDoor.Pa
open Go Go.Proofs.YtgmapdcdmomioaaGreatDoor.Am Go.ChangeShapes Go.WideShapes Go.ChangeAt Go.RowKit
theorem one_le{H:Type}(d:DataW H):1≤Rows.uptoBulk d:=by
 cases d with
 |lit l=>cases l<;>simp[Rows.uptoBulk]
 |nil=>simp[Rows.uptoBulk]
 |ptr d=>simp[Rows.uptoBulk]
 |slice elems spare=>simp[Rows.uptoBulk]
 |agg parts=>simp[Rows.uptoBulk]
 |iface t d=>simp[Rows.uptoBulk]
 |map entries=>simp[Rows.uptoBulk]
 |held h=>simp[Rows.uptoBulk]
theorem part_le{H:Type}{d:DataW H}{l:List (DataW H)}(h:d∈l):Rows.uptoBulk d≤Rows.uptoBulkAll l:=by
 induction l with
 |nil=>cases h
 |cons x r ih=>
  simp only[Rows.uptoBulkAll]
  cases List.mem_cons.1 h with
  |inl e=>subst e;omega
  |inr e=>have:=ih e;omega
theorem length_le{H:Type}(l:List (DataW H)):l.length≤Rows.uptoBulkAll l:=by
 induction l with
 |nil=>simp[Rows.uptoBulkAll]
 |cons x r ih=>have:=one_le x;simp only[Rows.uptoBulkAll,List.length_cons];omega
noncomputable def fieldsOk(G:List TypeId):List Field→Nat→Option Nat
 |[],o=>some o
 |f::fs,o=>if G.contains f.type&&f.offset==o then fieldsOk G fs (o+Tryz.prog.cellsOf f.type) else none
noncomputable def layCat:List Field→Option (List TypeId)
 |[]=>some []
 |f::fs=>match lay TT f.type,layCat fs with
  |some a,some b=>some (a++b)
  |_,_=>none
noncomputable def good1(G:List TypeId)(t:TypeId):Bool:=
 match Tryz.prog.underlying t with
 |some (.int _)|some .bool|some .string=>true
 |some (.slice e)=>G.contains e&&TT.size e==some (Tryz.prog.cellsOf e)&&Nat.blt 0 (Tryz.prog.cellsOf e)&&(match TT.bytes e with|some b=>Nat.ble b (2^20)|none=>true)
 |some (.struct fs)=>fieldsOk G fs.toList 0==some (Tryz.prog.cellsOf t)&&lay TT t==layCat fs.toList&&(lay TT t).isSome
 |_=>false
noncomputable def goods(G:List TypeId):Bool:=G.all (good1 G)
section
variable{H:Type}{enc:TypeId×Value→H}{W:World}{base:Nat}{spare:Nat→Bool}{held:Bool}{G:List TypeId}
inductive StrB:Dat→Prop where
 |bool (b:Bool):StrB (.bool b)
 |int (k:IntKind) (n:Int):StrB (.int k n)
 |str (s:List UInt8) (h:s.length≤2^21):StrB (.str s)
 |nil:StrB .nil
 |sl (m:Nat) (xs:List Dat) (hl:xs.length≤2^21) (h:∀x∈xs,StrB x):StrB (.sl m xs)
 |agg (cs:List Dat) (h:∀c∈cs,StrB c):StrB (.agg cs)
def Opened(W:World)(t:TypeId)(cs:List Value):Prop:=
 ∃ds tys,lay TT t=some tys∧CellsTy tys ds∧(∀d∈ds,d.one=true)∧Els (Rep (startE W.heap.size) W) ds cs∧∀d∈ds,StrB d
theorem opened_one{t:TypeId}{d:Dat}{v:Value}(ha:isAgg? (TT.und t)=false)(ht:HasTy TT t d)(hr:Rep (startE W.heap.size) W d v)(hs:StrB d):Opened W t [v]:=by
 have hd:∃D,TT.und t=some D:=by
  cases hu:TT.und t with
  |none=>exfalso;cases ht<;>simp_all[isB0,isP0,isI0,z0,isB,isP,isL,isM,isF,isI,isAgg?]
  |some D=>exact⟨D,rfl⟩
 obtain⟨D,hd⟩:=hd
 exact⟨[d],[t],lay_one hd ha,⟨ht,trivial⟩,by simpa using ht.one_inv ha,Els.cons hr ⟨rfl,λj a b h=>by simp at h⟩,by simpa using hs⟩
theorem cellsTy_append:∀{a b:List TypeId} {x y:List Dat},CellsTy a x→CellsTy b y→CellsTy (a++b) (x++y)
 |[],b,[],y,_,h=>h
 |[],b,_::_,y,h,_=>h.elim
 |_::_,b,[],y,h,_=>h.elim
 |t::a,b,c::x,y,h,h'=>⟨h.1,cellsTy_append h.2 h'⟩
theorem Els.append{α β:Type}{R:α→β→Prop}{a c:List α}{b d:List β}(h:Els R a b)(h':Els R c d):Els R (a++c) (b++d):=by
 refine⟨by simp[h.1,h'.1],λj x y hx hy=>?_⟩
 by_cases hj:j<a.length
 ·rw[List.getElem?_append_left hj] at hx
  rw[List.getElem?_append_left (by rw[←h.1];exact hj)] at hy
  exact h.2 j x y hx hy
 ·rw[List.getElem?_append_right (by omega)] at hx
  rw[List.getElem?_append_right (by rw[←h.1];omega)] at hy
  rw[←h.1] at hy
  exact h'.2 _ x y hx hy
theorem opened_el{t:TypeId}{cs:List Value}(h:Opened W t cs)(hne:cs≠[]):∃d,HasTy TT t d∧(∀c∈d.cells,c.one=true)∧Els (Rep (startE W.heap.size) W) d.cells cs∧StrB d:=by
 obtain⟨ds,tys,hl,ht,h1,hr,hsb⟩:=h
 obtain⟨k1,k2⟩:=of_cellsTy ht
 cases ha:isAgg? (TT.und t) with
 |true=>exact⟨.agg ds,.agg _ tys ds ha hl k1 h1 k2,h1,hr,.agg _ hsb⟩
 |false=>
  cases hu:TT.und t with
  |none=>unfold lay layout at hl;rw[hu] at hl;cases hl
  |some D=>
   rw[lay_one hu ha] at hl
   cases hl
   match ds,ht with
   |[d],⟨ht,_⟩=>
    have hd:=h1 d (by simp)
    have hc:d.cells=[d]:=by cases d<;>first|rfl|cases hd
    exact⟨d,ht,by rw[hc];exact h1,by rw[hc];exact hr,hsb d (by simp)⟩
theorem choose_lt'{α:Type}[Inhabited α]{n:Nat}{p:Nat→α→Prop}(h:∀i,i<n→∃a,p i a):∃f:Nat→α,∀i,i<n→p i (f i):=by
 have h':∀i,∃a,i<n→p i a:=λi=>by
  by_cases hi:i<n
  ·obtain⟨a,ha⟩:=h i hi
   exact⟨a,λ_=>ha⟩
  ·exact⟨default,λhh=>absurd hh hi⟩
 exact Classical.skolem.1 h'
theorem open_fields{N m:Nat}{cs:List Value}(ih:∀t∈G,∀fuel cs (x:DataW H×List MemPlace),DataW.trod enc Tryz.prog W base spare held fuel t cs=some x→Rows.uptoBulk x.1≤N→Opened W t cs):
 ∀{fs:List Field} {o e:Nat} {tys:List TypeId},fieldsOk G fs o=some e→layCat fs=some tys→cs.length=e→
  (∀f∈fs,∃y:DataW H×List MemPlace,DataW.trod enc Tryz.prog W base spare held m f.type ((cs.drop f.offset).take (Tryz.prog.cellsOf f.type))=some y∧Rows.uptoBulk y.1≤N)→
  o≤e∧∃ds,CellsTy tys ds∧(∀d∈ds,d.one=true)∧Els (Rep (startE W.heap.size) W) ds (cs.drop o)∧∀d∈ds,StrB d
 |[],o,e,tys,h,hl,hc,_=>by
  cases h
  cases hl
  exact⟨Nat.le_refl _,[],trivial,(λd hd=>by cases hd),by rw[List.drop_of_length_le (by omega)];exact⟨rfl,λj a b h=>by simp at h⟩,λd hd=>by cases hd⟩
 |f::fs,o,e,tys,h,hl,hc,hf=>by
  simp only[fieldsOk] at h
  split at h
  ·rename_i hcc
   simp only[Bool.and_eq_true,beq_iff_eq,List.contains_iff_mem] at hcc
   obtain⟨hg,ho⟩:=hcc
   simp only[layCat] at hl
   split at hl
   ·rename_i a b ha hb
    cases hl
    obtain⟨hle,ds,d1,d2,d3,d4⟩:=open_fields ih h hb hc λf' hf'=>hf f' (List.mem_cons_of_mem _ hf')
    obtain⟨y,hy,hyb⟩:=hf f List.mem_cons_self
    obtain⟨es,tys',e0,e1,e2,e3,e5⟩:=ih f.type hg _ _ y hy hyb
    rw[ha] at e0
    cases e0
    refine⟨by omega,es++ds,cellsTy_append e1 d1,λd hd=>?_,?_,λd hd=>(List.mem_append.1 hd).elim (e5 d) (d4 d)⟩
    ·rcases List.mem_append.1 hd with hd|hd
     ·exact e2 d hd
     ·exact d2 d hd
    ·have:=Els.append e3 d3
     rw[ho] at this
     have e4:(cs.drop o).take (Tryz.prog.cellsOf f.type)++cs.drop (o+Tryz.prog.cellsOf f.type)=cs.drop o:=by
      rw[←List.drop_drop,List.take_append_drop]
     rw[e4] at this
     exact this
   ·cases hl
  ·cases h
theorem addn(b o n:Nat):(⟨b,o,none⟩:Addr).add n=⟨b,o+n,none⟩:=by
 unfold Addr.add
 split
 ·rename_i h;simp[h]
 ·rfl
theorem block_lt{a:Addr}{v:Value}(h:W.cell? a=some v):a.block<W.heap.size∧a.spot=none:=by
 have hs:=World.cell?_spot h
 refine⟨?_,hs⟩
 simp only[World.cell?] at h
 by_cases hb:a.block<W.heap.size
 ·exact hb
 ·rw[Array.getElem?_eq_none (by omega)] at h
  simp at h
theorem open_ty(hG:goods G=true):∀N,N≤2^21→∀t∈G,∀fuel cs (x:DataW H×List MemPlace),DataW.trod enc Tryz.prog W base spare held fuel t cs=some x→Rows.uptoBulk x.1≤N→Opened W t cs
 |0,_,t,_,fuel,cs,x,h,hb=>by have:=one_le x.1;omega
 |N+1,hN,t,ht,fuel,cs,x,h,hb=>by
  have ih:=open_ty hG N (by omega)
  have hg:=(List.all_eq_true.1 hG) t ht
  unfold good1 at hg
  split at hg
  ·rename_i k hu
   obtain⟨n,rfl,_⟩:=DataW.trod_int hu h
   exact opened_one (by rw[tund,hu];rfl) (tyInt (by rw[tund];exact hu)) (.int k n) (.int k n)
  ·rename_i hu
   obtain⟨b,rfl,_⟩:=DataW.trod_bool hu h
   exact opened_one (by rw[tund,hu];rfl) (tyBool (by rw[tund];exact hu)) (.bool b) (.bool b)
  ·rename_i hu
   obtain⟨s,rfl,rfl,_⟩:=DataW.trod_string hu h
   simp only[Rows.uptoBulk] at hb
   have hr:Rep (startE W.heap.size) W (.str s.data.toList) (.string s):=by
    have:=Rep.str (E:=startE W.heap.size) (w:=W) s.data.toList
    simpa using this
   exact opened_one (by rw[tund,hu];rfl) (tyStr (by rw[tund];exact hu) (by omega)) hr (.str _ (by omega))
  ·rename_i e hu
   simp only[Bool.and_eq_true,List.contains_iff_mem,beq_iff_eq] at hg
   obtain⟨⟨⟨hge,hsz⟩,hpos⟩,hby⟩:=hg
   have hpos:0<Tryz.prog.cellsOf e:=Nat.le_of_ble_eq_true hpos
   have hut:TT.und t=some (.slice e):=by rw[tund];exact hu
   have hna:isAgg? (TT.und t)=false:=by rw[hut];rfl
   rcases Go.Deep.open_slice hu h with ⟨rfl,rfl⟩|⟨a,len,cap,m,n,D,Pl,rfl,hba,hlc,hcap,hm,rfl,hel⟩
   ·exact opened_one hna (.nil _ (by rw[hut];rfl)) (.nil none) .nil
   ·have hlm:len≤m:=by rw[hm];split<;>omega
    have hbl:len≤N:=by
     have:=length_le ((List.range len).map D)
     simp only[Rows.uptoBulk,List.length_map,List.length_range] at hb this
     omega
    have hE:∀i,i<len→∃p:Dat×List Value,HasTy TT e p.1∧(∀c∈p.1.cells,c.one=true)∧Els (Rep (startE W.heap.size) W) p.1.cells p.2∧StrB p.1∧W.cells? base (a.add (i*Tryz.prog.cellsOf e)) (Tryz.prog.cellsOf e)=some p.2:=λi hi=>by
     obtain⟨cs',h1,h2⟩:=hel i (by omega)
     have hmem:D i∈(List.range len).map D:=List.mem_map.2 ⟨i,List.mem_range.2 hi,rfl⟩
     have hpl:=part_le hmem
     simp only[Rows.uptoBulk] at hb
     have ho:=ih e hge n cs' _ h2 (by show Rows.uptoBulk (D i)≤N;omega)
     have hne:cs'≠[]:=λe0=>by
      have:=(World.cells?_some h1).2.1
      rw[e0] at this
      simp at this
      omega
     obtain⟨d,d1,d2,d3,d4⟩:=opened_el ho hne
     exact⟨(d,cs'),d1,d2,d3,d4,h1⟩
    have:Inhabited (Dat×List Value):=⟨(.nil,[])⟩
    obtain⟨F,hF⟩:=choose_lt' hE
    let xs:=(List.range len).map λi=>(F i).1
    have hxl:xs.length=len:=by simp[xs]
    have hxi:∀i x,xs[i]?=some x→i<len∧x=(F i).1:=λi x hx=>by
     have hi:i<len:=by rw[←hxl];exact(List.getElem?_eq_some_iff.1 hx).1
     simp only[xs,List.getElem?_map,List.getElem?_range hi,Option.map_some,Option.some.injEq] at hx
     exact⟨hi,hx.symm⟩
    have htx:∀x∈xs,HasTy TT e x:=λx hx=>by
     obtain⟨i,hi⟩:=List.mem_iff_getElem?.1 hx
     obtain⟨h1,rfl⟩:=hxi i x hi
     exact(hF i h1).1
    have hfit:SlFit TT e xs.length:=by
     refine⟨by omega,λb hb'=>?_⟩
     rw[hb'] at hby
     have:=Nat.le_of_ble_eq_true hby
     have h3:xs.length*b≤2^21*2^20:=Nat.mul_le_mul (by omega) this
     omega
    have hty:HasTy TT t (.sl (Tryz.prog.cellsOf e) xs):=.sl _ e _ xs hut hsz hfit htx
    have hsb:StrB (.sl (Tryz.prog.cellsOf e) xs):=.sl _ _ (by omega) λx hx=>by
     obtain⟨i,hi⟩:=List.mem_iff_getElem?.1 hx
     obtain⟨h1,rfl⟩:=hxi i x hi
     exact(hF i h1).2.2.2.1
    refine opened_one hna hty ?_ hsb
    rcases Nat.eq_zero_or_pos len with h0|h0
    ·have:xs=[]:=List.eq_nil_of_length_eq_zero (by omega)
     rw[this,h0]
     exact .emp _ _ _
    ·have cells:∀i,i<len→∀(j:Nat) d,(F i).1.cells[j]?=some d→j<Tryz.prog.cellsOf e∧∃v,(F i).2[j]?=some v∧W.cell? ((a.add (i*Tryz.prog.cellsOf e)).add j)=some v∧Rep (startE W.heap.size) W d v:=λi hi j d hd=>by
      obtain⟨f1,f2,f3,f5,f4⟩:=hF i hi
      obtain⟨_,g1,g2⟩:=World.cells?_some f4
      have hj:j<(F i).2.length:=by rw[←f3.1];exact(List.getElem?_eq_some_iff.1 hd).1
      have hv:=List.getElem?_eq_getElem hj
      refine⟨by omega,_,hv,?_,f3.2 j d _ hd hv⟩
      rw[g2 j (by omega)]
      exact hv
     obtain⟨b,off,spot⟩:=a
     have hspot:spot=none:=by
      obtain⟨f1,f2,f3,f5,f4⟩:=hF 0 h0
      obtain⟨_,g1,g2⟩:=World.cells?_some f4
      have hlt:0<(F 0).2.length:=by omega
      have h1:=g2 0 hpos
      rw[List.getElem?_eq_getElem hlt] at h1
      have h2:=(block_lt h1).2
      simpa[Addr.add] using h2
     subst hspot
     have hvs:∃vs:Nat→Value,∀i,i<len→∀j v,(F i).2[j]?=some v→vs (i*Tryz.prog.cellsOf e+j)=v:=by
      refine⟨λq=>((F (q/Tryz.prog.cellsOf e)).2[q%Tryz.prog.cellsOf e]?).getD undef,λi hi j v hv=>?_⟩
      obtain⟨f1,f2,f3,f5,f4⟩:=hF i hi
      have hj:j<Tryz.prog.cellsOf e:=by
       have:=(World.cells?_some f4).2.1
       have:=(List.getElem?_eq_some_iff.1 hv).1
       omega
      have e1:(i*Tryz.prog.cellsOf e+j)/Tryz.prog.cellsOf e=i:=by
       rw[Nat.mul_comm,Nat.mul_add_div hpos,Nat.div_eq_of_lt hj,Nat.add_zero]
      have e2:(i*Tryz.prog.cellsOf e+j)%Tryz.prog.cellsOf e=j:=by
       rw[Nat.mul_comm,Nat.mul_add_mod,Nat.mod_eq_of_lt hj]
      simp only[e1,e2,hv,Option.getD_some]
     obtain⟨vs,hvs⟩:=hvs
     have hr:=Rep.sl (E:=startE W.heap.size) (w:=W) (Tryz.prog.cellsOf e) xs b off cap vs (by omega) (λx hx=>by
       obtain⟨i,hi⟩:=List.mem_iff_getElem?.1 hx
       obtain⟨h1,rfl⟩:=hxi i x hi
       obtain⟨f1,f2,f3,f5,f4⟩:=hF i h1
       rw[f3.1]
       exact(World.cells?_some f4).2.1)
      (λi x hx j d hd=>by
       obtain⟨h1,rfl⟩:=hxi i x hx
       exact(hF i h1).2.1 d (List.mem_of_getElem? hd))
      (λi x hx j d hd=>by
       obtain⟨h1,rfl⟩:=hxi i x hx
       obtain⟨_,v,_,hc,_⟩:=cells i h1 j d hd
       have h2:=(block_lt hc).1
       show b<W.heap.size
       simpa only[addn] using h2)
      (λi x hx j d hd=>by
       obtain⟨h1,rfl⟩:=hxi i x hx
       obtain⟨_,v,hv,hc,_⟩:=cells i h1 j d hd
       rw[hvs i h1 j v hv]
       rw[←hc,addn,addn])
      (λi x hx j d hd=>by
       obtain⟨h1,rfl⟩:=hxi i x hx
       obtain⟨_,v,hv,hc,hr⟩:=cells i h1 j d hd
       rw[hvs i h1 j v hv]
       exact hr)
     rw[hxl] at hr
     exact hr
  ·rename_i fs hu
   simp only[Bool.and_eq_true,beq_iff_eq] at hg
   obtain⟨⟨hf,hl⟩,hsome⟩:=hg
   cases hlt:lay TT t with
   |none=>rw[hlt] at hsome;cases hsome
   |some tys=>
    rw[hlt] at hl
    obtain⟨xs,m,_,rfl,hlen,hxl,hfx⟩:=DataW.trod_struct hu h
    obtain⟨_,ds,d1,d2,d3,d4⟩:=open_fields (N:=N) (m:=m) (cs:=cs) ih hf hl.symm hlen (λf hfm=>by
     obtain⟨i,hi⟩:=List.mem_iff_getElem?.1 hfm
     have hi:fs[i]?=some f:=by simpa using hi
     have hlt:i<xs.length:=by rw[hxl];exact(Array.getElem?_eq_some_iff.1 hi).1
     refine⟨xs[i],by rw[hfx i f hi,List.getElem?_eq_getElem hlt],?_⟩
     have hm:xs[i].1∈xs.map (·.1):=List.mem_map.2 ⟨_,List.getElem_mem hlt,rfl⟩
     have:=part_le hm
     simp only[Rows.uptoBulk] at hb
     omega)
    exact⟨ds,tys,hlt,d1,d2,by simpa using d3,d4⟩
  ·cases hg
end
end Go.Proofs.YtgmapdcdmomioaaGreatDoor.Pa
namespace Go.Proofs.YtgmapdcdmomioaaGreatDoor.Pa
open Go Go.Proofs.YtgmapdcdmomioaaGreatDoor.Am Go.ChangeShapes Go.WideShapes Go.ChangeAt Go.RowKit
theorem ownTT:ownKnob Tryz.prog.godebug=none:=by kernel_rfl
theorem laidOut:laidOutB Tryz.prog=true:=by kernel_rfl
def progTypes:List TypeId:=[29,23,76,9,61,74,91,89,94,3,27,24,25,127]
theorem goodsProg:goods progTypes=true:=by kernel_rfl
theorem aggProg:isAgg? (TT.und 29)=true:=by kernel_rfl
theorem open_agg{W:World}{t:TypeId}{cs:Array Value}(ha:isAgg? (TT.und t)=true)(h:Opened W t cs.toList):∃d,HasTy TT t d∧Rep (startE W.heap.size) W d (.agg cs)∧StrB d:=by
 obtain⟨ds,tys,hl,ht,h1,hr,hs⟩:=h
 obtain⟨k1,k2⟩:=of_cellsTy ht
 refine⟨.agg ds,.agg _ tys ds ha hl k1 h1 k2,?_,.agg _ hs⟩
 have:=Rep.agg (E:=startE W.heap.size) (w:=W) ds cs.toList hr.1 h1 hr.2
 simpa using this
theorem open_struct{H:Type}{enc:TypeId×Value→H}{W:World}{v:Value}{d:DataW H}{p:List MemPlace}{t:TypeId}(ht:t∈progTypes)(ha:isAgg? (TT.und t)=true)(hv:∃cs,v=.agg cs)
 (h:DataW.Trod enc Tryz.prog W 0 (λ_=>true) true t v d p) (hb:Rows.uptoBulk d≤1048576):∃a,HasTy TT t a∧Rep (startE W.heap.size) W a v∧StrB a:=by
 obtain⟨cs,rfl⟩:=hv
 obtain⟨k,f⟩:=h
 exact open_agg ha (open_ty goodsProg 1048576 (by omega) _ ht k _ _ f hb)
theorem open_prog{H:Type}{enc:TypeId×Value→H}{W:World}{v:Value}{d:DataW H}{p:List MemPlace}(hv:∃base,Value.okWide Tryz.prog W .any base 29 v)
 (h:DataW.Trod enc Tryz.prog W 0 (λ_=>true) true 29 v d p) (hb:Rows.uptoBulk d≤1048576):∃a,HasTy TT 29 a∧Rep (startE W.heap.size) W a v∧StrB a:=
 open_struct List.mem_cons_self aggProg (by obtain⟨b,hv⟩:=hv;obtain⟨cs,e,_⟩:=okWide_struct Tryz.underlying29 hv;exact⟨cs,e⟩) h hb
theorem errs_of{w:World}(h:laidMetH Tryz.prog Rows.parseSameUptoRow.laid w):ErrsIn w:=by
 have h1:laidMet Tryz.prog Rows.parseSameUptoRow.laid w:=by
  rw[Go.MakeChecks.laidMetH_plain _ _ _ (by kernel_rfl)] at h
  exact h
 have h4:=h1.tail.tail.tail
 have h5:=h4.tail
 have star: "*" ++ "errors.errorString" = "*errors.errorString" :=by decide
 have row:∀u,Tryz.prog.typeName? 3 u=some "*errors.errorString" →u=236:=λu hu=>
  typeName_ptr_named (nm:= "errors.errorString") (by rw[star];kernel_rfl) (by kernel_rfl) (by decide) u (by rw[star];exact hu)
 have gR:Tryz.prog.globalNamed "strconv.ErrRange" =some 2:=by kernel_rfl
 have gS:Tryz.prog.globalNamed "strconv.ErrSyntax" =some 1:=by kernel_rfl
 obtain⟨a1,s1,v1,_⟩:=laid_sentinel h4 gR (ti:=199) (by kernel_rfl) Tryz.underlying199 row Tryz.underlying236 Tryz.underlying238 rfl rfl Tryz.underlying9 (by kernel_rfl) (by kernel_rfl)
 obtain⟨a2,s2,v2,_⟩:=laid_sentinel h5 gS (ti:=199) (by kernel_rfl) Tryz.underlying199 row Tryz.underlying236 Tryz.underlying238 rfl rfl Tryz.underlying9 (by kernel_rfl) (by kernel_rfl)
 have c1:w.cell? ⟨1,0,none⟩=some (.iface 236 (.pointer (some a2))):=by
  have h0:=World.var?_cell gS v2 0
  simpa using h0
 have c2:w.cell? ⟨2,0,none⟩=some (.iface 236 (.pointer (some a1))):=by
  have h0:=World.var?_cell gR v1 0
  simpa using h0
 exact⟨⟨_,c1,.inr ⟨_,_,rfl⟩⟩,_,c2,.inr ⟨_,_,rfl⟩⟩
end Go.Proofs.YtgmapdcdmomioaaGreatDoor.Pa
