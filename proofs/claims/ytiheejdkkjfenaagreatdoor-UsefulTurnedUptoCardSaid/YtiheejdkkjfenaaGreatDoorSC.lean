/- Scope: names that are bound, counted in a numbered map; slices of names that grow. What functions of the program do, printed by wip/tools/sx/sx.py. Scope: what the functions on names do. Scope: what stands where names are bound; the document's free names. Scope: the document's free names. Scope: the program's free names. Nothing of this layer is asked in this seat. -/
import Derived.Test.YtiheejdkkjfenaaGreatDoorRF
import Derived.Test.YtiheejdkkjfenaaGreatDoorQH
import Derived.Test.YtiheejdkkjfenaaGreatDoorRE
set_option linter.all false
set_option autoImplicit false
set_option maxRecDepth 100000
namespace Go.Proofs.YtiheejdkkjfenaaGreatDoor.Pa
open Go Go.Proofs.YtiheejdkkjfenaaGreatDoor.Am
def cntF(c:Str→Nat):Dat→Option Dat
 |.str s=>if c s=0 then none else some (.int .i64 (c s))
 |_=>none
theorem cntF_get(c:Str→Nat)(s:Str):(cntF c (.str s)).getD (.int .i64 0)=.int .i64 (c s):=by
 unfold cntF
 simp only
 split
 ·rename_i h;rw[h];rfl
 ·rfl
def setC(c:Str→Nat)(s:Str)(n:Nat):Str→Nat:=λt=>if t=s then n else c t
def addL(c:Str→Nat)(l:List Str):Str→Nat:=λs=>c s+l.count s
theorem updF_put(c:Str→Nat)(s:Str){n:Nat}(h:n≠0):updF (cntF c) (.str s) (some (.int .i64 n))=cntF (setC c s n):=by
 funext k
 by_cases hk:k=.str s
 ·subst hk
  rw[updF_same]
  simp[cntF,setC,h]
 ·rw[updF_ne _ _ hk]
  cases k with
  |str t=>
   have:t≠s:=λe=>hk (by rw[e])
   simp[cntF,setC,this]
  |_=>rfl
theorem addL_app(c:Str→Nat)(l l':List Str):addL (addL c l) l'=addL c (l++l'):=by funext s;simp[addL,List.count_append,Nat.add_assoc]
theorem setC_inc(c:Str→Nat)(s:Str):setC c s (c s+1)=addL c [s]:=by
 funext t
 unfold setC addL
 by_cases h:t=s
 ·subst h;simp
 ·have:(s==t)=false:=by simpa using λe=>h e.symm
  simp[h,List.count_cons,this]
theorem strKey(s:Str):KeyIs true (.str s)=true:=rfl
theorem map_inc{g:Glob}{i:Nat}{c:Str→Nat}(h:MapIs true g i (cntF c))(s:Str)(hc:c s≤2^60):
 MLook g (some i) (.int .i64 0) (.str s) (.int .i64 (c s)) ((cntF c (.str s)).isSome)∧∃g',gmput g i (.str s) (.int .i64 (IntKind.i64.wrap ((c s:Int)+1)))=some g'∧OneBox i g g'∧MapIs true g' i (cntF (addL c [s])):=by
 have h1:=h.mlook (z:=.int .i64 0) (strKey s)
 rw[cntF_get] at h1
 refine⟨h1,?_⟩
 obtain⟨g',a,b,d⟩:=h.put (strKey s) (.int .i64 (IntKind.i64.wrap ((c s:Int)+1)))
 refine⟨g',a,b,?_⟩
 rw[wrap_nat (by omega),updF_put _ _ (by omega),setC_inc] at d
 exact d
def Gr(b:Nat)(g:Glob)(x:Dat)(l:List Str):Prop:=(x=.nil∧l=[])∨∃k,x=.gsl k 1 (l.map .str)∧b≤k∧g.toks[k]?=some (1,l.length)
structure KeepT(b:Nat)(g g':Glob):Prop where
 boxes:g'.boxes=g.boxes
 len:g.toks.length≤g'.toks.length
 old:∀j,j<b→g'.toks[j]?=g.toks[j]?
theorem KeepT.trans{b:Nat}{g g' g'':Glob}(h:KeepT b g g')(k:KeepT b g' g''):KeepT b g g'':=⟨k.boxes.trans h.boxes,Nat.le_trans h.len k.len,λj hj=>(k.old j hj).trans (h.old j hj)⟩
theorem Gr.els{b:Nat}{g:Glob}{x:Dat}{l:List Str}(h:Gr b g x l):elsOf x=l.map .str:=by
 rcases h with ⟨rfl,rfl⟩|⟨k,rfl,_⟩<;>rfl
theorem Gr.nil(b:Nat)(g:Glob):Gr b g .nil []:=.inl ⟨rfl,rfl⟩
theorem Gr.keep{b:Nat}{g g':Glob}{x:Dat}{l:List Str}(h:Gr b g x l)(hk:KeepT g.toks.length g g'):Gr b g' x l:=by
 rcases h with h|⟨k,h1,h2,h3⟩
 ·exact .inl h
 ·exact .inr ⟨k,h1,h2,by rw[hk.old k (List.getElem?_eq_some_iff.1 h3).1];exact h3⟩
theorem Gr.toks{b:Nat}{g g':Glob}{x:Dat}{l:List Str}(h:Gr b g x l)(hk:g'.toks=g.toks):Gr b g' x l:=by
 rcases h with h|⟨k,h1,h2,h3⟩
 ·exact .inl h
 ·exact .inr ⟨k,h1,h2,by rw[hk];exact h3⟩
theorem fitS{n:Nat}(h:n≤2^30):SlFit TT 9 n:=⟨by omega,λb' hb'=>by
 rw[byStr] at hb'
 cases hb'
 omega⟩
theorem strs_gsl{k:Nat}{l:List Str}(hl:l.length≤2^30)(hs:∀s∈l,s.length≤2^40):HasTy TT 82 (.gsl k 1 (l.map .str)):=
 .gsl _ _ _ _ _ undStrs szStr (by rw[List.length_map];exact fitS hl) λx hx=>by
  obtain⟨s,hs',rfl⟩:=List.mem_map.1 hx
  exact ty_str (hs s hs')
theorem strs_nil:HasTy TT 82 .nil:=.nil _ (by rw[undStrs];rfl)
theorem Gr.ty{b:Nat}{g:Glob}{x:Dat}{l:List Str}(h:Gr b g x l)(hl:l.length≤2^30)(hs:∀s∈l,s.length≤2^40):HasTy TT 82 x:=by
 rcases h with ⟨rfl,rfl⟩|⟨k,rfl,_⟩
 ·exact strs_nil
 ·exact strs_gsl hl hs
end Go.Proofs.YtiheejdkkjfenaaGreatDoor.Pa
namespace Go.Proofs.YtiheejdkkjfenaaGreatDoor.Pa
open Go Go.Proofs.YtiheejdkkjfenaaGreatDoor.Am
end Go.Proofs.YtiheejdkkjfenaaGreatDoor.Pa
namespace Go.Proofs.YtiheejdkkjfenaaGreatDoor.Pa
open Go Go.Proofs.YtiheejdkkjfenaaGreatDoor.Am
end Go.Proofs.YtiheejdkkjfenaaGreatDoor.Pa
namespace Go.Proofs.YtiheejdkkjfenaaGreatDoor.Pa
open Go Go.Proofs.YtiheejdkkjfenaaGreatDoor.Am
theorem gokD{g:Glob}{i o n:Nat}{cs:List GVal}{x:Dat}{t:TypeId}{d:TypeDesc}(hu:TT.und t=some d)(hs:TT.size t=some n)(ha:isAggD d=false)(hb:g.boxes[i]?=some (.cells cs))(hc:cs[o]?=some (.d x)):GOk TT t g i o x:=by
 refine⟨.d x,?_,rfl,rfl⟩
 simp only[gload,hb,loadV,hu,hs,ha,Bool.false_eq_true,if_false,List.head?_map,List.head?_drop,hc]
 rfl
theorem undMap:TT.und 113=some (.map 9 3):=by kernel_rfl
theorem sizeMap:TT.size 113=some 1:=by kernel_rfl
def ScBox(g:Glob)(p mb:Nat)(D:Dat):Prop:=g.boxes[p]?=some (.cells [.d D,.d (.map (some mb))])
theorem ScBox.map{g:Glob}{p mb:Nat}{D:Dat}(h:ScBox g p mb D):GOk TT 113 g p 1 (.map (some mb)):=gokD undMap sizeMap rfl h rfl
end Go.Proofs.YtiheejdkkjfenaaGreatDoor.Pa
namespace Go.Proofs.YtiheejdkkjfenaaGreatDoor.Pa
open Go Go.Proofs.YtiheejdkkjfenaaGreatDoor.Am
end Go.Proofs.YtiheejdkkjfenaaGreatDoor.Pa
namespace Go.Proofs.YtiheejdkkjfenaaGreatDoor.Pa
open Go Go.Proofs.YtiheejdkkjfenaaGreatDoor.Am
theorem gnew_len(g:Glob)(ds:List Dat):(gnew g ds).boxes.length=g.boxes.length+1:=by simp[gnew]
theorem gnew_get(g:Glob)(ds:List Dat):(gnew g ds).boxes[g.boxes.length]?=some (.cells (ds.map .d)):=by simp[gnew]
theorem gnew_old{g:Glob}(ds:List Dat){j:Nat}(h:j<g.boxes.length):(gnew g ds).boxes[j]?=g.boxes[j]?:=by simp only[gnew];rw[List.getElem?_append_left h]
theorem gmnew_len(g:Glob):(gmnew g).boxes.length=g.boxes.length+1:=by simp[gmnew]
theorem gmnew_old{g:Glob}{j:Nat}(h:j<g.boxes.length):(gmnew g).boxes[j]?=g.boxes[j]?:=by simp only[gmnew];rw[List.getElem?_append_left h]
theorem gput_one{g:Glob}{i:Nat}{c:GVal}{x:Dat}(hb:g.boxes[i]?=some (.cells [c]))(h1:x.one=true):GPut g i 0 1∧gput g i 0 x={g with boxes:=g.boxes.set i (.cells [.d x])}:=by
 refine⟨⟨_,hb,Nat.le_refl _⟩,?_⟩
 have hc:x.cells=[x]:=by cases x<;>first|rfl|cases h1
 unfold gput
 rw[hb,hc]
 rfl
theorem putAll_same{β:Type}:∀(vs cs pre:List β),cs.length=vs.length→putAll (pre++cs) pre.length vs=pre++vs:=λvs cs pre h=>putAll_all pre h
theorem gput_all{g:Glob}{i n:Nat}{cs:List GVal}{ds:List Dat}(hb:g.boxes[i]?=some (.cells cs))(hn:cs.length=n)(hd:ds.length=n):GPut g i 0 n∧gput g i 0 (.agg ds)={g with boxes:=g.boxes.set i (.cells (ds.map .d))}:=by
 refine⟨⟨_,hb,by omega⟩,?_⟩
 unfold gput
 rw[hb]
 simp only[Dat.cells]
 have:=putAll_same (ds.map GVal.d) cs [] (by rw[List.length_map,hd,hn])
 simp only[List.nil_append,List.length_nil] at this
 rw[this]
theorem gput_new{g:Glob}{z ds:List Dat}{n:Nat}(hz:z.length=n)(hd:ds.length=n):GPut (gnew g z) g.boxes.length 0 n∧gput (gnew g z) g.boxes.length 0 (.agg ds)=gnew g ds:=by
 obtain⟨a,b⟩:=gput_all (ds:=ds) (gnew_get g z) (by rw[List.length_map,hz]) hd
 refine⟨a,b.trans ?_⟩
 simp[gnew]
structure Kp(bx:List Nat)(b:Nat)(g g':Glob):Prop where
 len:g.boxes.length≤g'.boxes.length
 box:∀j,j<g.boxes.length→j ∉ bx→g'.boxes[j]?=g.boxes[j]?
 tlen:g.toks.length≤g'.toks.length
 tok:∀j,j<b→g'.toks[j]?=g.toks[j]?
theorem Kp.refl(bx:List Nat)(b:Nat)(g:Glob):Kp bx b g g:=⟨Nat.le_refl _,λ_ _ _=>rfl,Nat.le_refl _,λ_ _=>rfl⟩
theorem Kp.trans{bx:List Nat}{b:Nat}{g g' g'':Glob}(h:Kp bx b g g')(k:Kp bx b g' g''):Kp bx b g g'':=
 ⟨Nat.le_trans h.len k.len,λj hj hx=>(k.box j (Nat.lt_of_lt_of_le hj h.len) hx).trans (h.box j hj hx),Nat.le_trans h.tlen k.tlen,λj hj=>(k.tok j hj).trans (h.tok j hj)⟩
theorem Kp.le{bx bx':List Nat}{b b':Nat}{g g':Glob}(h:Kp bx b g g')(hx:∀j∈bx,j∈bx')(hb:b'≤b):Kp bx' b' g g':=
 ⟨h.len,λj hj hn=>h.box j hj λq=>hn (hx j q),h.tlen,λj hj=>h.tok j (Nat.lt_of_lt_of_le hj hb)⟩
theorem boxKp{i:Nat}{g g':Glob}(h:OneBox i g g')(b:Nat):Kp [i] b g g':=⟨by rw[h.len];exact Nat.le_refl _,λj _ hn=>h.get (by simpa using hn),by rw[h.toks];exact Nat.le_refl _,λj _=>by rw[h.toks]⟩
theorem kp_gnew(g:Glob)(ds:List Dat)(b:Nat):Kp [] b g (gnew g ds):=⟨by rw[gnew_len];omega,λj hj _=>gnew_old ds hj,Nat.le_refl _,λ_ _=>rfl⟩
theorem kp_set(g:Glob)(i:Nat)(bx:GBox)(b:Nat):Kp [i] b g {g with boxes:=g.boxes.set i bx}:=boxKp ⟨bx,rfl⟩ b
theorem isF_und{t:TypeId}(h:isF (TT.und t)=true):∃d,TT.und t=some d∧isAggD d=false:=by
 cases hd:TT.und t with
 |none=>rw[hd] at h;cases h
 |some d=>rw[hd] at h;cases d<;>first|exact⟨_,rfl,rfl⟩|cases h
theorem gloadD{g:Glob}{i o n:Nat}{cs:List GVal}{x:Dat}{t:TypeId}{d:TypeDesc}(hu:TT.und t=some d)(hs:TT.size t=some n)(ha:isAggD d=false)(hb:g.boxes[i]?=some (.cells cs))(hc:cs[o]?=some (.d x)):gload TT t g i o=some (.d x):=by
 simp only[gload,hb,loadV,hu,hs,ha,Bool.false_eq_true,if_false,List.head?_map,List.head?_drop,hc]
 rfl
def cB(bd:List Str):Str→Nat:=λs=>bd.count s
theorem cB_zero(bd:List Str)(s:Str):(((cB bd s:Nat):Int)==0)=!bd.contains s:=by
 rw[Bool.eq_iff_iff]
 simp only[beq_iff_eq,Bool.not_eq_true',cB]
 constructor
 ·intro h
  have h:bd.count s=0:=by omega
  rw[←Bool.not_eq_true,List.contains_iff_mem]
  exact List.count_eq_zero.1 h
 ·intro h
  have:s ∉ bd:=by rw[←List.contains_iff_mem,h];simp
  rw[List.count_eq_zero.2 this]
  rfl
end Go.Proofs.YtiheejdkkjfenaaGreatDoor.Pa
