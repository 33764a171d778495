/- Scope: names that are bound, counted in a numbered map; slices of names that grow. What functions of the program do, printed by wip/tools/sx/sx.py. Scope: what the functions on names do. Scope: what stands where names are bound; the document's free names. Scope: the document's free names. Scope: the program's free names. Nothing of this layer is asked in this seat. -/
import Derived.Test.YtiheejdkkjfenaaGreatDoorRF
import Derived.Test.YtiheejdkkjfenaaGreatDoorQH
import Derived.Test.YtiheejdkkjfenaaGreatDoorRE
set_option linter.all false
set_option autoImplicit false
set_option maxRecDepth 100000
namespace Go.Proofs.YtiheejdkkjfenaaGreatDoor.Pa
open Go Go.Proofs.YtiheejdkkjfenaaGreatDoor.Am
def cntF(c:Str→Nat):Dat→Option Dat
 |.str s=>if c s=0 then none else some (.int .i64 (c s))
 |_=>none
theorem cntF_get(c:Str→Nat)(s:Str):(cntF c (.str s)).getD (.int .i64 0)=.int .i64 (c s):=by
 unfold cntF
 simp only
 split
 ·rename_i h;rw[h];rfl
 ·rfl
def setC(c:Str→Nat)(s:Str)(n:Nat):Str→Nat:=λt=>if t=s then n else c t
def addL(c:Str→Nat)(l:List Str):Str→Nat:=λs=>c s+l.count s
theorem updF_put(c:Str→Nat)(s:Str){n:Nat}(h:n≠0):updF (cntF c) (.str s) (some (.int .i64 n))=cntF (setC c s n):=by
 funext k
 by_cases hk:k=.str s
 ·subst hk
  rw[updF_same]
  simp[cntF,setC,h]
 ·rw[updF_ne _ _ hk]
  cases k with
  |str t=>
   have:t≠s:=λe=>hk (by rw[e])
   simp[cntF,setC,this]
  |_=>rfl
theorem addL_app(c:Str→Nat)(l l':List Str):addL (addL c l) l'=addL c (l++l'):=by funext s;simp[addL,List.count_append,Nat.add_assoc]
theorem setC_inc(c:Str→Nat)(s:Str):setC c s (c s+1)=addL c [s]:=by
 funext t
 unfold setC addL
 by_cases h:t=s
 ·subst h;simp
 ·have:(s==t)=false:=by simpa using λe=>h e.symm
  simp[h,List.count_cons,this]
theorem strKey(s:Str):KeyIs true (.str s)=true:=rfl
theorem map_inc{g:Glob}{i:Nat}{c:Str→Nat}(h:MapIs true g i (cntF c))(s:Str)(hc:c s≤2^60):
 MLook g (some i) (.int .i64 0) (.str s) (.int .i64 (c s)) ((cntF c (.str s)).isSome)∧∃g',gmput g i (.str s) (.int .i64 (IntKind.i64.wrap ((c s:Int)+1)))=some g'∧OneBox i g g'∧MapIs true g' i (cntF (addL c [s])):=by
 have h1:=h.mlook (z:=.int .i64 0) (strKey s)
 rw[cntF_get] at h1
 refine⟨h1,?_⟩
 obtain⟨g',a,b,d⟩:=h.put (strKey s) (.int .i64 (IntKind.i64.wrap ((c s:Int)+1)))
 refine⟨g',a,b,?_⟩
 rw[wrap_nat (by omega),updF_put _ _ (by omega),setC_inc] at d
 exact d
def Gr(b:Nat)(g:Glob)(x:Dat)(l:List Str):Prop:=(x=.nil∧l=[])∨∃k,x=.gsl k 1 (l.map .str)∧b≤k∧g.toks[k]?=some (1,l.length)
structure KeepT(b:Nat)(g g':Glob):Prop where
 boxes:g'.boxes=g.boxes
 len:g.toks.length≤g'.toks.length
 old:∀j,j<b→g'.toks[j]?=g.toks[j]?
theorem Gr.els{b:Nat}{g:Glob}{x:Dat}{l:List Str}(h:Gr b g x l):elsOf x=l.map .str:=by
 rcases h with ⟨rfl,rfl⟩|⟨k,rfl,_⟩<;>rfl
theorem Gr.nil(b:Nat)(g:Glob):Gr b g .nil []:=.inl ⟨rfl,rfl⟩
theorem Gr.toks{b:Nat}{g g':Glob}{x:Dat}{l:List Str}(h:Gr b g x l)(hk:g'.toks=g.toks):Gr b g' x l:=by
 rcases h with h|⟨k,h1,h2,h3⟩
 ·exact .inl h
 ·exact .inr ⟨k,h1,h2,by rw[hk];exact h3⟩
theorem Gr.app{b:Nat}{g:Glob}{x:Dat}{l:List Str}(h:Gr b g x l)(hb:b≤g.toks.length)(s:Str):
 ∃r g',gapp 1 x [.str s] (gtok g 1 1)=some (r,g')∧Gr b g' r (l++[s])∧KeepT b g g':=by
 rcases h with ⟨rfl,rfl⟩|⟨k,rfl,h2,h3⟩
 ·refine⟨_,_,rfl,.inr ⟨(gtok g 1 1).toks.length,rfl,?_,?_⟩,rfl,?_,λj hj=>?_⟩
  ·simp only[gtok,List.length_append];omega
  ·simp[gtok]
  ·simp only[gtok,List.length_append];omega
  ·simp only[gtok]
   rw[List.getElem?_append_left (by simp;omega),List.getElem?_append_left (by omega)]
 ·have hk:=(List.getElem?_eq_some_iff.1 h3).1
  have h4:(gtok g 1 1).toks[k]?=some (1,(l.map Dat.str).length):=by
   simp only[gtok,List.getElem?_append_left hk,List.length_map]
   exact h3
  have hk':k<(gtok g 1 1).toks.length:=(List.getElem?_eq_some_iff.1 h4).1
  refine⟨.gsl k 1 (l.map .str++[.str s]),{gtok g 1 1 with toks:=(gtok g 1 1).toks.set k (1,(l.map Dat.str).length+1)},?_,.inr ⟨k,by rw[List.map_append];rfl,h2,?_⟩,rfl,?_,λj hj=>?_⟩
  ·simp only[gapp,h4]
   simp
  ·simp only[List.getElem?_set_self hk',List.length_append,List.length_map,List.length_cons,List.length_nil]
  ·simp only[gtok,List.length_set,List.length_append];omega
  ·simp only[gtok]
   rw[List.getElem?_set_ne (by omega),List.getElem?_append_left (by omega)]
theorem fitS{n:Nat}(h:n≤2^30):SlFit TT 9 n:=⟨by omega,λb' hb'=>by
 rw[byStr] at hb'
 cases hb'
 omega⟩
theorem fitS'{n:Nat}(h:n≤2^30):Fits n 16:=⟨by omega,by omega⟩
theorem strs_gsl{k:Nat}{l:List Str}(hl:l.length≤2^30)(hs:∀s∈l,s.length≤2^40):HasTy TT 82 (.gsl k 1 (l.map .str)):=
 .gsl _ _ _ _ _ undStrs szStr (by rw[List.length_map];exact fitS hl) λx hx=>by
  obtain⟨s,hs',rfl⟩:=List.mem_map.1 hx
  exact ty_str (hs s hs')
theorem strs_sl{l:List Str}(hl:l.length≤2^30)(hs:∀s∈l,s.length≤2^40):HasTy TT 82 (.sl 1 (l.map .str)):=
 .sl _ _ _ _ undStrs szStr (by rw[List.length_map];exact fitS hl) λx hx=>by
  obtain⟨s,hs',rfl⟩:=List.mem_map.1 hx
  exact ty_str (hs s hs')
theorem strs_nil:HasTy TT 82 .nil:=.nil _ (by rw[undStrs];rfl)
theorem Gr.ty{b:Nat}{g:Glob}{x:Dat}{l:List Str}(h:Gr b g x l)(hl:l.length≤2^30)(hs:∀s∈l,s.length≤2^40):HasTy TT 82 x:=by
 rcases h with ⟨rfl,rfl⟩|⟨k,rfl,_⟩
 ·exact strs_nil
 ·exact strs_gsl hl hs
theorem strs_inv{x:Dat}(h:HasTy TT 82 x):∃l:List Str,elsOf x=l.map .str∧(∀s∈l,s.length≤2^40)∧l.length≤2^40:=by
 obtain⟨h1,h2⟩:=h.els undStrs
 refine⟨(elsOf x).map strOf,?_,λs hs=>?_,by rw[List.length_map];exact h1.1⟩
 ·have key:∀l:List Dat,(∀y∈l,HasTy TT 9 y)→l=(l.map strOf).map .str:=by
   intro l
   induction l with
   |nil=>intro _;rfl
   |cons y l ih=>
    intro h
    obtain⟨s,rfl,_⟩:=str_ty (h y List.mem_cons_self)
    simp only[List.map_cons]
    rw[←ih λz hz=>h z (List.mem_cons_of_mem _ hz)]
    rfl
  exact key _ h2
 ·obtain⟨y,hy,rfl⟩:=List.mem_map.1 hs
  obtain⟨s,rfl,hl⟩:=str_ty (h2 y hy)
  exact hl
theorem strAt{x:Dat}{l:List Str}(h:elsOf x=l.map .str){i:Nat}(hi:i<l.length):strOf (fld (getE (elsOf x) (i:Int)) 0)=l[i]:=by
 rw[h,getE_nat (by rw[List.length_map];exact hi),List.getElem_map]
 rfl
theorem elsLen{x:Dat}{l:List Str}(h:elsOf x=l.map .str):(elsOf x).length=l.length:=by rw[h,List.length_map]
mutual
def varsP:Pt→List Str
 |.mk k s _ a _=>(if k==2 then[s] else[])++varsPs a
def varsPs:List Pt→List Str
 |[]=>[]
 |x::xs=>varsP x++varsPs xs
end
def bindsOf(k:Int)(s r:Str)(b:List Pt)(i:Nat):List Str:=
 if k==3&&i==0||k==5&&i==1||k==6&&i==1 then[s]
 else if k==6&&i==0 then[s,r]
 else if k==7&&(decide (0<i)&&decide (i≤b.length)) then varsP ((b[i-1]?).getD default)
 else[]
mutual
theorem varsP_len:∀x:Pt,(varsP x).length≤szPt x
 |.mk k s n a p=>by
  have:=varsPs_len a
  simp only[varsP,szPt,List.length_append]
  split<;>simp<;>omega
theorem varsPs_len:∀l:List Pt,(varsPs l).length≤szPts l
 |[]=>Nat.le_refl _
 |x::xs=>by
  have h1:=varsP_len x
  have h2:=varsPs_len xs
  simp only[varsPs,szPts,List.length_append]
  omega
end
theorem szPts_mem{l:List Pt}{i:Nat}{x:Pt}(h:l[i]?=some x):szPt x≤szPts l:=by
 induction l generalizing i with
 |nil=>simp at h
 |cons y l ih=>
  cases i with
  |zero=>simp at h;subst h;simp only[szPts];omega
  |succ i=>have:=ih (i:=i) (by simpa using h);simp only[szPts];omega
theorem bindsOf_len(k:Int)(s r:Str)(b:List Pt)(i:Nat):(bindsOf k s r b i).length≤2+szPts b:=by
 unfold bindsOf
 split
 ·simp only[List.length_cons,List.length_nil];omega
 ·split
  ·simp only[List.length_cons,List.length_nil];omega
  ·split
   ·cases h:b[i-1]? with
    |none=>simp only[Option.getD_none];exact Nat.le_trans (varsP_len _) (by show szPt (.mk 0 [] 0 [] 0)≤_;simp only[szPt,szPts];omega)
    |some x=>simp only[Option.getD_some];exact Nat.le_trans (varsP_len _) (Nat.le_trans (szPts_mem h) (by omega))
   ·simp
end Go.Proofs.YtiheejdkkjfenaaGreatDoor.Pa
namespace Go.Proofs.YtiheejdkkjfenaaGreatDoor.Pa
open Go Go.Proofs.YtiheejdkkjfenaaGreatDoor.Am
def L89_2(x0:Dat)(s1:List UInt8)(n5:Int)(g:Glob)(Qf:OGP):Prop:=CutP TT Tryz.f89 [1,0,1,0] Qf (mkC TT 89 Tryz.f89 2 [(0,.v 82 (x0)),(1,.v 9 (.str s1)),(5,.v 3 (.int .i64 n5))] [] g)
def lo89:List CutI:=[⟨2,[(0,.keep),(1,.keep),(5,.keep)],[]⟩]
theorem w89{x0:Dat}{s1:List UInt8}{g:Glob}{Qf:OGP}(h0:HasTy TT 82 x0)(h1:s1.length≤2^40)
 (h:L89_2 x0 s1 0 g Qf):
 EvF TT 89 [x0,.str s1] g Qf:=
 sx_fun (rk:=rk) (fn:=Tryz.f89) (loops:=lo89) (joins:=[]) (n:=100000) (args:=[(82,x0),(9,.str s1)]) rfl rfl rfl rfl ⟨h0,tyStr rfl h1,trivial⟩ (by kernel_rfl) h
theorem w89_2{x0:Dat}{s1:List UInt8}{n5:Int}{g:Glob}{Qf:OGP}
 (h:Br (decide (n5<(↑(elsOf x0).length:Int))) (InB n5 (elsOf x0).length∧Br (strOf (fld (getE (elsOf x0) n5) 0)==s1) (Qf (.val (.d (.bool true))) g) (L89_2 x0 s1 (IntKind.i64.wrap (n5+1)) g Qf)) (Qf (.val (.d (.bool false))) g)):
 L89_2 x0 s1 n5 g Qf:=sx_cut (rk:=rk) (loops:=lo89) (joins:=[]) (n:=100000) (by kernel_rfl) h
def lo91:List CutI:=[]
theorem w91{x0:Dat}{x1:Dat}{g:Glob}{Qf:OGP}(h0:HasTy TT 82 x0)(h1:HasTy TT 82 x1)
 (h:Fits (0+(elsOf x0).length) 16∧Fits (([]++elsOf x0).length+(elsOf x1).length) 16∧Qf (.val (.uq 1 ([]++elsOf x0++elsOf x1))) g):
 EvF TT 91 [x0,x1] g Qf:=
 sx_fun (rk:=rk) (fn:=Tryz.f91) (loops:=lo91) (joins:=[]) (n:=100000) (args:=[(82,x0),(82,x1)]) rfl rfl rfl rfl ⟨h0,h1,trivial⟩ (by kernel_rfl) h
end Go.Proofs.YtiheejdkkjfenaaGreatDoor.Pa
namespace Go.Proofs.YtiheejdkkjfenaaGreatDoor.Pa
open Go Go.Proofs.YtiheejdkkjfenaaGreatDoor.Am
theorem mapStr_inj{l k:List Str}(h:l.map Dat.str=k.map Dat.str):l=k:=by
 have:=congrArg (List.map strOf) h
 rw[List.map_map,List.map_map] at this
 have e:∀m:List Str,m.map (strOf∘Dat.str)=m:=λm=>List.map_id'' (λ_=>rfl) m
 rw[e,e] at this
 exact this
theorem brT{c:Bool}{A B:Prop}(q:c=true)(h:A):Br c A B:=by subst q;exact h
theorem brF{c:Bool}{A B:Prop}(q:c=false)(h:B):Br c A B:=by subst q;exact h
theorem bcast{a b:Bool}{g:Glob}{Qf:OGP}(h:Qf (.val (.d (.bool a))) g)(e:a=b):Qf (.val (.d (.bool b))) g:=e▸h
theorem among_ok{x:Dat}{l:List Str}{s:Str}{g:Glob}{Qf:OGP}(hx:HasTy TT 82 x)(hl:elsOf x=l.map .str)(hs:s.length≤2^40)(hQ:Qf (.val (.d (.bool (l.contains s)))) g):EvF TT 89 [x,.str s] g Qf:=by
 have hn:l.length≤2^40:=by have:=(hx.els undStrs).1.1;rw[elsLen hl] at this;exact this
 refine w89 hx hs ?_
 refine loopUp (len:=l.length) (λi=>Qf (.val (.d (.bool ((l.drop i).contains s)))) g→L89_2 x s (i:Int) g Qf) ?_ ?_ 0 (Nat.zero_le _) hQ
 ·intro hQ
  refine w89_2 ?_
  rw[elsLen hl,Br_ge]
  rw[List.drop_length] at hQ
  exact hQ
 ·intro i hi ih hQ
  refine w89_2 ?_
  rw[elsLen hl,Br_lt hi,strAt hl hi]
  rw[List.drop_eq_getElem_cons hi,List.contains_cons] at hQ
  refine⟨inB hi,Br_iff.2 ⟨λq=>bcast hQ ?_,λq=>?_⟩⟩
  ·have:s=l[i]:=by simpa using(by simpa using q:l[i]=s).symm
   simp[this]
  ·rw[wrap_nat (by omega)]
   refine ih (bcast hQ ?_)
   have:(s==l[i])=false:=by
    rw[beq_eq_false_iff_ne]
    intro e
    subst e
    simp at q
   rw[this,Bool.false_or]
theorem with14_ok{x y:Dat}{l k:List Str}{g:Glob}{Qf:OGP}(hx:HasTy TT 82 x)(hl:elsOf x=l.map .str)(hy:HasTy TT 82 y)(hk:elsOf y=k.map .str)(hn:l.length+k.length≤2^30)
 (hQ:∀v z,RetV v z→HasTy TT 82 z→elsOf z=(l++k).map .str→Qf (.val v) g):EvF TT 91 [x,y] g Qf:=by
 refine w91 hx hy ⟨fitS' (by rw[elsLen hl];omega),fitS' (by rw[elsLen hk];simp only[List.nil_append,elsLen hl];omega),?_⟩
 obtain⟨lx,ex,sx,_⟩:=strs_inv hx
 obtain⟨ly,ey,sy,_⟩:=strs_inv hy
 have e1:lx=l:=mapStr_inj (ex.symm.trans hl)
 have e2:ly=k:=mapStr_inj (ey.symm.trans hk)
 subst e1 e2
 have e:[]++elsOf x++elsOf y=(lx++ly).map .str:=by rw[hl,hk,List.map_append];rfl
 rw[e]
 refine hQ _ (.sl 1 ((lx++ly).map .str)) rfl (strs_sl (by rw[List.length_append];exact hn) λs hs=>?_) rfl
 rcases List.mem_append.1 hs with hs|hs
 ·exact sx s hs
 ·exact sy s hs
end Go.Proofs.YtiheejdkkjfenaaGreatDoor.Pa
namespace Go.Proofs.YtiheejdkkjfenaaGreatDoor.Pa
open Go Go.Proofs.YtiheejdkkjfenaaGreatDoor.Am
theorem gokD{g:Glob}{i o n:Nat}{cs:List GVal}{x:Dat}{t:TypeId}{d:TypeDesc}(hu:TT.und t=some d)(hs:TT.size t=some n)(ha:isAggD d=false)(hb:g.boxes[i]?=some (.cells cs))(hc:cs[o]?=some (.d x)):GOk TT t g i o x:=by
 refine⟨.d x,?_,rfl,rfl⟩
 simp only[gload,hb,loadV,hu,hs,ha,Bool.false_eq_true,if_false,List.head?_map,List.head?_drop,hc]
 rfl
theorem undMap:TT.und 113=some (.map 9 3):=by kernel_rfl
theorem sizeMap:TT.size 113=some 1:=by kernel_rfl
end Go.Proofs.YtiheejdkkjfenaaGreatDoor.Pa
namespace Go.Proofs.YtiheejdkkjfenaaGreatDoor.Pa
open Go Go.Proofs.YtiheejdkkjfenaaGreatDoor.Am
theorem szExs_mem{l:List Ex'}{i:Nat}{x:Ex'}(h:l[i]?=some x):szEx x≤szExs l:=by
 induction l generalizing i with
 |nil=>simp at h
 |cons y l ih=>
  cases i with
  |zero=>simp at h;subst h;simp only[szExs];omega
  |succ i=>have:=ih (i:=i) (by simpa using h);simp only[szExs];omega
end Go.Proofs.YtiheejdkkjfenaaGreatDoor.Pa
namespace Go.Proofs.YtiheejdkkjfenaaGreatDoor.Pa
open Go Go.Proofs.YtiheejdkkjfenaaGreatDoor.Am
theorem gnew_len(g:Glob)(ds:List Dat):(gnew g ds).boxes.length=g.boxes.length+1:=by simp[gnew]
theorem gnew_get(g:Glob)(ds:List Dat):(gnew g ds).boxes[g.boxes.length]?=some (.cells (ds.map .d)):=by simp[gnew]
theorem gnew_old{g:Glob}(ds:List Dat){j:Nat}(h:j<g.boxes.length):(gnew g ds).boxes[j]?=g.boxes[j]?:=by simp only[gnew];rw[List.getElem?_append_left h]
theorem gmnew_len(g:Glob):(gmnew g).boxes.length=g.boxes.length+1:=by simp[gmnew]
theorem gmnew_old{g:Glob}{j:Nat}(h:j<g.boxes.length):(gmnew g).boxes[j]?=g.boxes[j]?:=by simp only[gmnew];rw[List.getElem?_append_left h]
theorem gput_one{g:Glob}{i:Nat}{c:GVal}{x:Dat}(hb:g.boxes[i]?=some (.cells [c]))(h1:x.one=true):GPut g i 0 1∧gput g i 0 x={g with boxes:=g.boxes.set i (.cells [.d x])}:=by
 refine⟨⟨_,hb,Nat.le_refl _⟩,?_⟩
 have hc:x.cells=[x]:=by cases x<;>first|rfl|cases h1
 unfold gput
 rw[hb,hc]
 rfl
theorem putAll_same{β:Type}:∀(vs cs pre:List β),cs.length=vs.length→putAll (pre++cs) pre.length vs=pre++vs:=λvs cs pre h=>putAll_all pre h
theorem gput_all{g:Glob}{i n:Nat}{cs:List GVal}{ds:List Dat}(hb:g.boxes[i]?=some (.cells cs))(hn:cs.length=n)(hd:ds.length=n):GPut g i 0 n∧gput g i 0 (.agg ds)={g with boxes:=g.boxes.set i (.cells (ds.map .d))}:=by
 refine⟨⟨_,hb,by omega⟩,?_⟩
 unfold gput
 rw[hb]
 simp only[Dat.cells]
 have:=putAll_same (ds.map GVal.d) cs [] (by rw[List.length_map,hd,hn])
 simp only[List.nil_append,List.length_nil] at this
 rw[this]
theorem gput_new{g:Glob}{z ds:List Dat}{n:Nat}(hz:z.length=n)(hd:ds.length=n):GPut (gnew g z) g.boxes.length 0 n∧gput (gnew g z) g.boxes.length 0 (.agg ds)=gnew g ds:=by
 obtain⟨a,b⟩:=gput_all (ds:=ds) (gnew_get g z) (by rw[List.length_map,hz]) hd
 refine⟨a,b.trans ?_⟩
 simp[gnew]
structure Kp(bx:List Nat)(b:Nat)(g g':Glob):Prop where
 len:g.boxes.length≤g'.boxes.length
 box:∀j,j<g.boxes.length→j ∉ bx→g'.boxes[j]?=g.boxes[j]?
 tlen:g.toks.length≤g'.toks.length
 tok:∀j,j<b→g'.toks[j]?=g.toks[j]?
theorem Kp.refl(bx:List Nat)(b:Nat)(g:Glob):Kp bx b g g:=⟨Nat.le_refl _,λ_ _ _=>rfl,Nat.le_refl _,λ_ _=>rfl⟩
theorem Kp.trans{bx:List Nat}{b:Nat}{g g' g'':Glob}(h:Kp bx b g g')(k:Kp bx b g' g''):Kp bx b g g'':=
 ⟨Nat.le_trans h.len k.len,λj hj hx=>(k.box j (Nat.lt_of_lt_of_le hj h.len) hx).trans (h.box j hj hx),Nat.le_trans h.tlen k.tlen,λj hj=>(k.tok j hj).trans (h.tok j hj)⟩
theorem Kp.le{bx bx':List Nat}{b b':Nat}{g g':Glob}(h:Kp bx b g g')(hx:∀j∈bx,j∈bx')(hb:b'≤b):Kp bx' b' g g':=
 ⟨h.len,λj hj hn=>h.box j hj λq=>hn (hx j q),h.tlen,λj hj=>h.tok j (Nat.lt_of_lt_of_le hj hb)⟩
theorem boxKp{i:Nat}{g g':Glob}(h:OneBox i g g')(b:Nat):Kp [i] b g g':=⟨by rw[h.len];exact Nat.le_refl _,λj _ hn=>h.get (by simpa using hn),by rw[h.toks];exact Nat.le_refl _,λj _=>by rw[h.toks]⟩
theorem kp_gnew(g:Glob)(ds:List Dat)(b:Nat):Kp [] b g (gnew g ds):=⟨by rw[gnew_len];omega,λj hj _=>gnew_old ds hj,Nat.le_refl _,λ_ _=>rfl⟩
theorem kp_set(g:Glob)(i:Nat)(bx:GBox)(b:Nat):Kp [i] b g {g with boxes:=g.boxes.set i bx}:=boxKp ⟨bx,rfl⟩ b
theorem isF_und{t:TypeId}(h:isF (TT.und t)=true):∃d,TT.und t=some d∧isAggD d=false:=by
 cases hd:TT.und t with
 |none=>rw[hd] at h;cases h
 |some d=>rw[hd] at h;cases d<;>first|exact⟨_,rfl,rfl⟩|cases h
theorem gloadD{g:Glob}{i o n:Nat}{cs:List GVal}{x:Dat}{t:TypeId}{d:TypeDesc}(hu:TT.und t=some d)(hs:TT.size t=some n)(ha:isAggD d=false)(hb:g.boxes[i]?=some (.cells cs))(hc:cs[o]?=some (.d x)):gload TT t g i o=some (.d x):=by
 simp only[gload,hb,loadV,hu,hs,ha,Bool.false_eq_true,if_false,List.head?_map,List.head?_drop,hc]
 rfl
def cB(bd:List Str):Str→Nat:=λs=>bd.count s
theorem cB_zero(bd:List Str)(s:Str):(((cB bd s:Nat):Int)==0)=!bd.contains s:=by
 rw[Bool.eq_iff_iff]
 simp only[beq_iff_eq,Bool.not_eq_true',cB]
 constructor
 ·intro h
  have h:bd.count s=0:=by omega
  rw[←Bool.not_eq_true,List.contains_iff_mem]
  exact List.count_eq_zero.1 h
 ·intro h
  have:s ∉ bd:=by rw[←List.contains_iff_mem,h];simp
  rw[List.count_eq_zero.2 this]
  rfl
end Go.Proofs.YtiheejdkkjfenaaGreatDoor.Pa
