/- Scope: names that are bound, counted in a numbered map; slices of names that grow. What functions of the program do, printed by wip/tools/sx/sx.py. Scope: what the functions on names do. Scope: what stands where names are bound; the document's free names. Scope: the document's free names. Scope: the program's free names. -/
import Derived.Test.YtgmapdcdmomioaaGreatDoorRF
import Derived.Test.YtgmapdcdmomioaaGreatDoorQH
set_option linter.all false
set_option autoImplicit false
set_option maxRecDepth 100000
namespace Go.Proofs.YtgmapdcdmomioaaGreatDoor.Pa
open Go Go.Proofs.YtgmapdcdmomioaaGreatDoor.Am
def cntF(c:Str→Nat):Dat→Option Dat
 |.str s=>if c s=0 then none else some (.int .i64 (c s))
 |_=>none
theorem cntF_get(c:Str→Nat)(s:Str):(cntF c (.str s)).getD (.int .i64 0)=.int .i64 (c s):=by
 unfold cntF
 simp only
 split
 ·rename_i h;rw[h];rfl
 ·rfl
def setC(c:Str→Nat)(s:Str)(n:Nat):Str→Nat:=λt=>if t=s then n else c t
def addL(c:Str→Nat)(l:List Str):Str→Nat:=λs=>c s+l.count s
theorem updF_put(c:Str→Nat)(s:Str){n:Nat}(h:n≠0):updF (cntF c) (.str s) (some (.int .i64 n))=cntF (setC c s n):=by
 funext k
 by_cases hk:k=.str s
 ·subst hk
  rw[updF_same]
  simp[cntF,setC,h]
 ·rw[updF_ne _ _ hk]
  cases k with
  |str t=>
   have:t≠s:=λe=>hk (by rw[e])
   simp[cntF,setC,this]
  |_=>rfl
theorem updF_del(c:Str→Nat)(s:Str):updF (cntF c) (.str s) none=cntF (setC c s 0):=by
 funext k
 by_cases hk:k=.str s
 ·subst hk
  rw[updF_same]
  simp[cntF,setC]
 ·rw[updF_ne _ _ hk]
  cases k with
  |str t=>
   have:t≠s:=λe=>hk (by rw[e])
   simp[cntF,setC,this]
  |_=>rfl
theorem updF_updF(F:Dat→Option Dat)(k:Dat)(a b:Option Dat):updF (updF F k a) k b=updF F k b:=by
 funext k'
 by_cases hk:k'=k
 ·subst hk;rw[updF_same,updF_same]
 ·rw[updF_ne _ _ hk,updF_ne _ _ hk,updF_ne _ _ hk]
theorem addL_nil(c:Str→Nat):addL c []=c:=by funext s;simp[addL]
theorem addL_app(c:Str→Nat)(l l':List Str):addL (addL c l) l'=addL c (l++l'):=by funext s;simp[addL,List.count_append,Nat.add_assoc]
theorem setC_inc(c:Str→Nat)(s:Str):setC c s (c s+1)=addL c [s]:=by
 funext t
 unfold setC addL
 by_cases h:t=s
 ·subst h;simp
 ·have:(s==t)=false:=by simpa using λe=>h e.symm
  simp[h,List.count_cons,this]
theorem setC_dec(c:Str→Nat)(s:Str)(l:List Str):setC (addL c (s::l)) s (addL c (s::l) s-1)=addL c l:=by
 funext t
 unfold setC addL
 by_cases h:t=s
 ·subst h;simp
 ·have:(s==t)=false:=by simpa using λe=>h e.symm
  simp[h,List.count_cons,this]
theorem addL_le(c:Str→Nat)(l:List Str){n:Nat}(h:∀s,c s+l.length≤n)(s:Str):addL c l s≤n:=by
 have:=h s
 have h2:=List.count_le_length (a:=s) (l:=l)
 unfold addL
 omega
theorem strKey(s:Str):KeyIs true (.str s)=true:=rfl
theorem map_inc{g:Glob}{i:Nat}{c:Str→Nat}(h:MapIs true g i (cntF c))(s:Str)(hc:c s≤2^60):
 MLook g (some i) (.int .i64 0) (.str s) (.int .i64 (c s)) ((cntF c (.str s)).isSome)∧∃g',gmput g i (.str s) (.int .i64 (IntKind.i64.wrap ((c s:Int)+1)))=some g'∧OneBox i g g'∧MapIs true g' i (cntF (addL c [s])):=by
 have h1:=h.mlook (z:=.int .i64 0) (strKey s)
 rw[cntF_get] at h1
 refine⟨h1,?_⟩
 obtain⟨g',a,b,d⟩:=h.put (strKey s) (.int .i64 (IntKind.i64.wrap ((c s:Int)+1)))
 refine⟨g',a,b,?_⟩
 rw[wrap_nat (by omega),updF_put _ _ (by omega),setC_inc] at d
 exact d
def Gr(b:Nat)(g:Glob)(x:Dat)(l:List Str):Prop:=(x=.nil∧l=[])∨∃k,x=.gsl k 1 (l.map .str)∧b≤k∧g.toks[k]?=some (1,l.length)
structure KeepT(b:Nat)(g g':Glob):Prop where
 boxes:g'.boxes=g.boxes
 len:g.toks.length≤g'.toks.length
 old:∀j,j<b→g'.toks[j]?=g.toks[j]?
theorem KeepT.refl(b:Nat)(g:Glob):KeepT b g g:=⟨rfl,Nat.le_refl _,λ_ _=>rfl⟩
theorem KeepT.trans{b:Nat}{g g' g'':Glob}(h:KeepT b g g')(k:KeepT b g' g''):KeepT b g g'':=⟨k.boxes.trans h.boxes,Nat.le_trans h.len k.len,λj hj=>(k.old j hj).trans (h.old j hj)⟩
theorem Gr.els{b:Nat}{g:Glob}{x:Dat}{l:List Str}(h:Gr b g x l):elsOf x=l.map .str:=by
 rcases h with ⟨rfl,rfl⟩|⟨k,rfl,_⟩<;>rfl
theorem Gr.nil(b:Nat)(g:Glob):Gr b g .nil []:=.inl ⟨rfl,rfl⟩
theorem Gr.keep{b:Nat}{g g':Glob}{x:Dat}{l:List Str}(h:Gr b g x l)(hk:KeepT g.toks.length g g'):Gr b g' x l:=by
 rcases h with h|⟨k,h1,h2,h3⟩
 ·exact .inl h
 ·exact .inr ⟨k,h1,h2,by rw[hk.old k (List.getElem?_eq_some_iff.1 h3).1];exact h3⟩
theorem Gr.toks{b:Nat}{g g':Glob}{x:Dat}{l:List Str}(h:Gr b g x l)(hk:g'.toks=g.toks):Gr b g' x l:=by
 rcases h with h|⟨k,h1,h2,h3⟩
 ·exact .inl h
 ·exact .inr ⟨k,h1,h2,by rw[hk];exact h3⟩
theorem Gr.app{b:Nat}{g:Glob}{x:Dat}{l:List Str}(h:Gr b g x l)(hb:b≤g.toks.length)(s:Str):
 ∃r g',gapp 1 x [.str s] (gtok g 1 1)=some (r,g')∧Gr b g' r (l++[s])∧KeepT b g g':=by
 rcases h with ⟨rfl,rfl⟩|⟨k,rfl,h2,h3⟩
 ·refine⟨_,_,rfl,.inr ⟨(gtok g 1 1).toks.length,rfl,?_,?_⟩,rfl,?_,λj hj=>?_⟩
  ·simp only[gtok,List.length_append];omega
  ·simp[gtok]
  ·simp only[gtok,List.length_append];omega
  ·simp only[gtok]
   rw[List.getElem?_append_left (by simp;omega),List.getElem?_append_left (by omega)]
 ·have hk:=(List.getElem?_eq_some_iff.1 h3).1
  have h4:(gtok g 1 1).toks[k]?=some (1,(l.map Dat.str).length):=by
   simp only[gtok,List.getElem?_append_left hk,List.length_map]
   exact h3
  have hk':k<(gtok g 1 1).toks.length:=(List.getElem?_eq_some_iff.1 h4).1
  refine⟨.gsl k 1 (l.map .str++[.str s]),{gtok g 1 1 with toks:=(gtok g 1 1).toks.set k (1,(l.map Dat.str).length+1)},?_,.inr ⟨k,by rw[List.map_append];rfl,h2,?_⟩,rfl,?_,λj hj=>?_⟩
  ·simp only[gapp,h4]
   simp
  ·simp only[List.getElem?_set_self hk',List.length_append,List.length_map,List.length_cons,List.length_nil]
  ·simp only[gtok,List.length_set,List.length_append];omega
  ·simp only[gtok]
   rw[List.getElem?_set_ne (by omega),List.getElem?_append_left (by omega)]
theorem fitS{n:Nat}(h:n≤2^30):SlFit TT 9 n:=⟨by omega,λb' hb'=>by
 rw[byStr] at hb'
 cases hb'
 omega⟩
theorem fitS'{n:Nat}(h:n≤2^30):Fits n 16:=⟨by omega,by omega⟩
theorem strs_gsl{k:Nat}{l:List Str}(hl:l.length≤2^30)(hs:∀s∈l,s.length≤2^40):HasTy TT 61 (.gsl k 1 (l.map .str)):=
 .gsl _ _ _ _ _ undStrs szStr (by rw[List.length_map];exact fitS hl) λx hx=>by
  obtain⟨s,hs',rfl⟩:=List.mem_map.1 hx
  exact ty_str (hs s hs')
theorem strs_sl{l:List Str}(hl:l.length≤2^30)(hs:∀s∈l,s.length≤2^40):HasTy TT 61 (.sl 1 (l.map .str)):=
 .sl _ _ _ _ undStrs szStr (by rw[List.length_map];exact fitS hl) λx hx=>by
  obtain⟨s,hs',rfl⟩:=List.mem_map.1 hx
  exact ty_str (hs s hs')
theorem strs_nil:HasTy TT 61 .nil:=.nil _ (by rw[undStrs];rfl)
theorem Gr.ty{b:Nat}{g:Glob}{x:Dat}{l:List Str}(h:Gr b g x l)(hl:l.length≤2^30)(hs:∀s∈l,s.length≤2^40):HasTy TT 61 x:=by
 rcases h with ⟨rfl,rfl⟩|⟨k,rfl,_⟩
 ·exact strs_nil
 ·exact strs_gsl hl hs
theorem strs_inv{x:Dat}(h:HasTy TT 61 x):∃l:List Str,elsOf x=l.map .str∧(∀s∈l,s.length≤2^40)∧l.length≤2^40:=by
 obtain⟨h1,h2⟩:=h.els undStrs
 refine⟨(elsOf x).map strOf,?_,λs hs=>?_,by rw[List.length_map];exact h1.1⟩
 ·have key:∀l:List Dat,(∀y∈l,HasTy TT 9 y)→l=(l.map strOf).map .str:=by
   intro l
   induction l with
   |nil=>intro _;rfl
   |cons y l ih=>
    intro h
    obtain⟨s,rfl,_⟩:=str_ty (h y List.mem_cons_self)
    simp only[List.map_cons]
    rw[←ih λz hz=>h z (List.mem_cons_of_mem _ hz)]
    rfl
  exact key _ h2
 ·obtain⟨y,hy,rfl⟩:=List.mem_map.1 hs
  obtain⟨s,rfl,hl⟩:=str_ty (h2 y hy)
  exact hl
theorem strAt{x:Dat}{l:List Str}(h:elsOf x=l.map .str){i:Nat}(hi:i<l.length):strOf (fld (getE (elsOf x) (i:Int)) 0)=l[i]:=by
 rw[h,getE_nat (by rw[List.length_map];exact hi),List.getElem_map]
 rfl
theorem elsLen{x:Dat}{l:List Str}(h:elsOf x=l.map .str):(elsOf x).length=l.length:=by rw[h,List.length_map]
mutual
def varsP:Pt→List Str
 |.mk k s _ a _=>(if k==2 then[s] else[])++varsPs a
def varsPs:List Pt→List Str
 |[]=>[]
 |x::xs=>varsP x++varsPs xs
end
def bindsOf(k:Int)(s r:Str)(b:List Pt)(i:Nat):List Str:=
 if k==3&&i==0||k==5&&i==1||k==6&&i==1 then[s]
 else if k==6&&i==0 then[s,r]
 else if k==7&&(decide (0<i)&&decide (i≤b.length)) then varsP ((b[i-1]?).getD default)
 else[]
mutual
theorem varsP_len:∀x:Pt,(varsP x).length≤szPt x
 |.mk k s n a p=>by
  have:=varsPs_len a
  simp only[varsP,szPt,List.length_append]
  split<;>simp<;>omega
theorem varsPs_len:∀l:List Pt,(varsPs l).length≤szPts l
 |[]=>Nat.le_refl _
 |x::xs=>by
  have h1:=varsP_len x
  have h2:=varsPs_len xs
  simp only[varsPs,szPts,List.length_append]
  omega
end
theorem szPts_mem{l:List Pt}{i:Nat}{x:Pt}(h:l[i]?=some x):szPt x≤szPts l:=by
 induction l generalizing i with
 |nil=>simp at h
 |cons y l ih=>
  cases i with
  |zero=>simp at h;subst h;simp only[szPts];omega
  |succ i=>have:=ih (i:=i) (by simpa using h);simp only[szPts];omega
theorem bindsOf_len(k:Int)(s r:Str)(b:List Pt)(i:Nat):(bindsOf k s r b i).length≤2+szPts b:=by
 unfold bindsOf
 split
 ·simp only[List.length_cons,List.length_nil];omega
 ·split
  ·simp only[List.length_cons,List.length_nil];omega
  ·split
   ·cases h:b[i-1]? with
    |none=>simp only[Option.getD_none];exact Nat.le_trans (varsP_len _) (by show szPt (.mk 0 [] 0 [] 0)≤_;simp only[szPt,szPts];omega)
    |some x=>simp only[Option.getD_some];exact Nat.le_trans (varsP_len _) (Nat.le_trans (szPts_mem h) (by omega))
   ·simp
theorem varsPs_drop{xs:List Dat}{i:Nat}(hi:i<xs.length):varsPs ((xs.drop i).map absPt)=varsP (absPt xs[i])++varsPs ((xs.drop (i+1)).map absPt):=by
 rw[List.drop_eq_getElem_cons hi];rfl
end Go.Proofs.YtgmapdcdmomioaaGreatDoor.Pa
namespace Go.Proofs.YtgmapdcdmomioaaGreatDoor.Pa
open Go Go.Proofs.YtgmapdcdmomioaaGreatDoor.Am
def L160_4(x0:Dat)(x16:Dat)(n17:Int)(n18:Int)(g:Glob)(Qf:OGP):Prop:=CutP TT Tryz.f160 [1,1,0,1,0] Qf (mkC TT 160 Tryz.f160 2 [(0,.v 61 (x0)),(16,.v 25 (x16)),(17,.v 3 (.int .i64 n17)),(18,.v 3 (.int .i64 n18))] [] g)
def lo160:List CutI:=[⟨4,[(0,.keep),(16,.keep),(17,.keep),(18,.keep)],[]⟩]
theorem w160{x0:Dat}{x1:Dat}{g:Glob}{Qf:OGP}(h0:HasTy TT 61 x0)(h1:HasTy TT 127 x1)
 (h:Br (intOf (fld x1 0)==2) (Fits ((elsOf x0).length+[Dat.str (strOf (fld x1 1))].length) 16∧∃r g',gapp 1 x0 [.str (strOf (fld x1 1))] (gtok g 1 1)=some (r,g')∧L160_4 r (fld x1 3) (↑(elsOf (fld x1 3)).length:Int) 0 g' Qf) (L160_4 x0 (fld x1 3) (↑(elsOf (fld x1 3)).length:Int) 0 g Qf)):
 EvF TT 160 [x0,x1] g Qf:=
 sx_fun (rk:=rk) (fn:=Tryz.f160) (loops:=lo160) (joins:=[]) (n:=100000) (args:=[(61,x0),(127,x1)]) rfl rfl rfl rfl ⟨h0,h1,trivial⟩ (by kernel_rfl) h
theorem w160_4{x0:Dat}{x16:Dat}{n17:Int}{n18:Int}{g:Glob}{Qf:OGP}
 (h:Br (decide (n18<n17)) (InB n18 (elsOf x16).length∧EvF TT 160 [x0,getE (elsOf x16) n18] g (KQ Qf λv g'=>∃x,HasTy TT 61 x∧RetV v x∧L160_4 x x16 n17 (IntKind.i64.wrap (n18+1)) g' Qf)) (∀(v:Val),RetV v x0→Qf (.val v) g)):
 L160_4 x0 x16 n17 n18 g Qf:=sx_cut (rk:=rk) (loops:=lo160) (joins:=[]) (n:=100000) (by kernel_rfl) h
def L91_4(n1:Int)(b5:Bool)(y2:Dat)(g:Glob)(Qf:OGP):Prop:=CutP TT Tryz.f91 [1,0,0,1] Qf (mkC TT 91 Tryz.f91 2 [(1,.v 3 (.int .i64 n1)),(2,.loc 2 0 0),(5,.v 4 (.bool b5))] [(2,.whole 27 y2)] g)
def lo91:List CutI:=[]
def jo91:List CutI:=[⟨4,[(1,.keep),(2,.keep),(5,.keep)],[(2,.whole 27)]⟩]
theorem w91{x0:Dat}{n1:Int}{g:Glob}{Qf:OGP}(h0:HasTy TT 27 x0)
 (h:Br (intOf (fld x0 0)==3) (Br (n1==0) (L91_4 n1 (n1==0) x0 g Qf) (Br (intOf (fld x0 0)==5) (Br (n1==1) (L91_4 n1 (n1==1) x0 g Qf) (Br (intOf (fld x0 0)==6) (L91_4 n1 (n1==1) x0 g Qf) (L91_4 n1 false x0 g Qf))) (Br (intOf (fld x0 0)==6) (L91_4 n1 (n1==1) x0 g Qf) (L91_4 n1 false x0 g Qf)))) (Br (intOf (fld x0 0)==5) (Br (n1==1) (L91_4 n1 (n1==1) x0 g Qf) (Br (intOf (fld x0 0)==6) (L91_4 n1 (n1==1) x0 g Qf) (L91_4 n1 false x0 g Qf))) (Br (intOf (fld x0 0)==6) (L91_4 n1 (n1==1) x0 g Qf) (L91_4 n1 false x0 g Qf)))):
 EvF TT 91 [x0,.int .i64 n1] g Qf:=
 sx_fun (rk:=rk) (fn:=Tryz.f91) (loops:=lo91) (joins:=jo91) (n:=100000) (args:=[(27,x0),(3,.int .i64 n1)]) rfl rfl rfl rfl ⟨h0,tyInt rfl,trivial⟩ (by kernel_rfl) h
theorem w91_4{n1:Int}{b5:Bool}{y2:Dat}{g:Glob}{Qf:OGP}
 (h:Br b5 (Qf (.val (.uq 1 [.str (strOf (fld y2 1))])) g) (Br (intOf (fld y2 0)==6) (Br (n1==0) (Qf (.val (.uq 1 [.str (strOf (fld y2 1)),.str (strOf (fld y2 2))])) g) (Br (intOf (fld y2 0)==7) (Br (decide (0<n1)) (Br (decide (n1≤(↑(elsOf (fld y2 5)).length:Int))) (InB (IntKind.i64.wrap (n1-1)) (elsOf (fld y2 5)).length∧EvF TT 160 [.nil,getE (elsOf (fld y2 5)) (IntKind.i64.wrap (n1-1))] g (KQ Qf λv g'=>∃x,HasTy TT 61 x∧RetV v x∧∀(v:Val),RetV v x→Qf (.val v) g')) (∀(v:Val),RetV v .nil→Qf (.val v) g)) (∀(v:Val),RetV v .nil→Qf (.val v) g)) (∀(v:Val),RetV v .nil→Qf (.val v) g))) (Br (intOf (fld y2 0)==7) (Br (decide (0<n1)) (Br (decide (n1≤(↑(elsOf (fld y2 5)).length:Int))) (InB (IntKind.i64.wrap (n1-1)) (elsOf (fld y2 5)).length∧EvF TT 160 [.nil,getE (elsOf (fld y2 5)) (IntKind.i64.wrap (n1-1))] g (KQ Qf λv g'=>∃x,HasTy TT 61 x∧RetV v x∧∀(v:Val),RetV v x→Qf (.val v) g')) (∀(v:Val),RetV v .nil→Qf (.val v) g)) (∀(v:Val),RetV v .nil→Qf (.val v) g)) (∀(v:Val),RetV v .nil→Qf (.val v) g)))):
 L91_4 n1 b5 y2 g Qf:=sx_cut (rk:=rk) (loops:=lo91) (joins:=jo91) (n:=100000) (by kernel_rfl) h
def L90_1(p0:Nat)(x1:Dat)(f2:FuncId)(c2:List Dat)(x10:Dat)(n11:Int)(n12:Int)(g:Glob)(Qf:OGP):Prop:=CutP TT Tryz.f90 [0,1,0] Qf (mkC TT 90 Tryz.f90 3 [(0,.v 107 (.ptr (some (p0,0)))),(1,.v 61 (x1)),(2,.v 1 (.clo f2 c2)),(10,.v 61 (x10)),(11,.v 3 (.int .i64 n11)),(12,.v 3 (.int .i64 n12))] [] g)
def L90_7(p0:Nat)(x26:Dat)(n27:Int)(n28:Int)(g:Glob)(Qf:OGP):Prop:=CutP TT Tryz.f90 [1,1,1,0] Qf (mkC TT 90 Tryz.f90 3 [(0,.v 107 (.ptr (some (p0,0)))),(26,.v 61 (x26)),(27,.v 3 (.int .i64 n27)),(28,.v 3 (.int .i64 n28))] [] g)
def lo90:List CutI:=[⟨1,[(0,.keep),(1,.keep),(2,.keep),(10,.keep),(11,.keep),(12,.keep)],[]⟩,⟨7,[(0,.keep),(26,.keep),(27,.keep),(28,.keep)],[]⟩]
theorem w90{p0:Nat}{x1:Dat}{f2:FuncId}{c2:List Dat}{g:Glob}{Qf:OGP}(h1:HasTy TT 61 x1)
 (h:L90_1 p0 x1 f2 c2 x1 (↑(elsOf x1).length:Int) 0 g Qf):
 EvF TT 90 [.ptr (some (p0,0)),x1,.clo f2 c2] g Qf:=
 sx_fun (rk:=rk) (fn:=Tryz.f90) (loops:=lo90) (joins:=[]) (n:=100000) (args:=[(107,.ptr (some (p0,0))),(61,x1),(1,.clo f2 c2)]) rfl rfl rfl rfl ⟨tyPtr rfl,h1,tyClo rfl,trivial⟩ (by kernel_rfl) h
theorem w90_1{p0:Nat}{x1:Dat}{f2:FuncId}{c2:List Dat}{x10:Dat}{n11:Int}{n12:Int}{g:Glob}{Qf:OGP}
 (h:Br (decide (n12<n11)) (InB n12 (elsOf x10).length∧∃i,GOk TT 108 g p0 1 (Dat.map (some i))∧∃n b,MLook g (some i) (.int .i64 0) (.str (strOf (fld (getE (elsOf x10) n12) 0))) (.int .i64 n) b∧∃g',gmput g i (.str (strOf (fld (getE (elsOf x10) n12) 0))) (.int .i64 (IntKind.i64.wrap (n+1)))=some g'∧L90_1 p0 x1 f2 c2 x10 n11 (IntKind.i64.wrap (n12+1)) g' Qf) (EvF TT f2 c2 g (KQ Qf λv g'=>RetT v []∧L90_7 p0 x1 (↑(elsOf x1).length:Int) 0 g' Qf))):
 L90_1 p0 x1 f2 c2 x10 n11 n12 g Qf:=sx_cut (rk:=rk) (loops:=lo90) (joins:=[]) (n:=100000) (by kernel_rfl) h
theorem w90_7{p0:Nat}{x26:Dat}{n27:Int}{n28:Int}{g:Glob}{Qf:OGP}
 (h:Br (decide (n28<n27)) (InB n28 (elsOf x26).length∧∃i,GOk TT 108 g p0 1 (Dat.map (some i))∧∃n b,MLook g (some i) (.int .i64 0) (.str (strOf (fld (getE (elsOf x26) n28) 0))) (.int .i64 n) b∧∃g',gmput g i (.str (strOf (fld (getE (elsOf x26) n28) 0))) (.int .i64 (IntKind.i64.wrap (n-1)))=some g'∧∃i,GOk TT 108 g' p0 1 (Dat.map (some i))∧∃n b,MLook g' (some i) (.int .i64 0) (.str (strOf (fld (getE (elsOf x26) n28) 0))) (.int .i64 n) b∧Br (n==0) (∃i,GOk TT 108 g' p0 1 (Dat.map (some i))∧∃g'_1,gmdel g' i (.str (strOf (fld (getE (elsOf x26) n28) 0)))=some g'_1∧L90_7 p0 x26 n27 (IntKind.i64.wrap (n28+1)) g'_1 Qf) (L90_7 p0 x26 n27 (IntKind.i64.wrap (n28+1)) g' Qf)) (Qf (.val (.tuple [])) g)):
 L90_7 p0 x26 n27 n28 g Qf:=sx_cut (rk:=rk) (loops:=lo90) (joins:=[]) (n:=100000) (by kernel_rfl) h
def lo38:List CutI:=[]
theorem w38{x0:Dat}{g:Glob}{Qf:OGP}(h0:HasTy TT 27 x0)
 (h:EvF TT 27 [.agg [.nil,.int .i64 (intOf (fld x0 0)),.str (strOf (fld x0 1)),.str (strOf (fld x0 2)),.int .i64 (intOf (fld x0 3)),fld x0 4,fld x0 5,.int .i64 (intOf (fld x0 6))]] g (KQ Qf λv g'=>∃n,v=.d (.int .i64 n)∧Qf (.val (.d (.bool (decide (n≤1200))))) g')):
 EvF TT 38 [x0] g Qf:=
 sx_fun (rk:=rk) (fn:=Tryz.f38) (loops:=lo38) (joins:=[]) (n:=100000) (args:=[(27,x0)]) rfl rfl rfl rfl ⟨h0,trivial⟩ (by kernel_rfl) h
def lo11:List CutI:=[]
theorem w11{x0:Dat}{g:Glob}{Qf:OGP}(h0:HasTy TT 27 x0)
 (h:EvF TT 37 [x0] g (KQ Qf λv g'=>∃b,v=.d (.bool b)∧Br b (EvF TT 28 [] g' (KQ Qf λv g'=>∃b,v=.d (.bool b)∧Qf (.val (.d (.bool b))) g')) (EvF TT 38 [x0] g' (KQ Qf λv g'=>∃b,v=.d (.bool b)∧Br (!b) (EvF TT 28 [] g' (KQ Qf λv g'=>∃b,v=.d (.bool b)∧Qf (.val (.d (.bool b))) g')) (EvF TT 41 [.sl 7 [x0]] g' (KQ Qf λv g'=>∃x,HasTy TT 24 x∧RetV v x∧InB 0 (elsOf x).length∧EvF TT 40 [getE (elsOf x) 0] g' (KQ Qf λv g'=>∃x,HasTy TT 61 x∧RetV v x∧EvF TT 42 [x0] g' (KQ Qf λv g'=>∃x_1,HasTy TT 61 x_1∧RetV v x_1∧EvF TT 39 [x,x_1] g' (KQ Qf λv g'=>∃b,v=.d (.bool b)∧Br b (EvF TT 28 [] g' (KQ Qf λv g'=>∃b,v=.d (.bool b)∧Qf (.val (.d (.bool b))) g')) (Qf (.val (.d (.bool false))) g')))))))))):
 EvF TT 11 [x0] g Qf:=
 sx_fun (rk:=rk) (fn:=Tryz.f11) (loops:=lo11) (joins:=[]) (n:=100000) (args:=[(27,x0)]) rfl rfl rfl rfl ⟨h0,trivial⟩ (by kernel_rfl) h
def L12_9(x4:Dat)(n6:Int)(y5:Dat)(g:Glob)(Qf:OGP):Prop:=CutP TT Tryz.f12 [1,1,1,1,1,1,0,1,0] Qf (mkC TT 12 Tryz.f12 1 [(4,.v 61 (x4)),(5,.loc 5 0 0),(6,.v 3 (.int .i64 n6))] [(5,.whole 27 y5)] g)
def lo12:List CutI:=[⟨9,[(4,.keep),(5,.keep),(6,.keep)],[(5,.whole 27)]⟩]
theorem w12{x0:Dat}{g:Glob}{Qf:OGP}(h0:HasTy TT 29 x0)
 (h:EvF TT 21 [x0] g (KQ Qf λv g'=>∃b,v=.d (.bool b)∧Br b (EvF TT 28 [] g' (KQ Qf λv g'=>∃b,v=.d (.bool b)∧Qf (.val (.d (.bool b))) g')) (EvF TT 38 [sub x0 1 7] g' (KQ Qf λv g'=>∃b,v=.d (.bool b)∧Br (!b) (EvF TT 28 [] g' (KQ Qf λv g'=>∃b,v=.d (.bool b)∧Qf (.val (.d (.bool b))) g')) (EvF TT 23 [x0] g' (KQ Qf λv g'=>∃x,HasTy TT 29 x∧v=.d x∧EvF TT 29 [x] g' (KQ Qf λv g'=>∃x,HasTy TT 49 x∧v=.d x∧EvF TT 23 [x0] g' (KQ Qf λv g'=>∃x_1,HasTy TT 29 x_1∧v=.d x_1∧EvF TT 40 [sub x_1 1 7] g' (KQ Qf λv g'=>∃x_2,HasTy TT 61 x_2∧RetV v x_2∧Br (intOf (fld x 0)==0) (Br (decide (0<(↑(elsOf x_2).length:Int))) (Qf (.val (.d (.bool false))) g') (EvF TT 23 [x0] g' (KQ Qf λv g'=>∃x,HasTy TT 29 x∧v=.d x∧L12_9 x_2 0 (sub x 1 7) g' Qf))) (EvF TT 23 [x0] g' (KQ Qf λv g'=>∃x,HasTy TT 29 x∧v=.d x∧L12_9 x_2 0 (sub x 1 7) g' Qf))))))))))):
 EvF TT 12 [x0] g Qf:=
 sx_fun (rk:=rk) (fn:=Tryz.f12) (loops:=lo12) (joins:=[]) (n:=100000) (args:=[(29,x0)]) rfl rfl rfl rfl ⟨h0,trivial⟩ (by kernel_rfl) h
end Go.Proofs.YtgmapdcdmomioaaGreatDoor.Pa
namespace Go.Proofs.YtgmapdcdmomioaaGreatDoor.Pa
open Go Go.Proofs.YtgmapdcdmomioaaGreatDoor.Am
theorem mapStr_inj{l k:List Str}(h:l.map Dat.str=k.map Dat.str):l=k:=by
 have:=congrArg (List.map strOf) h
 rw[List.map_map,List.map_map] at this
 have e:∀m:List Str,m.map (strOf∘Dat.str)=m:=λm=>List.map_id'' (λ_=>rfl) m
 rw[e,e] at this
 exact this
theorem brT{c:Bool}{A B:Prop}(q:c=true)(h:A):Br c A B:=by subst q;exact h
theorem brF{c:Bool}{A B:Prop}(q:c=false)(h:B):Br c A B:=by subst q;exact h
theorem bcast{a b:Bool}{g:Glob}{Qf:OGP}(h:Qf (.val (.d (.bool a))) g)(e:a=b):Qf (.val (.d (.bool b))) g:=e▸h
theorem vars_ok:∀(n:Nat) {x X:Dat} {l:List Str} {b:Nat} {g:Glob} {Qf:OGP},SizeOf.sizeOf x<n→HasTy TT 127 x→Gr b g X l→b≤g.toks.length→(∀s∈l,s.length≤2^40)→l.length+szPt (absPt x)≤2^29→
 (∀X' g' v,Gr b g' X' (l++varsP (absPt x))→(∀s∈l++varsP (absPt x),s.length≤2^40)→KeepT b g g'→RetV v X'→Qf (.val v) g')→EvF TT 160 [X,x] g Qf
 |0,x,X,l,b,g,Qf,h,_,_,_,_,_,_=>by omega
 |n+1,x,X,l,b,g,Qf,hsz,hx,hg,hb,hs,hn,hQ=>by
  obtain⟨k1,s1,v1,a1,p1,rfl,hs1,t1⟩:=pat_ty hx
  have ex:=t1.els undPats
  have exl:=ex.1.1
  have hc:=sizeOf_cell (cs:=[.int .i64 k1,.str s1,.int .i64 v1,a1,.int .i64 p1]) (c:=a1) (by simp)
  have e1:varsP (absPt (.agg [.int .i64 k1,.str s1,.int .i64 v1,a1,.int .i64 p1]))=(if k1==2 then[s1] else[])++varsPs (((elsOf a1).drop 0).map absPt):=by simp only[absPt,varsP,absPtA_map,List.drop_zero]
  have e2:szPt (absPt (.agg [.int .i64 k1,.str s1,.int .i64 v1,a1,.int .i64 p1]))=1+szPts (((elsOf a1).drop 0).map absPt):=by simp only[absPt,szPt,absPtA_map,List.drop_zero]
  rw[e1] at hQ
  rw[e2] at hn
  have hF:l.length≤2^29:=by omega
  have loop:∀{X:Dat} {l0:List Str} {g0:Glob},Gr b g0 X l0→b≤g0.toks.length→(∀s∈l0,s.length≤2^40)→l0.length+szPts (((elsOf a1).drop 0).map absPt)≤2^29→
   (∀X' g' v,Gr b g' X' (l0++varsPs (((elsOf a1).drop 0).map absPt))→(∀s∈l0++varsPs (((elsOf a1).drop 0).map absPt),s.length≤2^40)→KeepT b g0 g'→RetV v X'→Qf (.val v) g')→L160_4 X a1 ((elsOf a1).length:Int) 0 g0 Qf:=by
   intro X l0 g0 hg hb hs hn hQ
   refine loopUp (len:=(elsOf a1).length) (λi=>∀{X:Dat} {l0:List Str} {g0:Glob},Gr b g0 X l0→b≤g0.toks.length→(∀s∈l0,s.length≤2^40)→l0.length+szPts (((elsOf a1).drop i).map absPt)≤2^29→
    (∀X' g' v,Gr b g' X' (l0++varsPs (((elsOf a1).drop i).map absPt))→(∀s∈l0++varsPs (((elsOf a1).drop i).map absPt),s.length≤2^40)→KeepT b g0 g'→RetV v X'→Qf (.val v) g')→L160_4 X a1 ((elsOf a1).length:Int) (i:Int) g0 Qf) ?_ ?_ 0 (Nat.zero_le _) hg hb hs hn hQ
   ·intro X l0 g0 hg hb hs hn hQ
    refine w160_4 ?_
    rw[Br_ge]
    rw[List.drop_length] at hQ
    simp only[List.map_nil,varsPs,List.append_nil] at hQ
    exact λv hv=>hQ X g0 v hg hs (KeepT.refl _ _) hv
   ·intro i hi ih X l0 g0 hg hb hs hn hQ
    refine w160_4 ?_
    rw[Br_lt hi,getE_nat hi]
    have h1:=sizeOf_el hi
    rw[szPts_drop hi] at hn
    rw[varsPs_drop hi] at hQ
    refine⟨inB hi,vars_ok n (by omega) (ex.2 _ (List.getElem_mem hi)) hg hb hs (by omega) λX' g' v hg' hs' hk hv=>?_⟩
    have hlen:=varsP_len (absPt (elsOf a1)[i])
    refine⟨X',hg'.ty (by rw[List.length_append];omega) hs',hv,?_⟩
    rw[wrap_nat (by omega)]
    refine ih hg' (Nat.le_trans hb hk.len) hs' (by rw[List.length_append];omega) λX'' g'' v' h1 h2 h3 h4=>?_
    rw[List.append_assoc] at h1 h2
    exact hQ X'' g'' v' h1 h2 (hk.trans h3) h4
  refine w160 (hg.ty (by omega) hs) hx ?_
  show Br (k1==2) (Fits ((elsOf X).length+1) 16∧∃r g',gapp 1 X [.str s1] (gtok g 1 1)=some (r,g')∧L160_4 r a1 ((elsOf a1).length:Int) 0 g' Qf) (L160_4 X a1 ((elsOf a1).length:Int) 0 g Qf)
  refine Br_iff.2 ⟨λq=>?_,λq=>?_⟩
  ·rw[q] at hQ
   simp only[if_true] at hQ
   obtain⟨r,g',a,h2,h3⟩:=hg.app hb s1
   refine⟨fitS' (by rw[elsLen hg.els];omega),r,g',a,loop h2 (Nat.le_trans hb h3.len) (λs hs'=>?_) (by rw[List.length_append];simp only[List.length_cons,List.length_nil];omega) λX' g'' v q1 q2 q3 q4=>?_⟩
   ·rcases List.mem_append.1 hs' with h|h
    ·exact hs s h
    ·rw[List.mem_singleton] at h;subst h;exact hs1
   ·rw[List.append_assoc] at q1 q2
    exact hQ X' g'' v q1 q2 (h3.trans q3) q4
  ·rw[q] at hQ
   simp only[Bool.false_eq_true,if_false,List.nil_append] at hQ
   exact loop hg hb hs (by omega) hQ
end Go.Proofs.YtgmapdcdmomioaaGreatDoor.Pa
namespace Go.Proofs.YtgmapdcdmomioaaGreatDoor.Pa
open Go Go.Proofs.YtgmapdcdmomioaaGreatDoor.Am
theorem oneBox_refl(i:Nat)(g:Glob):OneBox i g g:=by
 by_cases h:i<g.boxes.length
 ·exact⟨g.boxes[i],by simp⟩
 ·exact⟨default,by rw[List.set_eq_of_length_le (by omega)]⟩
theorem gokD{g:Glob}{i o n:Nat}{cs:List GVal}{x:Dat}{t:TypeId}{d:TypeDesc}(hu:TT.und t=some d)(hs:TT.size t=some n)(ha:isAggD d=false)(hb:g.boxes[i]?=some (.cells cs))(hc:cs[o]?=some (.d x)):GOk TT t g i o x:=by
 refine⟨.d x,?_,rfl,rfl⟩
 simp only[gload,hb,loadV,hu,hs,ha,Bool.false_eq_true,if_false,List.head?_map,List.head?_drop,hc]
 rfl
theorem undMap:TT.und 108=some (.map 9 3):=by kernel_rfl
theorem sizeMap:TT.size 108=some 1:=by kernel_rfl
def ScBox(g:Glob)(p mb:Nat)(D:Dat):Prop:=g.boxes[p]?=some (.cells [.d D,.d (.map (some mb))])
theorem ScBox.map{g:Glob}{p mb:Nat}{D:Dat}(h:ScBox g p mb D):GOk TT 108 g p 1 (.map (some mb)):=gokD undMap sizeMap rfl h rfl
theorem ScBox.one{g g':Glob}{p mb:Nat}{D:Dat}{F:Dat→Option Dat}(h:ScBox g p mb D)(hm:MapIs true g mb F)(ho:OneBox mb g g'):ScBox g' p mb D:=by
 have hne:p≠mb:=λe=>by
  obtain⟨es,c,h1,_⟩:=hm
  unfold ScBox at h
  rw[e,h1] at h
  cases h
 exact(ho.get hne).trans h
theorem with_ok{p mb f:Nat}{D x:Dat}{l:List Str}{cap:List Dat}{g:Glob}{c:Str→Nat}{Qf:OGP}(hx:HasTy TT 61 x)(hl:elsOf x=l.map .str)(hc:∀s,c s+l.length≤2^60)(h0:ScBox g p mb D)(hm:MapIs true g mb (cntF c))
 (body:∀g1,OneBox mb g g1→MapIs true g1 mb (cntF (addL c l))→EvF TT f cap g1 λout g2=>Outc (λx=>Qf (.panic x) g2) (λv=>RetT v []∧ScBox g2 p mb D∧MapIs true g2 mb (cntF (addL c l))∧
  ∀g3,OneBox mb g2 g3→MapIs true g3 mb (cntF c)→Qf (.val (.tuple [])) g3) out):EvF TT 90 [.ptr (some (p,0)),x,.clo f cap] g Qf:=by
 have eln:=elsLen hl
 have hn:l.length≤2^40:=by have:=(hx.els undStrs).1.1;rw[eln] at this;exact this
 refine w90 hx ?_
 rw[eln]
 refine loopUp (len:=l.length) (λi=>∀g1,OneBox mb g g1→MapIs true g1 mb (cntF (addL c (l.take i)))→L90_1 p x f cap x (l.length:Int) (i:Int) g1 Qf) ?_ ?_ 0 (Nat.zero_le _) g (oneBox_refl _ _) (by simpa[addL_nil] using hm)
 ·intro g1 ho hm1
  refine w90_1 ?_
  rw[Br_ge]
  rw[List.take_length] at hm1
  refine(body g1 ho hm1).mono λout g2 hp=>?_
  cases out with
  |panic y=>exact hp
  |val v=>
   obtain⟨hv,hb2,hm2,hk⟩:=hp
   refine⟨hv,?_⟩
   rw[eln]
   refine loopUp (len:=l.length) (λi=>∀g3,OneBox mb g2 g3→MapIs true g3 mb (cntF (addL c (l.drop i)))→L90_7 p x (l.length:Int) (i:Int) g3 Qf) ?_ ?_ 0 (Nat.zero_le _) g2 (oneBox_refl _ _) hm2
   ·intro g3 ho3 hm3
    refine w90_7 ?_
    rw[Br_ge]
    rw[List.drop_length,addL_nil] at hm3
    exact hk g3 ho3 hm3
   ·intro i hi ih g3 ho3 hm3
    refine w90_7 ?_
    rw[Br_lt hi,strAt hl hi,eln]
    have hb3:=hb2.one hm2 ho3
    rw[List.drop_eq_getElem_cons hi] at hm3
    have hle:addL c (l[i]::l.drop (i+1)) l[i]≤2^60:=addL_le c _ (λs=>by have:=hc s;simp only[List.length_cons,List.length_drop];omega) _
    have hpos:1≤addL c (l[i]::l.drop (i+1)) l[i]:=by
     have:(l[i]::l.drop (i+1)).count l[i]=(l.drop (i+1)).count l[i]+1:=List.count_cons_self
     unfold addL
     omega
    have h1:=hm3.mlook (z:=.int .i64 0) (strKey l[i])
    rw[cntF_get] at h1
    obtain⟨g4,a,b,d⟩:=hm3.put (strKey l[i]) (.int .i64 (IntKind.i64.wrap ((addL c (l[i]::l.drop (i+1)) l[i]:Nat)-1:Int)))
    have hw:IntKind.i64.wrap ((addL c (l[i]::l.drop (i+1)) l[i]:Nat)-1:Int)=((addL c (l[i]::l.drop (i+1)) l[i]-1:Nat):Int):=by
     rw[wrap_id (by omega) (by omega)]
     omega
    have hb4:=hb3.one hm3 b
    have h2:=d.mlook (z:=.int .i64 0) (strKey l[i])
    rw[updF_same] at h2
    refine⟨inB hi,mb,hb3.map,_,_,h1,g4,a,mb,hb4.map,_,_,h2,?_⟩
    rw[hw] at d⊢
    refine Br_iff.2 ⟨λq=>?_,λq=>?_⟩
    ·obtain⟨g5,a5,b5,d5⟩:=d.del (strKey l[i])
     refine⟨mb,hb4.map,g5,a5,?_⟩
     rw[wrap_nat (by omega)]
     refine ih g5 ((ho3.trans b).trans b5) ?_
     have hz:addL c (l[i]::l.drop (i+1)) l[i]-1=0:=by
      have:((addL c (l[i]::l.drop (i+1)) l[i]-1:Nat):Int)=0:=by simpa using q
      omega
     rw[updF_updF,updF_del,←hz,setC_dec] at d5
     exact d5
    ·rw[wrap_nat (by omega)]
     refine ih g4 (ho3.trans b) ?_
     have hz:addL c (l[i]::l.drop (i+1)) l[i]-1≠0:=by
      intro e
      rw[e] at q
      simp at q
     rw[updF_put _ _ hz,setC_dec] at d
     exact d
 ·intro i hi ih g1 ho hm1
  refine w90_1 ?_
  rw[Br_lt hi,strAt hl hi,eln]
  have hb1:=h0.one hm ho
  have hle:addL c (l.take i) l[i]≤2^60:=addL_le c _ (λs=>by have:=hc s;rw[List.length_take];omega) _
  obtain⟨h1,g2,a,b,d⟩:=map_inc hm1 l[i] hle
  refine⟨inB hi,mb,hb1.map,_,_,h1,g2,a,?_⟩
  rw[wrap_nat (by omega)]
  refine ih g2 (ho.trans b) ?_
  rw[addL_app] at d
  rw[List.take_succ_eq_append_getElem hi]
  exact d
theorem nat0(i:Nat):((i:Int)==0)=(i==0):=by
 rw[Bool.eq_iff_iff];simp
theorem nat1(i:Nat):((i:Int)==1)=(i==1):=by
 rw[Bool.eq_iff_iff];simp;omega
theorem natP(i:Nat):decide ((0:Int)<(i:Int))=decide (0<i):=by simp
theorem natL(i n:Nat):decide ((i:Int)≤(n:Int))=decide (i≤n):=by simp
theorem absPt_at{b1:Dat}{i:Nat}(h1:0<i)(h2:i≤(elsOf b1).length):(((elsOf b1).map absPt)[i-1]?).getD default=absPt ((elsOf b1)[i-1]'(by omega)):=by
 rw[List.getElem?_map,List.getElem?_eq_getElem (by omega)]
 rfl
theorem patAt{b1:Dat}{i:Nat}(h1:0<i)(h2:i≤(elsOf b1).length)(h3:i≤2^40):InB (IntKind.i64.wrap ((i:Int)-1)) (elsOf b1).length∧getE (elsOf b1) (IntKind.i64.wrap ((i:Int)-1))=(elsOf b1)[i-1]'(by omega):=by
 rw[wrap_id (by omega) (by omega),show(i:Int)-1=((i-1:Nat):Int) from by omega]
 exact⟨inB (by omega),getE_nat (by omega)⟩
theorem binds_ok{k1 v1 p1:Int}{s1 r1:Str}{a1 b1:Dat}{i:Nat}{g:Glob}{Qf:OGP}(hx:HasTy TT 27 (.agg [.int .i64 k1,.str s1,.str r1,.int .i64 v1,a1,b1,.int .i64 p1]))(hi:i≤2^40)(hz:szPts ((elsOf b1).map absPt)≤2^28)
 (hQ:∀v z g',RetV v z→HasTy TT 61 z→elsOf z=(bindsOf k1 s1 r1 ((elsOf b1).map absPt) i).map .str→KeepT g.toks.length g g'→Qf (.val v) g'):EvF TT 91 [.agg [.int .i64 k1,.str s1,.str r1,.int .i64 v1,a1,b1,.int .i64 p1],.int .i64 i] g Qf:=by
 obtain⟨k',s',r',n',a',b',p',e,hs,hr,ta,tb⟩:=expr_ty hx
 cases e
 have L1:bindsOf k1 s1 r1 ((elsOf b1).map absPt) i=[s1]→Qf (.val (.uq 1 [.str s1])) g:=λe=>hQ _ (.sl 1 ([s1].map .str)) g rfl (strs_sl (by simp) (by simpa using hs)) (by rw[e];rfl) (KeepT.refl _ _)
 have L2:bindsOf k1 s1 r1 ((elsOf b1).map absPt) i=[s1,r1]→Qf (.val (.uq 1 [.str s1,.str r1])) g:=λe=>hQ _ (.sl 1 ([s1,r1].map .str)) g rfl (strs_sl (by simp) (by simpa using⟨hs,hr⟩)) (by rw[e];rfl) (KeepT.refl _ _)
 have L0:bindsOf k1 s1 r1 ((elsOf b1).map absPt) i=[]→∀v,RetV v .nil→Qf (.val v) g:=λe v hv=>hQ v .nil g hv strs_nil (by rw[e];rfl) (KeepT.refl _ _)
 have L3:(∀x,bindsOf k1 s1 r1 ((elsOf b1).map absPt) i=varsP ((((elsOf b1).map absPt)[i-1]?).getD default)∨x)→0<i→i≤(elsOf b1).length→InB (IntKind.i64.wrap ((i:Int)-1)) (elsOf b1).length∧
  EvF TT 160 [Dat.nil,getE (elsOf b1) (IntKind.i64.wrap ((i:Int)-1))] g (KQ Qf λv g'=>∃x,HasTy TT 61 x∧RetV v x∧∀(v:Val),RetV v x→Qf (Out.val v) g'):=λe h1 h2=>by
  have e:=(e False).resolve_right id
  rw[absPt_at h1 h2] at e
  obtain⟨q1,q2⟩:=patAt h1 h2 hi
  refine⟨q1,?_⟩
  rw[q2]
  have hm:szPt (absPt ((elsOf b1)[i-1]'(by omega)))≤2^28:=Nat.le_trans (szPts_mem (i:=i-1) (by rw[List.getElem?_map,List.getElem?_eq_getElem (by omega)];rfl)) hz
  refine vars_ok _ (Nat.lt_succ_self _) ((tb.els undPats).2 _ (List.getElem_mem _)) (Gr.nil g.toks.length g) (Nat.le_refl _) (λs h=>by cases h) (by simp only[List.length_nil];omega) λX' g' v h3 h4 h5 h6=>?_
  rw[List.nil_append] at h3 h4
  have hlen:=varsP_len (absPt ((elsOf b1)[i-1]'(by omega)))
  have hty:=h3.ty (by omega) h4
  exact⟨X',hty,h6,λv' hv'=>hQ v' X' g' hv' hty (by rw[e];exact h3.els) h5⟩
 have key:∀b5,b5=(k1==3&&i==0||k1==5&&i==1||k1==6&&i==1)→L91_4 (i:Int) b5 (.agg [.int .i64 k1,.str s1,.str r1,.int .i64 v1,a1,b1,.int .i64 p1]) g Qf:=by
  intro b5 h5
  refine w91_4 ?_
  rw[nat0,natP]
  rw[show((fld (.agg [.int .i64 k1,.str s1,.str r1,.int .i64 v1,a1,b1,.int .i64 p1]) 5))=b1 from rfl,natL]
  show Br b5 (Qf (.val (.uq 1 [.str s1])) g) (Br (k1==6) (Br (i==0) (Qf (.val (.uq 1 [.str s1,.str r1])) g) (Br (k1==7) (Br (decide (0<i)) (Br (decide (i≤(elsOf b1).length)) _ _) _) _)) (Br (k1==7) (Br (decide (0<i)) (Br (decide (i≤(elsOf b1).length)) _ _) _) _))
  have hlen:((elsOf b1).map absPt).length=(elsOf b1).length:=by simp
  refine Br_iff.2 ⟨λq1=>L1 ?_,λq1=>?_⟩
  ·unfold bindsOf;rw[←h5,q1];rfl
  ·have B:bindsOf k1 s1 r1 ((elsOf b1).map absPt) i=if k1==6&&i==0 then[s1,r1] else if k1==7&&(decide (0<i)&&decide (i≤(elsOf b1).length)) then varsP ((((elsOf b1).map absPt)[i-1]?).getD default) else[]:=by
    unfold bindsOf;rw[←h5,q1,hlen];rfl
   have seven:(k1==6&&i==0)=false→Br (k1==7) (Br (decide (0<i)) (Br (decide (i≤(elsOf b1).length)) (InB (IntKind.i64.wrap ((i:Int)-1)) (elsOf b1).length∧
   EvF TT 160 [Dat.nil,getE (elsOf b1) (IntKind.i64.wrap ((i:Int)-1))] g (KQ Qf λv g'=>∃x,HasTy TT 61 x∧RetV v x∧∀(v:Val),RetV v x→Qf (Out.val v) g')) (∀(v:Val),RetV v Dat.nil→Qf (Out.val v) g)) (∀(v:Val),RetV v Dat.nil→Qf (Out.val v) g)) (∀(v:Val),RetV v Dat.nil→Qf (Out.val v) g):=by
    intro h6
    rw[h6] at B
    refine Br_iff.2 ⟨λq2=>Br_iff.2 ⟨λq3=>Br_iff.2 ⟨λq4=>L3 (λx=>.inl ?_) (of_decide_eq_true q3) (of_decide_eq_true q4),λq4=>L0 ?_⟩,λq3=>L0 ?_⟩,λq2=>L0 ?_⟩
    ·rw[B,q2,q3,q4];rfl
    ·rw[B,q2,q3,q4];rfl
    ·rw[B,q2,q3];rfl
    ·rw[B,q2];rfl
   refine Br_iff.2 ⟨λq2=>Br_iff.2 ⟨λq3=>L2 ?_,λq3=>seven (by rw[q2,q3];rfl)⟩,λq2=>seven (by rw[q2];rfl)⟩
   rw[B,q2,q3];rfl
 refine w91 hx ?_
 rw[nat0,nat1]
 show Br (k1==3) (Br (i==0) _ (Br (k1==5) (Br (i==1) _ (Br (k1==6) _ _)) (Br (k1==6) _ _))) (Br (k1==5) (Br (i==1) _ (Br (k1==6) _ _)) (Br (k1==6) _ _))
 repeat' (first|refine Br_iff.2 ⟨λq=>?_,λq=>?_⟩)
 all_goals (refine key _ ?_;simp_all)
end Go.Proofs.YtgmapdcdmomioaaGreatDoor.Pa
namespace Go.Proofs.YtgmapdcdmomioaaGreatDoor.Pa
open Go Go.Proofs.YtgmapdcdmomioaaGreatDoor.Am
theorem szExs_mem{l:List Ex'}{i:Nat}{x:Ex'}(h:l[i]?=some x):szEx x≤szExs l:=by
 induction l generalizing i with
 |nil=>simp at h
 |cons y l ih=>
  cases i with
  |zero=>simp at h;subst h;simp only[szExs];omega
  |succ i=>have:=ih (i:=i) (by simpa using h);simp only[szExs];omega
end Go.Proofs.YtgmapdcdmomioaaGreatDoor.Pa
namespace Go.Proofs.YtgmapdcdmomioaaGreatDoor.Pa
open Go Go.Proofs.YtgmapdcdmomioaaGreatDoor.Am
theorem gnew_len(g:Glob)(ds:List Dat):(gnew g ds).boxes.length=g.boxes.length+1:=by simp[gnew]
theorem gnew_get(g:Glob)(ds:List Dat):(gnew g ds).boxes[g.boxes.length]?=some (.cells (ds.map .d)):=by simp[gnew]
theorem gnew_old{g:Glob}(ds:List Dat){j:Nat}(h:j<g.boxes.length):(gnew g ds).boxes[j]?=g.boxes[j]?:=by simp only[gnew];rw[List.getElem?_append_left h]
theorem gmnew_len(g:Glob):(gmnew g).boxes.length=g.boxes.length+1:=by simp[gmnew]
theorem gmnew_old{g:Glob}{j:Nat}(h:j<g.boxes.length):(gmnew g).boxes[j]?=g.boxes[j]?:=by simp only[gmnew];rw[List.getElem?_append_left h]
theorem gput_one{g:Glob}{i:Nat}{c:GVal}{x:Dat}(hb:g.boxes[i]?=some (.cells [c]))(h1:x.one=true):GPut g i 0 1∧gput g i 0 x={g with boxes:=g.boxes.set i (.cells [.d x])}:=by
 refine⟨⟨_,hb,Nat.le_refl _⟩,?_⟩
 have hc:x.cells=[x]:=by cases x<;>first|rfl|cases h1
 unfold gput
 rw[hb,hc]
 rfl
theorem putAll_same{β:Type}:∀(vs cs pre:List β),cs.length=vs.length→putAll (pre++cs) pre.length vs=pre++vs:=λvs cs pre h=>putAll_all pre h
theorem gput_all{g:Glob}{i n:Nat}{cs:List GVal}{ds:List Dat}(hb:g.boxes[i]?=some (.cells cs))(hn:cs.length=n)(hd:ds.length=n):GPut g i 0 n∧gput g i 0 (.agg ds)={g with boxes:=g.boxes.set i (.cells (ds.map .d))}:=by
 refine⟨⟨_,hb,by omega⟩,?_⟩
 unfold gput
 rw[hb]
 simp only[Dat.cells]
 have:=putAll_same (ds.map GVal.d) cs [] (by rw[List.length_map,hd,hn])
 simp only[List.nil_append,List.length_nil] at this
 rw[this]
theorem gput_new{g:Glob}{z ds:List Dat}{n:Nat}(hz:z.length=n)(hd:ds.length=n):GPut (gnew g z) g.boxes.length 0 n∧gput (gnew g z) g.boxes.length 0 (.agg ds)=gnew g ds:=by
 obtain⟨a,b⟩:=gput_all (ds:=ds) (gnew_get g z) (by rw[List.length_map,hz]) hd
 refine⟨a,b.trans ?_⟩
 simp[gnew]
theorem gok_agg{g:Glob}{i n:Nat}{ds:List Dat}{t:TypeId}{d:TypeDesc}(hu:TT.und t=some d)(hs:TT.size t=some n)(ha:isAggD d=true)(hb:g.boxes[i]?=some (.cells (ds.map .d)))(hn:ds.length=n):GOk TT t g i 0 (.agg ds):=by
 refine⟨.d (.agg ds),?_,rfl,rfl⟩
 have hm:optAll ((ds.map GVal.d).map λx=>Val.isD x.v)=some ds:=by
  rw[List.map_map]
  have:((λx=>Val.isD x.v)∘GVal.d)=(some:Dat→Option Dat):=rfl
  rw[this]
  clear hb hn
  induction ds with
  |nil=>rfl
  |cons x ds ih=>simp only[List.map_cons,optAll,ih]
 simp only[gload,hb,loadV,hu,hs,ha,if_true,List.drop_zero,List.length_map]
 rw[if_pos (by omega),List.take_of_length_le (by simp;omega)]
 unfold mkAgg
 rw[List.map_map]
 have e:(Val.isD∘GVal.v)=λx:GVal=>Val.isD x.v:=rfl
 rw[e,hm]
structure Kp(bx:List Nat)(b:Nat)(g g':Glob):Prop where
 len:g.boxes.length≤g'.boxes.length
 box:∀j,j<g.boxes.length→j ∉ bx→g'.boxes[j]?=g.boxes[j]?
 tlen:g.toks.length≤g'.toks.length
 tok:∀j,j<b→g'.toks[j]?=g.toks[j]?
theorem Kp.refl(bx:List Nat)(b:Nat)(g:Glob):Kp bx b g g:=⟨Nat.le_refl _,λ_ _ _=>rfl,Nat.le_refl _,λ_ _=>rfl⟩
theorem Kp.trans{bx:List Nat}{b:Nat}{g g' g'':Glob}(h:Kp bx b g g')(k:Kp bx b g' g''):Kp bx b g g'':=
 ⟨Nat.le_trans h.len k.len,λj hj hx=>(k.box j (Nat.lt_of_lt_of_le hj h.len) hx).trans (h.box j hj hx),Nat.le_trans h.tlen k.tlen,λj hj=>(k.tok j hj).trans (h.tok j hj)⟩
theorem Kp.le{bx bx':List Nat}{b b':Nat}{g g':Glob}(h:Kp bx b g g')(hx:∀j∈bx,j∈bx')(hb:b'≤b):Kp bx' b' g g':=
 ⟨h.len,λj hj hn=>h.box j hj λq=>hn (hx j q),h.tlen,λj hj=>h.tok j (Nat.lt_of_lt_of_le hj hb)⟩
theorem KeepT.kp{b:Nat}{g g':Glob}(h:KeepT b g g'):Kp [] b g g':=⟨by rw[h.boxes];exact Nat.le_refl _,λj _ _=>by rw[h.boxes],h.len,h.old⟩
theorem boxKp{i:Nat}{g g':Glob}(h:OneBox i g g')(b:Nat):Kp [i] b g g':=⟨by rw[h.len];exact Nat.le_refl _,λj _ hn=>h.get (by simpa using hn),by rw[h.toks];exact Nat.le_refl _,λj _=>by rw[h.toks]⟩
theorem kp_gnew(g:Glob)(ds:List Dat)(b:Nat):Kp [] b g (gnew g ds):=⟨by rw[gnew_len];omega,λj hj _=>gnew_old ds hj,Nat.le_refl _,λ_ _=>rfl⟩
structure FEnv where
 ps:Nat
 p0:Nat
 mb:Nat
 pm:Nat
 mm:Nat
 po:Nat
 pl:Nat
 D:Dat
 b:Nat
def FEnv.caps(V:FEnv):List Dat:=[.ptr (some (V.ps,0)),.ptr (some (V.pm,0)),.ptr (some (V.po,0)),.ptr (some (V.pl,0))]
structure FFix(V:FEnv)(g:Glob):Prop where
 s:g.boxes[V.ps]?=some (.cells [.d (.ptr (some (V.p0,0)))])
 z:ScBox g V.p0 V.mb V.D
 m:g.boxes[V.pm]?=some (.cells [.d (.map (some V.mm))])
 l:g.boxes[V.pl]?=some (.cells [.d (.clo 89 V.caps)])
structure FSt(V:FEnv)(g:Glob)(c:Str→Nat)(out:List Str)(K:Nat):Prop where
 fix:FFix V g
 bnd:MapIs true g V.mb (cntF c)
 met:∃m,MapIs true g V.mm (cntF m)∧(∀s,0<m s↔s∈out)∧∀s,m s≤K
 res:∃X,g.boxes[V.po]?=some (.cells [.d X])∧Gr V.b g X out
 tb:V.b≤g.toks.length
 strs:∀s∈out,s.length≤2^40
 len:out.length≤K
theorem undSp:TT.und 107=some (.pointer 110):=by kernel_rfl
theorem sizeSp:TT.size 107=some 1:=by kernel_rfl
theorem isAgg_und{t:TypeId}(h:isAgg? (TT.und t)=true):∃d,TT.und t=some d∧isAggD d=true:=by
 cases hd:TT.und t with
 |none=>rw[hd] at h;cases h
 |some d=>rw[hd] at h;cases d<;>first|exact⟨_,rfl,rfl⟩|cases h
theorem sizeStrs:TT.size 61=some 1:=by kernel_rfl
theorem undExpr:∃d,TT.und 27=some d∧isAggD d=true:=isAgg_und (by kernel_rfl)
theorem gloadD{g:Glob}{i o n:Nat}{cs:List GVal}{x:Dat}{t:TypeId}{d:TypeDesc}(hu:TT.und t=some d)(hs:TT.size t=some n)(ha:isAggD d=false)(hb:g.boxes[i]?=some (.cells cs))(hc:cs[o]?=some (.d x)):gload TT t g i o=some (.d x):=by
 simp only[gload,hb,loadV,hu,hs,ha,Bool.false_eq_true,if_false,List.head?_map,List.head?_drop,hc]
 rfl
theorem FFix.ptr{V:FEnv}{g:Glob}(h:FFix V g):GOk TT 107 g V.ps 0 (.ptr (some (V.p0,0))):=gokD undSp sizeSp rfl h.s rfl
def cB(bd:List Str):Str→Nat:=λs=>bd.count s
theorem cB_app(bd l:List Str):addL (cB bd) l=cB (bd++l):=by funext s;simp[addL,cB,List.count_append]
theorem cB_le(bd:List Str)(s:Str):cB bd s≤bd.length:=List.count_le_length
theorem cB_zero(bd:List Str)(s:Str):(((cB bd s:Nat):Int)==0)=!bd.contains s:=by
 rw[Bool.eq_iff_iff]
 simp only[beq_iff_eq,Bool.not_eq_true',cB]
 constructor
 ·intro h
  have h:bd.count s=0:=by omega
  rw[←Bool.not_eq_true,List.contains_iff_mem]
  exact List.count_eq_zero.1 h
 ·intro h
  have:s ∉ bd:=by rw[←List.contains_iff_mem,h];simp
  rw[List.count_eq_zero.2 this]
  rfl
end Go.Proofs.YtgmapdcdmomioaaGreatDoor.Pa
