/- Scope: names that are bound, counted in a numbered map; slices of names that grow. What functions of the program do, printed by wip/tools/sx/sx.py. Scope: what the functions on names do. Scope: what stands where names are bound; the document's free names. Scope: the document's free names. Scope: the program's free names. Nothing of this layer is asked in this seat. -/
import Derived.Test.YtiheejdkkjfenaaGreatDoorRF
import Derived.Test.YtiheejdkkjfenaaGreatDoorQH
import Derived.Test.YtiheejdkkjfenaaGreatDoorRE
set_option linter.all false
set_option autoImplicit false
set_option maxRecDepth 100000
namespace Go.Proofs.YtiheejdkkjfenaaGreatDoor.Pa
open Go Go.Proofs.YtiheejdkkjfenaaGreatDoor.Am
def cntF(c:Str→Nat):Dat→Option Dat
 |.str s=>if c s=0 then none else some (.int .i64 (c s))
 |_=>none
theorem cnF(c:Str→Nat)(s:Str):(cntF c (.str s)).getD (.int .i64 0)=.int .i64 (c s):=by
 unfold cntF;simp only;split
 ·rename_i h;rw[h];rfl
 ·rfl
def stC(c:Str→Nat)(s:Str)(n:Nat):Str→Nat:=λt=>if t=s then n else c t
def adL(c:Str→Nat)(l:List Str):Str→Nat:=λs=>c s+l.count s
theorem upp(c:Str→Nat)(s:Str){n:Nat}(h:n≠0):udF (cntF c) (.str s) (some (.int .i64 n))=cntF (stC c s n):=by
 funext k
 by_cases hk:k=.str s
 ·subst hk;rw[uF];simp[cntF,stC,h]
 ·rw[upF _ _ hk];cases k with
  |str t=>
   have:t≠s:=λe=>hk (by rw[e]);simp[cntF,stC,this]
  |_=>rfl
theorem upe(c:Str→Nat)(s:Str):udF (cntF c) (.str s) none=cntF (stC c s 0):=by
 funext k
 by_cases hk:k=.str s
 ·subst hk;rw[uF];simp[cntF,stC]
 ·rw[upF _ _ hk];cases k with
  |str t=>
   have:t≠s:=λe=>hk (by rw[e]);simp[cntF,stC,this]
  |_=>rfl
theorem upu(F:Dat→Option Dat)(k:Dat)(a b:Option Dat):udF (udF F k a) k b=udF F k b:=by
 funext k'
 by_cases hk:k'=k
 ·subst hk;rw[uF,uF]
 ·rw[upF _ _ hk,upF _ _ hk,upF _ _ hk]
theorem adn(c:Str→Nat):adL c []=c:=by funext s;simp[adL]
theorem aLa(c:Str→Nat)(l l':List Str):adL (adL c l) l'=adL c (l++l'):=by funext s;simp[adL,List.count_append,Nat.add_assoc]
theorem sei(c:Str→Nat)(s:Str):stC c s (c s+1)=adL c [s]:=by
 funext t
 unfold stC adL
 by_cases h:t=s
 ·subst h;simp
 ·have:(s==t)=false:=by simpa using λe=>h e.symm
  simp[h,List.count_cons,this]
theorem sed(c:Str→Nat)(s:Str)(l:List Str):stC (adL c (s::l)) s (adL c (s::l) s-1)=adL c l:=by
 funext t
 unfold stC adL
 by_cases h:t=s
 ·subst h;simp
 ·have:(s==t)=false:=by simpa using λe=>h e.symm
  simp[h,List.count_cons,this]
theorem adl(c:Str→Nat)(l:List Str){n:Nat}(h:∀s,c s+l.length≤n)(s:Str):adL c l s≤n:=by
 have:=h s;have h2:=List.count_le_length (a:=s) (l:=l);unfold adL;omega
theorem sK(s:Str):Ky true (.str s)=true:=rfl
theorem mai{g:Glob}{i:Nat}{c:Str→Nat}(h:MI true g i (cntF c))(s:Str)(hc:c s≤2^60):
 ML g (some i) (.int .i64 0) (.str s) (.int .i64 (c s)) ((cntF c (.str s)).isSome)∧∃g',gmp g i (.str s) (.int .i64 (IntKind.i64.wrap ((c s:Int)+1)))=some g'∧Oe i g g'∧MI true g' i (cntF (adL c [s])):=by
 have h1:=h.mlo (z:=.int .i64 0) (sK s);rw[cnF] at h1;refine⟨h1,?_⟩;obtain⟨g',a,b,d⟩:=h.put (sK s) (.int .i64 (IntKind.i64.wrap ((c s:Int)+1)));refine⟨g',a,b,?_⟩;rw[wra (by omega),upp _ _ (by omega),sei] at d;exact d
def Gr(b:Nat)(g:Glob)(x:Dat)(l:List Str):Prop:=(x=.nil∧l=[])∨∃k,x=.gsl k 1 (l.map .str)∧b≤k∧g.toks[k]?=some (1,l.length)
structure KT(b:Nat)(g g':Glob):Prop where
 boxes:g'.boxes=g.boxes
 len:g.toks.length≤g'.toks.length
 old:∀j,j<b→g'.toks[j]?=g.toks[j]?
theorem KT.refl(b:Nat)(g:Glob):KT b g g:=⟨rfl,Nat.le_refl _,λ_ _=>rfl⟩
theorem KT.trans{b:Nat}{g g' g'':Glob}(h:KT b g g')(k:KT b g' g''):KT b g g'':=⟨k.boxes.trans h.boxes,Nat.le_trans h.len k.len,λj hj=>(k.old j hj).trans (h.old j hj)⟩
theorem Gr.els{b:Nat}{g:Glob}{x:Dat}{l:List Str}(h:Gr b g x l):elO x=l.map .str:=by
 rcases h with ⟨rfl,rfl⟩|⟨k,rfl,_⟩<;>rfl
theorem Gr.nil(b:Nat)(g:Glob):Gr b g .nil []:=.inl ⟨rfl,rfl⟩
theorem Gr.toks{b:Nat}{g g':Glob}{x:Dat}{l:List Str}(h:Gr b g x l)(hk:g'.toks=g.toks):Gr b g' x l:=by
 rcases h with h|⟨k,h1,h2,h3⟩
 ·exact .inl h
 ·exact .inr ⟨k,h1,h2,by rw[hk];exact h3⟩
theorem Gr.app{b:Nat}{g:Glob}{x:Dat}{l:List Str}(h:Gr b g x l)(hb:b≤g.toks.length)(s:Str):
 ∃r g',gpp 1 x [.str s] (gto g 1 1)=some (r,g')∧Gr b g' r (l++[s])∧KT b g g':=by
 rcases h with ⟨rfl,rfl⟩|⟨k,rfl,h2,h3⟩
 ·refine⟨_,_,rfl,.inr ⟨(gto g 1 1).toks.length,rfl,?_,?_⟩,rfl,?_,λj hj=>?_⟩
  ·simp only[gto,List.length_append];omega
  ·simp[gto]
  ·simp only[gto,List.length_append];omega
  ·simp only[gto];rw[List.getElem?_append_left (by simp;omega),List.getElem?_append_left (by omega)]
 ·have hk:=(List.getElem?_eq_some_iff.1 h3).1;have h4:(gto g 1 1).toks[k]?=some (1,(l.map Dat.str).length):=by
   simp only[gto,List.getElem?_append_left hk,List.length_map];exact h3
  have hk':k<(gto g 1 1).toks.length:=(List.getElem?_eq_some_iff.1 h4).1;refine⟨.gsl k 1 (l.map .str++[.str s]),{gto g 1 1 with toks:=(gto g 1 1).toks.set k (1,(l.map Dat.str).length+1)},?_,.inr ⟨k,by rw[List.map_append];rfl,h2,?_⟩,rfl,?_,λj hj=>?_⟩
  ·simp only[gpp,h4];simp
  ·simp only[List.getElem?_set_self hk',List.length_append,List.length_map,List.length_cons,List.length_nil]
  ·simp only[gto,List.length_set,List.length_append];omega
  ·simp only[gto];rw[List.getElem?_set_ne (by omega),List.getElem?_append_left (by omega)]
theorem fA1{n:Nat}(h:n≤2^30):Sl TT 9 n:=⟨by omega,λb' hb'=>by
 rw[byS] at hb';cases hb';omega⟩
theorem fiS{n:Nat}(h:n≤2^30):Fits n 16:=⟨by omega,by omega⟩
theorem stg{k:Nat}{l:List Str}(hl:l.length≤2^30)(hs:∀s∈l,s.length≤2^40):Ha TT 82 (.gsl k 1 (l.map .str)):=
 .gsl _ _ _ _ _ uS szS (by rw[List.length_map];exact fA1 hl) λx hx=>by
  obtain⟨s,hs',rfl⟩:=List.mem_map.1 hx;exact tsr (hs s hs')
theorem srs{l:List Str}(hl:l.length≤2^30)(hs:∀s∈l,s.length≤2^40):Ha TT 82 (.sl 1 (l.map .str)):=
 .sl _ _ _ _ uS szS (by rw[List.length_map];exact fA1 hl) λx hx=>by
  obtain⟨s,hs',rfl⟩:=List.mem_map.1 hx;exact tsr (hs s hs')
theorem stn:Ha TT 82 .nil:=.nil _ (by rw[uS];rfl)
theorem Gr.ty{b:Nat}{g:Glob}{x:Dat}{l:List Str}(h:Gr b g x l)(hl:l.length≤2^30)(hs:∀s∈l,s.length≤2^40):Ha TT 82 x:=by
 rcases h with ⟨rfl,rfl⟩|⟨k,rfl,_⟩
 ·exact stn
 ·exact stg hl hs
theorem sti{x:Dat}(h:Ha TT 82 x):∃l:List Str,elO x=l.map .str∧(∀s∈l,s.length≤2^40)∧l.length≤2^40:=by
 obtain⟨h1,h2⟩:=h.els uS;refine⟨(elO x).map strOf,?_,λs hs=>?_,by rw[List.length_map];exact h1.1⟩
 ·have key:∀l:List Dat,(∀y∈l,Ha TT 9 y)→l=(l.map strOf).map .str:=by
   intro l
   induction l with
   |nil=>intro _;rfl
   |cons y l ih=>
    intro h;obtain⟨s,rfl,_⟩:=srt (h y List.mem_cons_self);simp only[List.map_cons];rw[←ih λz hz=>h z (List.mem_cons_of_mem _ hz)];rfl
  exact key _ h2
 ·obtain⟨y,hy,rfl⟩:=List.mem_map.1 hs;obtain⟨s,rfl,hl⟩:=srt (h2 y hy);exact hl
theorem srA{x:Dat}{l:List Str}(h:elO x=l.map .str){i:Nat}(hi:i<l.length):strOf (fld (gtE (elO x) (i:Int)) 0)=l[i]:=by
 rw[h,geE (by rw[List.length_map];exact hi),List.getElem_map];rfl
theorem elL{x:Dat}{l:List Str}(h:elO x=l.map .str):(elO x).length=l.length:=by rw[h,List.length_map]
mutual
def vas:Pt→List Str
 |.mk k s _ a _=>(if k==2 then[s] else[])++vP a
def vP:List Pt→List Str
 |[]=>[]
 |x::xs=>vas x++vP xs
end
def bn(k:Int)(s r:Str)(b:List Pt)(i:Nat):List Str:=
 if k==3&&i==0||k==5&&i==1||k==6&&i==1 then[s]
 else if k==6&&i==0 then[s,r]
 else if k==7&&(decide (0<i)&&decide (i≤b.length)) then vas ((b[i-1]?).getD default)
 else[]
mutual
theorem ve:∀x:Pt,(vas x).length≤sPt x
 |.mk k s n a p=>by
  have:=vaP a;simp only[vas,sPt,List.length_append];split<;>simp<;>omega
theorem vaP:∀l:List Pt,(vP l).length≤szP l
 |[]=>Nat.le_refl _
 |x::xs=>by
  have h1:=ve x;have h2:=vaP xs;simp only[vP,szP,List.length_append];omega
end
theorem szs{l:List Pt}{i:Nat}{x:Pt}(h:l[i]?=some x):sPt x≤szP l:=by
 induction l generalizing i with
 |nil=>simp at h
 |cons y l ih=>
  cases i with
  |zero=>simp at h;subst h;simp only[szP];omega
  |succ i=>have:=ih (i:=i) (by simpa using h);simp only[szP];omega
theorem bid(k:Int)(s r:Str)(b:List Pt)(i:Nat):(bn k s r b i).length≤2+szP b:=by
 unfold bn;split
 ·simp only[List.length_cons,List.length_nil];omega
 ·split
  ·simp only[List.length_cons,List.length_nil];omega
  ·split
   ·cases h:b[i-1]? with
    |none=>simp only[Option.getD_none];exact Nat.le_trans (ve _) (by show sPt (.mk 0 [] 0 [] 0)≤_;simp only[sPt,szP];omega)
    |some x=>simp only[Option.getD_some];exact Nat.le_trans (ve _) (Nat.le_trans (szs h) (by omega))
   ·simp
theorem vad{xs:List Dat}{i:Nat}(hi:i<xs.length):vP ((xs.drop i).map aP)=vas (aP xs[i])++vP ((xs.drop (i+1)).map aP):=by
 rw[List.drop_eq_getElem_cons hi];rfl
end Go.Proofs.YtiheejdkkjfenaaGreatDoor.Pa
namespace Go.Proofs.YtiheejdkkjfenaaGreatDoor.Pa
open Go Go.Proofs.YtiheejdkkjfenaaGreatDoor.Am
variable{x0 x1 x10 x16 x26 y2:Dat}{s1:List UInt8}{g:Glob}{Qf:OGP}{n1 n11 n12 n17 n18 n27 n28 n5:Int}{b5:Bool}{p0:Nat}{f2:FuncId}{c2:List Dat}
def L89_2(x0:Dat)(s1:List UInt8)(n5:Int)(g:Glob)(Qf:OGP):=LC 89 Tryz.f89 [1,0,1,0] Qf 2 [(0,.v 82 (x0)),(1,.v 9 (.str s1)),(5,iv n5)] [] g
def lo89:List CuI:=[⟨2,[K 0,K 1,K 5],[]⟩]
theorem w89(h0:Ha TT 82 x0)(h1:s1.length≤2^40)
 (h:L89_2 x0 s1 0 g Qf):
 EvF TT 89 [x0,.str s1] g Qf:=
 sF Tryz.f89 lo89 [(82,x0),(9,.str s1)] ⟨h0,tyt rfl h1,trivial⟩ h
theorem w89_2
 (h:Br (decide (n5<((elO x0).length:Int))) (InB n5 (elO x0).length∧Br (strOf (fld (gtE (elO x0) n5) 0)==s1) (Qf (.val (.d (.bool true))) g) (L89_2 x0 s1 (IntKind.i64.wrap (n5+1)) g Qf)) (Qf (.val (.d (.bool false))) g)):
 L89_2 x0 s1 n5 g Qf:=sC lo89 h
theorem w91(h0:Ha TT 82 x0)(h1:Ha TT 82 x1)
 (h:Fits (0+(elO x0).length) 16∧Fits (([]++elO x0).length+(elO x1).length) 16∧Qf (.val (.uq 1 ([]++elO x0++elO x1))) g):
 EvF TT 91 [x0,x1] g Qf:=
 sF Tryz.f91 [] [(82,x0),(82,x1)] ⟨h0,h1,trivial⟩ h
def L183_4(x0 x16:Dat)(n17 n18:Int)(g:Glob)(Qf:OGP):=LC 183 Tryz.f183 [1,1,0,1,0] Qf 2 [(0,.v 82 (x0)),(16,.v 24 (x16)),(17,iv n17),(18,iv n18)] [] g
def lo183:List CuI:=[⟨4,[K 0,K 16,K 17,K 18],[]⟩]
theorem w183(h0:Ha TT 82 x0)(h1:Ha TT 52 x1)
 (h:Br (intOf (fld x1 0)==2) (Fits ((elO x0).length+[Dat.str (strOf (fld x1 1))].length) 16∧∃r g',gpp 1 x0 [.str (strOf (fld x1 1))] (gto g 1 1)=some (r,g')∧L183_4 r (fld x1 3) ((elO (fld x1 3)).length:Int) 0 g' Qf) (L183_4 x0 (fld x1 3) ((elO (fld x1 3)).length:Int) 0 g Qf)):
 EvF TT 183 [x0,x1] g Qf:=
 sF Tryz.f183 lo183 [(82,x0),(52,x1)] ⟨h0,h1,trivial⟩ h
theorem w183_4
 (h:Br (decide (n18<n17)) (InB n18 (elO x16).length∧EvF TT 183 [x0,gtE (elO x16) n18] g (KQ Qf λv g'=>∃x,Ha TT 82 x∧Rt v x∧L183_4 x x16 n17 (IntKind.i64.wrap (n18+1)) g' Qf)) (∀(v:Val),Rt v x0→Qf (.val v) g)):
 L183_4 x0 x16 n17 n18 g Qf:=sC lo183 h
def L114_4(n1:Int)(b5:Bool)(y2:Dat)(g:Glob)(Qf:OGP):=LC 114 Tryz.f114 [1,0,0,1] Qf 2 [(1,iv n1),(2,.loc 2 0 0),(5,.v 4 (.bool b5))] [(2,.whole 26 y2)] g
def jA3:List CuI:=[⟨4,[K 1,K 2,K 5],[(2,.whole 26)]⟩]
theorem w114(h0:Ha TT 26 x0)
 (h:Br (intOf (fld x0 0)==3) (Br (n1==0) (L114_4 n1 (n1==0) x0 g Qf) (Br (intOf (fld x0 0)==5) (Br (n1==1) (L114_4 n1 (n1==1) x0 g Qf) (Br (intOf (fld x0 0)==6) (L114_4 n1 (n1==1) x0 g Qf) (L114_4 n1 false x0 g Qf))) (Br (intOf (fld x0 0)==6) (L114_4 n1 (n1==1) x0 g Qf) (L114_4 n1 false x0 g Qf)))) (Br (intOf (fld x0 0)==5) (Br (n1==1) (L114_4 n1 (n1==1) x0 g Qf) (Br (intOf (fld x0 0)==6) (L114_4 n1 (n1==1) x0 g Qf) (L114_4 n1 false x0 g Qf))) (Br (intOf (fld x0 0)==6) (L114_4 n1 (n1==1) x0 g Qf) (L114_4 n1 false x0 g Qf)))):
 EvF TT 114 [x0,.int .i64 n1] g Qf:=
 sxf (rk:=rk) (fn:=Tryz.f114) (loops:=[]) (joins:=jA3) (n:=100000) (args:=[(26,x0),(3,.int .i64 n1)]) rfl rfl rfl rfl ⟨h0,tyI rfl,trivial⟩ (by kernel_rfl) h
theorem w114_4
 (h:Br b5 (Qf (.val (.uq 1 [.str (strOf (fld y2 1))])) g) (Br (intOf (fld y2 0)==6) (Br (n1==0) (Qf (.val (.uq 1 [.str (strOf (fld y2 1)),.str (strOf (fld y2 2))])) g) (Br (intOf (fld y2 0)==7) (Br (decide (0<n1)) (Br (decide (n1≤((elO (fld y2 5)).length:Int))) (InB (IntKind.i64.wrap (n1-1)) (elO (fld y2 5)).length∧EvF TT 183 [.nil,gtE (elO (fld y2 5)) (IntKind.i64.wrap (n1-1))] g (KQ Qf λv g'=>∃x,Ha TT 82 x∧Rt v x∧∀(v:Val),Rt v x→Qf (.val v) g')) (∀(v:Val),Rt v .nil→Qf (.val v) g)) (∀(v:Val),Rt v .nil→Qf (.val v) g)) (∀(v:Val),Rt v .nil→Qf (.val v) g))) (Br (intOf (fld y2 0)==7) (Br (decide (0<n1)) (Br (decide (n1≤((elO (fld y2 5)).length:Int))) (InB (IntKind.i64.wrap (n1-1)) (elO (fld y2 5)).length∧EvF TT 183 [.nil,gtE (elO (fld y2 5)) (IntKind.i64.wrap (n1-1))] g (KQ Qf λv g'=>∃x,Ha TT 82 x∧Rt v x∧∀(v:Val),Rt v x→Qf (.val v) g')) (∀(v:Val),Rt v .nil→Qf (.val v) g)) (∀(v:Val),Rt v .nil→Qf (.val v) g)) (∀(v:Val),Rt v .nil→Qf (.val v) g)))):
 L114_4 n1 b5 y2 g Qf:=sxc (rk:=rk) (loops:=[]) (joins:=jA3) (n:=100000) (by kernel_rfl) h
def L115_1(p0:Nat)(x1:Dat)(f2:FuncId)(c2:List Dat)(x10:Dat)(n11 n12:Int)(g:Glob)(Qf:OGP):=LC 115 Tryz.f115 [0,1,0] Qf 3 [(0,.v 112 (.ptr (some (p0,0)))),(1,.v 82 (x1)),(2,.v 1 (.clo f2 c2)),(10,.v 82 (x10)),(11,iv n11),(12,iv n12)] [] g
def L115_7(p0:Nat)(x26:Dat)(n27 n28:Int)(g:Glob)(Qf:OGP):=LC 115 Tryz.f115 [1,1,1,0] Qf 3 [(0,.v 112 (.ptr (some (p0,0)))),(26,.v 82 (x26)),(27,iv n27),(28,iv n28)] [] g
def lo115:List CuI:=[⟨1,[K 0,K 1,K 2,K 10,K 11,K 12],[]⟩,⟨7,[K 0,K 26,K 27,K 28],[]⟩]
theorem w115(h1:Ha TT 82 x1)
 (h:L115_1 p0 x1 f2 c2 x1 ((elO x1).length:Int) 0 g Qf):
 EvF TT 115 [.ptr (some (p0,0)),x1,.clo f2 c2] g Qf:=
 sF Tryz.f115 lo115 [(112,.ptr (some (p0,0))),(82,x1),(1,.clo f2 c2)] ⟨tPt rfl,h1,tC rfl,trivial⟩ h
theorem w115_1
 (h:Br (decide (n12<n11)) (InB n12 (elO x10).length∧∃i,GOk TT 113 g p0 1 (Dat.map (some i))∧∃n b,ML g (some i) (.int .i64 0) (.str (strOf (fld (gtE (elO x10) n12) 0))) (.int .i64 n) b∧∃g',gmp g i (.str (strOf (fld (gtE (elO x10) n12) 0))) (.int .i64 (IntKind.i64.wrap (n+1)))=some g'∧L115_1 p0 x1 f2 c2 x10 n11 (IntKind.i64.wrap (n12+1)) g' Qf) (EvF TT f2 c2 g (KQ Qf λv g'=>Ret v []∧L115_7 p0 x1 ((elO x1).length:Int) 0 g' Qf))):
 L115_1 p0 x1 f2 c2 x10 n11 n12 g Qf:=sC lo115 h
theorem w115_7
 (h:Br (decide (n28<n27)) (InB n28 (elO x26).length∧∃i,GOk TT 113 g p0 1 (Dat.map (some i))∧∃n b,ML g (some i) (.int .i64 0) (.str (strOf (fld (gtE (elO x26) n28) 0))) (.int .i64 n) b∧∃g',gmp g i (.str (strOf (fld (gtE (elO x26) n28) 0))) (.int .i64 (IntKind.i64.wrap (n-1)))=some g'∧∃i,GOk TT 113 g' p0 1 (Dat.map (some i))∧∃n b,ML g' (some i) (.int .i64 0) (.str (strOf (fld (gtE (elO x26) n28) 0))) (.int .i64 n) b∧Br (n==0) (∃i,GOk TT 113 g' p0 1 (Dat.map (some i))∧∃g'_1,gmd g' i (.str (strOf (fld (gtE (elO x26) n28) 0)))=some g'_1∧L115_7 p0 x26 n27 (IntKind.i64.wrap (n28+1)) g'_1 Qf) (L115_7 p0 x26 n27 (IntKind.i64.wrap (n28+1)) g' Qf)) (Qf (.val (.tuple [])) g)):
 L115_7 p0 x26 n27 n28 g Qf:=sC lo115 h
end Go.Proofs.YtiheejdkkjfenaaGreatDoor.Pa
namespace Go.Proofs.YtiheejdkkjfenaaGreatDoor.Pa
open Go Go.Proofs.YtiheejdkkjfenaaGreatDoor.Am
theorem mr{l k:List Str}(h:l.map Dat.str=k.map Dat.str):l=k:=by
 have:=congrArg (List.map strOf) h;rw[List.map_map,List.map_map] at this;have e:∀m:List Str,m.map (strOf∘Dat.str)=m:=λm=>List.map_id'' (λ_=>rfl) m;rw[e,e] at this;exact this
theorem brT{c:Bool}{A B:Prop}(q:c=true)(h:A):Br c A B:=by subst q;exact h
theorem brF{c:Bool}{A B:Prop}(q:c=false)(h:B):Br c A B:=by subst q;exact h
theorem bca{a b:Bool}{g:Glob}{Qf:OGP}(h:Qf (.val (.d (.bool a))) g)(e:a=b):Qf (.val (.d (.bool b))) g:=e▸h
theorem amo{x:Dat}{l:List Str}{s:Str}{g:Glob}{Qf:OGP}(hx:Ha TT 82 x)(hl:elO x=l.map .str)(hs:s.length≤2^40)(hQ:Qf (.val (.d (.bool (l.contains s)))) g):EvF TT 89 [x,.str s] g Qf:=by
 have hn:l.length≤2^40:=by have:=(hx.els uS).1.1;rw[elL hl] at this;exact this
 refine w89 hx hs ?_;refine lU (len:=l.length) (λi=>Qf (.val (.d (.bool ((l.drop i).contains s)))) g→L89_2 x s (i:Int) g Qf) ?_ ?_ 0 (Nat.zero_le _) hQ
 ·intro hQ;refine w89_2 ?_;rw[elL hl,Bg];rw[List.drop_length] at hQ;exact hQ
 ·intro i hi ih hQ;refine w89_2 ?_;rw[elL hl,Bl hi,srA hl hi];rw[List.drop_eq_getElem_cons hi,List.contains_cons] at hQ;refine⟨inB hi,Bi.2 ⟨λq=>bca hQ ?_,λq=>?_⟩⟩
  ·have:s=l[i]:=by simpa using(by simpa using q:l[i]=s).symm
   simp[this]
  ·rw[wra (by omega)];refine ih (bca hQ ?_);have:(s==l[i])=false:=by
    rw[beq_eq_false_iff_ne];intro e;subst e;simp at q
   rw[this,Bool.false_or]
theorem wih{x y:Dat}{l k:List Str}{g:Glob}{Qf:OGP}(hx:Ha TT 82 x)(hl:elO x=l.map .str)(hy:Ha TT 82 y)(hk:elO y=k.map .str)(hn:l.length+k.length≤2^30)
 (hQ:∀v z,Rt v z→Ha TT 82 z→elO z=(l++k).map .str→Qf (.val v) g):EvF TT 91 [x,y] g Qf:=by
 refine w91 hx hy ⟨fiS (by rw[elL hl];omega),fiS (by rw[elL hk];simp only[List.nil_append,elL hl];omega),?_⟩;obtain⟨lx,ex,sx,_⟩:=sti hx;obtain⟨ly,ey,sy,_⟩:=sti hy;have e1:lx=l:=mr (ex.symm.trans hl);have e2:ly=k:=mr (ey.symm.trans hk);subst e1 e2;have e:[]++elO x++elO y=(lx++ly).map .str:=by rw[hl,hk,List.map_append];rfl
 rw[e];refine hQ _ (.sl 1 ((lx++ly).map .str)) rfl (srs (by rw[List.length_append];exact hn) λs hs=>?_) rfl;rcases List.mem_append.1 hs with hs|hs
 ·exact sx s hs
 ·exact sy s hs
theorem vao:∀(n:Nat) {x X:Dat} {l:List Str} {b:Nat} {g:Glob} {Qf:OGP},SizeOf.sizeOf x<n→Ha TT 52 x→Gr b g X l→b≤g.toks.length→(∀s∈l,s.length≤2^40)→l.length+sPt (aP x)≤2^29→
 (∀X' g' v,Gr b g' X' (l++vas (aP x))→(∀s∈l++vas (aP x),s.length≤2^40)→KT b g g'→Rt v X'→Qf (.val v) g')→EvF TT 183 [X,x] g Qf
 |0,x,X,l,b,g,Qf,h,_,_,_,_,_,_=>by omega
 |n+1,x,X,l,b,g,Qf,hsz,hx,hg,hb,hs,hn,hQ=>by
  obtain⟨k1,s1,v1,a1,p1,rfl,hs1,t1⟩:=ptt hx;have ex:=t1.els uP;have exl:=ex.1.1;have hc:=sO (cs:=[.int .i64 k1,.str s1,.int .i64 v1,a1,.int .i64 p1]) (c:=a1) (by simp);have e1:vas (aP (.agg [.int .i64 k1,.str s1,.int .i64 v1,a1,.int .i64 p1]))=(if k1==2 then[s1] else[])++vP (((elO a1).drop 0).map aP):=by simp only[aP,vas,abP,List.drop_zero]
  have e2:sPt (aP (.agg [.int .i64 k1,.str s1,.int .i64 v1,a1,.int .i64 p1]))=1+szP (((elO a1).drop 0).map aP):=by simp only[aP,sPt,abP,List.drop_zero]
  rw[e1] at hQ;rw[e2] at hn;have hF:l.length≤2^29:=by omega
  have loop:∀{X:Dat} {l0:List Str} {g0:Glob},Gr b g0 X l0→b≤g0.toks.length→(∀s∈l0,s.length≤2^40)→l0.length+szP (((elO a1).drop 0).map aP)≤2^29→
   (∀X' g' v,Gr b g' X' (l0++vP (((elO a1).drop 0).map aP))→(∀s∈l0++vP (((elO a1).drop 0).map aP),s.length≤2^40)→KT b g0 g'→Rt v X'→Qf (.val v) g')→L183_4 X a1 ((elO a1).length:Int) 0 g0 Qf:=by
   intro X l0 g0 hg hb hs hn hQ;refine lU (len:=(elO a1).length) (λi=>∀{X:Dat} {l0:List Str} {g0:Glob},Gr b g0 X l0→b≤g0.toks.length→(∀s∈l0,s.length≤2^40)→l0.length+szP (((elO a1).drop i).map aP)≤2^29→
    (∀X' g' v,Gr b g' X' (l0++vP (((elO a1).drop i).map aP))→(∀s∈l0++vP (((elO a1).drop i).map aP),s.length≤2^40)→KT b g0 g'→Rt v X'→Qf (.val v) g')→L183_4 X a1 ((elO a1).length:Int) (i:Int) g0 Qf) ?_ ?_ 0 (Nat.zero_le _) hg hb hs hn hQ
   ·intro X l0 g0 hg hb hs hn hQ;refine w183_4 ?_;rw[Bg];rw[List.drop_length] at hQ;simp only[List.map_nil,vP,List.append_nil] at hQ;exact λv hv=>hQ X g0 v hg hs (KT.refl _ _) hv
   ·intro i hi ih X l0 g0 hg hb hs hn hQ;refine w183_4 ?_;rw[Bl hi,geE hi];have h1:=siz hi;rw[szt hi] at hn;rw[vad hi] at hQ;refine⟨inB hi,vao n (by omega) (ex.2 _ (List.getElem_mem hi)) hg hb hs (by omega) λX' g' v hg' hs' hk hv=>?_⟩;have hlen:=ve (aP (elO a1)[i]);refine⟨X',hg'.ty (by rw[List.length_append];omega) hs',hv,?_⟩;rw[wra (by omega)];refine ih hg' (Nat.le_trans hb hk.len) hs' (by rw[List.length_append];omega) λX'' g'' v' h1 h2 h3 h4=>?_;rw[List.append_assoc] at h1 h2;exact hQ X'' g'' v' h1 h2 (hk.trans h3) h4
  refine w183 (hg.ty (by omega) hs) hx ?_;show Br (k1==2) (Fits ((elO X).length+1) 16∧∃r g',gpp 1 X [.str s1] (gto g 1 1)=some (r,g')∧L183_4 r a1 ((elO a1).length:Int) 0 g' Qf) (L183_4 X a1 ((elO a1).length:Int) 0 g Qf);refine Bi.2 ⟨λq=>?_,λq=>?_⟩
  ·rw[q] at hQ;simp only[if_true] at hQ;obtain⟨r,g',a,h2,h3⟩:=hg.app hb s1;refine⟨fiS (by rw[elL hg.els];omega),r,g',a,loop h2 (Nat.le_trans hb h3.len) (λs hs'=>?_) (by rw[List.length_append];simp only[List.length_cons,List.length_nil];omega) λX' g'' v q1 q2 q3 q4=>?_⟩
   ·rcases List.mem_append.1 hs' with h|h
    ·exact hs s h
    ·rw[List.mem_singleton] at h;subst h;exact hs1
   ·rw[List.append_assoc] at q1 q2;exact hQ X' g'' v q1 q2 (h3.trans q3) q4
  ·rw[q] at hQ;simp only[Bool.false_eq_true,if_false,List.nil_append] at hQ;exact loop hg hb hs (by omega) hQ
end Go.Proofs.YtiheejdkkjfenaaGreatDoor.Pa
namespace Go.Proofs.YtiheejdkkjfenaaGreatDoor.Pa
open Go Go.Proofs.YtiheejdkkjfenaaGreatDoor.Am
theorem onB(i:Nat)(g:Glob):Oe i g g:=by
 by_cases h:i<g.boxes.length
 ·exact⟨g.boxes[i],by simp⟩
 ·exact⟨default,by rw[List.set_eq_of_length_le (by omega)]⟩
theorem gok{g:Glob}{i o n:Nat}{cs:List GV}{x:Dat}{t:TypeId}{d:TypeDesc}(hu:TT.und t=some d)(hs:TT.size t=some n)(ha:ig d=false)(hb:g.boxes[i]?=some (.cells cs))(hc:cs[o]?=some (.d x)):GOk TT t g i o x:=by
 refine⟨.d x,?_,rfl,rfl⟩;simp only[gla,hb,lV,hu,hs,ha,Bool.false_eq_true,if_false,List.head?_map,List.head?_drop,hc];rfl
theorem uM:TT.und 113=some (.map 9 3):=by kernel_rfl
theorem siM:TT.size 113=some 1:=by kernel_rfl
def SB(g:Glob)(p mb:Nat)(D:Dat):Prop:=g.boxes[p]?=some (.cells [.d D,.d (.map (some mb))])
theorem SB.map{g:Glob}{p mb:Nat}{D:Dat}(h:SB g p mb D):GOk TT 113 g p 1 (.map (some mb)):=gok uM siM rfl h rfl
theorem SB.one{g g':Glob}{p mb:Nat}{D:Dat}{F:Dat→Option Dat}(h:SB g p mb D)(hm:MI true g mb F)(ho:Oe mb g g'):SB g' p mb D:=by
 have hne:p≠mb:=λe=>by
  obtain⟨es,c,h1,_⟩:=hm;unfold SB at h;rw[e,h1] at h;cases h
 exact(ho.get hne).trans h
theorem wto{p mb f:Nat}{D x:Dat}{l:List Str}{cap:List Dat}{g:Glob}{c:Str→Nat}{Qf:OGP}(hx:Ha TT 82 x)(hl:elO x=l.map .str)(hc:∀s,c s+l.length≤2^60)(h0:SB g p mb D)(hm:MI true g mb (cntF c))
 (body:∀g1,Oe mb g g1→MI true g1 mb (cntF (adL c l))→EvF TT f cap g1 λout g2=>Ou (λx=>Qf (.panic x) g2) (λv=>Ret v []∧SB g2 p mb D∧MI true g2 mb (cntF (adL c l))∧
  ∀g3,Oe mb g2 g3→MI true g3 mb (cntF c)→Qf (.val (.tuple [])) g3) out):EvF TT 115 [.ptr (some (p,0)),x,.clo f cap] g Qf:=by
 have eln:=elL hl;have hn:l.length≤2^40:=by have:=(hx.els uS).1.1;rw[eln] at this;exact this
 refine w115 hx ?_;rw[eln];refine lU (len:=l.length) (λi=>∀g1,Oe mb g g1→MI true g1 mb (cntF (adL c (l.take i)))→L115_1 p x f cap x (l.length:Int) (i:Int) g1 Qf) ?_ ?_ 0 (Nat.zero_le _) g (onB _ _) (by simpa[adn] using hm)
 ·intro g1 ho hm1;refine w115_1 ?_;rw[Bg];rw[List.take_length] at hm1;refine(body g1 ho hm1).mono λout g2 hp=>?_;cases out with
  |panic y=>exact hp
  |val v=>
   obtain⟨hv,hb2,hm2,hk⟩:=hp;refine⟨hv,?_⟩;rw[eln];refine lU (len:=l.length) (λi=>∀g3,Oe mb g2 g3→MI true g3 mb (cntF (adL c (l.drop i)))→L115_7 p x (l.length:Int) (i:Int) g3 Qf) ?_ ?_ 0 (Nat.zero_le _) g2 (onB _ _) hm2
   ·intro g3 ho3 hm3;refine w115_7 ?_;rw[Bg];rw[List.drop_length,adn] at hm3;exact hk g3 ho3 hm3
   ·intro i hi ih g3 ho3 hm3;refine w115_7 ?_;rw[Bl hi,srA hl hi,eln];have hb3:=hb2.one hm2 ho3;rw[List.drop_eq_getElem_cons hi] at hm3;have hle:adL c (l[i]::l.drop (i+1)) l[i]≤2^60:=adl c _ (λs=>by have:=hc s;simp only[List.length_cons,List.length_drop];omega) _;have hpos:1≤adL c (l[i]::l.drop (i+1)) l[i]:=by
     have:(l[i]::l.drop (i+1)).count l[i]=(l.drop (i+1)).count l[i]+1:=List.count_cons_self;unfold adL;omega
    have h1:=hm3.mlo (z:=.int .i64 0) (sK l[i]);rw[cnF] at h1;obtain⟨g4,a,b,d⟩:=hm3.put (sK l[i]) (.int .i64 (IntKind.i64.wrap ((adL c (l[i]::l.drop (i+1)) l[i]:Nat)-1:Int)));have hw:IntKind.i64.wrap ((adL c (l[i]::l.drop (i+1)) l[i]:Nat)-1:Int)=((adL c (l[i]::l.drop (i+1)) l[i]-1:Nat):Int):=by
     rw[wrp (by omega) (by omega)];omega
    have hb4:=hb3.one hm3 b;have h2:=d.mlo (z:=.int .i64 0) (sK l[i]);rw[uF] at h2;refine⟨inB hi,mb,hb3.map,_,_,h1,g4,a,mb,hb4.map,_,_,h2,?_⟩;rw[hw] at d⊢;refine Bi.2 ⟨λq=>?_,λq=>?_⟩
    ·obtain⟨g5,a5,b5,d5⟩:=d.del (sK l[i]);refine⟨mb,hb4.map,g5,a5,?_⟩;rw[wra (by omega)];refine ih g5 ((ho3.trans b).trans b5) ?_;have hz:adL c (l[i]::l.drop (i+1)) l[i]-1=0:=by
      have:((adL c (l[i]::l.drop (i+1)) l[i]-1:Nat):Int)=0:=by simpa using q
      omega
     rw[upu,upe,←hz,sed] at d5;exact d5
    ·rw[wra (by omega)];refine ih g4 (ho3.trans b) ?_;have hz:adL c (l[i]::l.drop (i+1)) l[i]-1≠0:=by
      intro e;rw[e] at q;simp at q
     rw[upp _ _ hz,sed] at d;exact d
 ·intro i hi ih g1 ho hm1;refine w115_1 ?_;rw[Bl hi,srA hl hi,eln];have hb1:=h0.one hm ho;have hle:adL c (l.take i) l[i]≤2^60:=adl c _ (λs=>by have:=hc s;rw[List.length_take];omega) _;obtain⟨h1,g2,a,b,d⟩:=mai hm1 l[i] hle;refine⟨inB hi,mb,hb1.map,_,_,h1,g2,a,?_⟩;rw[wra (by omega)];refine ih g2 (ho.trans b) ?_;rw[aLa] at d;rw[List.take_succ_eq_append_getElem hi];exact d
theorem nA1(i:Nat):((i:Int)==0)=(i==0):=by
 rw[Bool.eq_iff_iff];simp
theorem nA2(i:Nat):((i:Int)==1)=(i==1):=by
 rw[Bool.eq_iff_iff];simp;omega
theorem naP(i:Nat):decide ((0:Int)<(i:Int))=decide (0<i):=by simp
theorem naL(i n:Nat):decide ((i:Int)≤(n:Int))=decide (i≤n):=by simp
theorem asa{b1:Dat}{i:Nat}(h1:0<i)(h2:i≤(elO b1).length):(((elO b1).map aP)[i-1]?).getD default=aP ((elO b1)[i-1]'(by omega)):=by
 rw[List.getElem?_map,List.getElem?_eq_getElem (by omega)];rfl
theorem paA{b1:Dat}{i:Nat}(h1:0<i)(h2:i≤(elO b1).length)(h3:i≤2^40):InB (IntKind.i64.wrap ((i:Int)-1)) (elO b1).length∧gtE (elO b1) (IntKind.i64.wrap ((i:Int)-1))=(elO b1)[i-1]'(by omega):=by
 rw[wrp (by omega) (by omega),show(i:Int)-1=((i-1:Nat):Int) from by omega];exact⟨inB (by omega),geE (by omega)⟩
theorem bik{k1 v1 p1:Int}{s1 r1:Str}{a1 b1:Dat}{i:Nat}{g:Glob}{Qf:OGP}(hx:Ha TT 26 (.agg [.int .i64 k1,.str s1,.str r1,.int .i64 v1,a1,b1,.int .i64 p1]))(hi:i≤2^40)(hz:szP ((elO b1).map aP)≤2^28)
 (hQ:∀v z g',Rt v z→Ha TT 82 z→elO z=(bn k1 s1 r1 ((elO b1).map aP) i).map .str→KT g.toks.length g g'→Qf (.val v) g'):EvF TT 114 [.agg [.int .i64 k1,.str s1,.str r1,.int .i64 v1,a1,b1,.int .i64 p1],.int .i64 i] g Qf:=by
 obtain⟨k',s',r',n',a',b',p',e,hs,hr,ta,tb⟩:=exr hx;cases e;have L1:bn k1 s1 r1 ((elO b1).map aP) i=[s1]→Qf (.val (.uq 1 [.str s1])) g:=λe=>hQ _ (.sl 1 ([s1].map .str)) g rfl (srs (by simp) (by simpa using hs)) (by rw[e];rfl) (KT.refl _ _);have L2:bn k1 s1 r1 ((elO b1).map aP) i=[s1,r1]→Qf (.val (.uq 1 [.str s1,.str r1])) g:=λe=>hQ _ (.sl 1 ([s1,r1].map .str)) g rfl (srs (by simp) (by simpa using⟨hs,hr⟩)) (by rw[e];rfl) (KT.refl _ _);have L0:bn k1 s1 r1 ((elO b1).map aP) i=[]→∀v,Rt v .nil→Qf (.val v) g:=λe v hv=>hQ v .nil g hv stn (by rw[e];rfl) (KT.refl _ _);have L3:(∀x,bn k1 s1 r1 ((elO b1).map aP) i=vas ((((elO b1).map aP)[i-1]?).getD default)∨x)→0<i→i≤(elO b1).length→InB (IntKind.i64.wrap ((i:Int)-1)) (elO b1).length∧
  EvF TT 183 [Dat.nil,gtE (elO b1) (IntKind.i64.wrap ((i:Int)-1))] g (KQ Qf λv g'=>∃x,Ha TT 82 x∧Rt v x∧∀(v:Val),Rt v x→Qf (Out.val v) g'):=λe h1 h2=>by
  have e:=(e False).resolve_right id;rw[asa h1 h2] at e;obtain⟨q1,q2⟩:=paA h1 h2 hi;refine⟨q1,?_⟩;rw[q2];have hm:sPt (aP ((elO b1)[i-1]'(by omega)))≤2^28:=Nat.le_trans (szs (i:=i-1) (by rw[List.getElem?_map,List.getElem?_eq_getElem (by omega)];rfl)) hz;refine vao _ (Nat.lt_succ_self _) ((tb.els uP).2 _ (List.getElem_mem _)) (Gr.nil g.toks.length g) (Nat.le_refl _) (λs h=>by cases h) (by simp only[List.length_nil];omega) λX' g' v h3 h4 h5 h6=>?_;rw[List.nil_append] at h3 h4;have hlen:=ve (aP ((elO b1)[i-1]'(by omega)));have hty:=h3.ty (by omega) h4;exact⟨X',hty,h6,λv' hv'=>hQ v' X' g' hv' hty (by rw[e];exact h3.els) h5⟩
 have key:∀b5,b5=(k1==3&&i==0||k1==5&&i==1||k1==6&&i==1)→L114_4 (i:Int) b5 (.agg [.int .i64 k1,.str s1,.str r1,.int .i64 v1,a1,b1,.int .i64 p1]) g Qf:=by
  intro b5 h5;refine w114_4 ?_;rw[nA1,naP];rw[show((fld (.agg [.int .i64 k1,.str s1,.str r1,.int .i64 v1,a1,b1,.int .i64 p1]) 5))=b1 from rfl,naL];show Br b5 (Qf (.val (.uq 1 [.str s1])) g) (Br (k1==6) (Br (i==0) (Qf (.val (.uq 1 [.str s1,.str r1])) g) (Br (k1==7) (Br (decide (0<i)) (Br (decide (i≤(elO b1).length)) _ _) _) _)) (Br (k1==7) (Br (decide (0<i)) (Br (decide (i≤(elO b1).length)) _ _) _) _));have hlen:((elO b1).map aP).length=(elO b1).length:=by simp
  refine Bi.2 ⟨λq1=>L1 ?_,λq1=>?_⟩
  ·unfold bn;rw[←h5,q1];rfl
  ·have B:bn k1 s1 r1 ((elO b1).map aP) i=if k1==6&&i==0 then[s1,r1] else if k1==7&&(decide (0<i)&&decide (i≤(elO b1).length)) then vas ((((elO b1).map aP)[i-1]?).getD default) else[]:=by
    unfold bn;rw[←h5,q1,hlen];rfl
   have seven:(k1==6&&i==0)=false→Br (k1==7) (Br (decide (0<i)) (Br (decide (i≤(elO b1).length)) (InB (IntKind.i64.wrap ((i:Int)-1)) (elO b1).length∧
   EvF TT 183 [Dat.nil,gtE (elO b1) (IntKind.i64.wrap ((i:Int)-1))] g (KQ Qf λv g'=>∃x,Ha TT 82 x∧Rt v x∧∀(v:Val),Rt v x→Qf (Out.val v) g')) (∀(v:Val),Rt v Dat.nil→Qf (Out.val v) g)) (∀(v:Val),Rt v Dat.nil→Qf (Out.val v) g)) (∀(v:Val),Rt v Dat.nil→Qf (Out.val v) g):=by
    intro h6;rw[h6] at B;refine Bi.2 ⟨λq2=>Bi.2 ⟨λq3=>Bi.2 ⟨λq4=>L3 (λx=>.inl ?_) (of_decide_eq_true q3) (of_decide_eq_true q4),λq4=>L0 ?_⟩,λq3=>L0 ?_⟩,λq2=>L0 ?_⟩
    ·rw[B,q2,q3,q4];rfl
    ·rw[B,q2,q3,q4];rfl
    ·rw[B,q2,q3];rfl
    ·rw[B,q2];rfl
   refine Bi.2 ⟨λq2=>Bi.2 ⟨λq3=>L2 ?_,λq3=>seven (by rw[q2,q3];rfl)⟩,λq2=>seven (by rw[q2];rfl)⟩;rw[B,q2,q3];rfl
 refine w114 hx ?_;rw[nA1,nA2];show Br (k1==3) (Br (i==0) _ (Br (k1==5) (Br (i==1) _ (Br (k1==6) _ _)) (Br (k1==6) _ _))) (Br (k1==5) (Br (i==1) _ (Br (k1==6) _ _)) (Br (k1==6) _ _))
 repeat' (first|refine Bi.2 ⟨λq=>?_,λq=>?_⟩)
 all_goals (refine key _ ?_;simp_all)
end Go.Proofs.YtiheejdkkjfenaaGreatDoor.Pa
namespace Go.Proofs.YtiheejdkkjfenaaGreatDoor.Pa
open Go Go.Proofs.YtiheejdkkjfenaaGreatDoor.Am
theorem szm{l:List Ex'}{i:Nat}{x:Ex'}(h:l[i]?=some x):szx x≤szE l:=by
 induction l generalizing i with
 |nil=>simp at h
 |cons y l ih=>
  cases i with
  |zero=>simp at h;subst h;simp only[szE];omega
  |succ i=>have:=ih (i:=i) (by simpa using h);simp only[szE];omega
end Go.Proofs.YtiheejdkkjfenaaGreatDoor.Pa
namespace Go.Proofs.YtiheejdkkjfenaaGreatDoor.Pa
open Go Go.Proofs.YtiheejdkkjfenaaGreatDoor.Am
theorem gnl(g:Glob)(ds:List Dat):(gne g ds).boxes.length=g.boxes.length+1:=by simp[gne]
theorem gnw(g:Glob)(ds:List Dat):(gne g ds).boxes[g.boxes.length]?=some (.cells (ds.map .d)):=by simp[gne]
theorem gno{g:Glob}(ds:List Dat){j:Nat}(h:j<g.boxes.length):(gne g ds).boxes[j]?=g.boxes[j]?:=by simp only[gne];rw[List.getElem?_append_left h]
theorem gme(g:Glob):(gmn g).boxes.length=g.boxes.length+1:=by simp[gmn]
theorem gmw{g:Glob}{j:Nat}(h:j<g.boxes.length):(gmn g).boxes[j]?=g.boxes[j]?:=by simp only[gmn];rw[List.getElem?_append_left h]
theorem gpu{g:Glob}{i:Nat}{c:GV}{x:Dat}(hb:g.boxes[i]?=some (.cells [c]))(h1:x.one=true):Gu g i 0 1∧gp g i 0 x={g with boxes:=g.boxes.set i (.cells [.d x])}:=by
 refine⟨⟨_,hb,Nat.le_refl _⟩,?_⟩;have hc:x.cells=[x]:=by cases x<;>first|rfl|cases h1
 unfold gp;rw[hb,hc];rfl
theorem pum{β:Type}:∀(vs cs pre:List β),cs.length=vs.length→puA (pre++cs) pre.length vs=pre++vs:=λvs cs pre h=>pua pre h
theorem gpt{g:Glob}{i n:Nat}{cs:List GV}{ds:List Dat}(hb:g.boxes[i]?=some (.cells cs))(hn:cs.length=n)(hd:ds.length=n):Gu g i 0 n∧gp g i 0 (.agg ds)={g with boxes:=g.boxes.set i (.cells (ds.map .d))}:=by
 refine⟨⟨_,hb,by omega⟩,?_⟩;unfold gp;rw[hb];simp only[Dat.cells];have:=pum (ds.map GV.d) cs [] (by rw[List.length_map,hd,hn]);simp only[List.nil_append,List.length_nil] at this;rw[this]
theorem gpe{g:Glob}{z ds:List Dat}{n:Nat}(hz:z.length=n)(hd:ds.length=n):Gu (gne g z) g.boxes.length 0 n∧gp (gne g z) g.boxes.length 0 (.agg ds)=gne g ds:=by
 obtain⟨a,b⟩:=gpt (ds:=ds) (gnw g z) (by rw[List.length_map,hz]) hd;refine⟨a,b.trans ?_⟩;simp[gne]
theorem goa{g:Glob}{i n:Nat}{ds:List Dat}{t:TypeId}{d:TypeDesc}(hu:TT.und t=some d)(hs:TT.size t=some n)(ha:ig d=true)(hb:g.boxes[i]?=some (.cells (ds.map .d)))(hn:ds.length=n):GOk TT t g i 0 (.agg ds):=by
 refine⟨.d (.agg ds),?_,rfl,rfl⟩;have hm:opA ((ds.map GV.d).map λx=>Val.isD x.v)=some ds:=by
  rw[List.map_map];have:((λx=>Val.isD x.v)∘GV.d)=(some:Dat→Option Dat):=rfl;rw[this];clear hb hn
  induction ds with
  |nil=>rfl
  |cons x ds ih=>simp only[List.map_cons,opA,ih]
 simp only[gla,hb,lV,hu,hs,ha,if_true,List.drop_zero,List.length_map];rw[if_pos (by omega),List.take_of_length_le (by simp;omega)];unfold mg;rw[List.map_map];have e:(Val.isD∘GV.v)=λx:GV=>Val.isD x.v:=rfl;rw[e,hm]
structure Kp(bx:List Nat)(b:Nat)(g g':Glob):Prop where
 len:g.boxes.length≤g'.boxes.length
 box:∀j,j<g.boxes.length→j ∉ bx→g'.boxes[j]?=g.boxes[j]?
 tlen:g.toks.length≤g'.toks.length
 tok:∀j,j<b→g'.toks[j]?=g.toks[j]?
theorem Kp.refl(bx:List Nat)(b:Nat)(g:Glob):Kp bx b g g:=⟨Nat.le_refl _,λ_ _ _=>rfl,Nat.le_refl _,λ_ _=>rfl⟩
theorem Kp.trans{bx:List Nat}{b:Nat}{g g' g'':Glob}(h:Kp bx b g g')(k:Kp bx b g' g''):Kp bx b g g'':=
 ⟨Nat.le_trans h.len k.len,λj hj hx=>(k.box j (Nat.lt_of_lt_of_le hj h.len) hx).trans (h.box j hj hx),Nat.le_trans h.tlen k.tlen,λj hj=>(k.tok j hj).trans (h.tok j hj)⟩
theorem Kp.le{bx bx':List Nat}{b b':Nat}{g g':Glob}(h:Kp bx b g g')(hx:∀j∈bx,j∈bx')(hb:b'≤b):Kp bx' b' g g':=
 ⟨h.len,λj hj hn=>h.box j hj λq=>hn (hx j q),h.tlen,λj hj=>h.tok j (Nat.lt_of_lt_of_le hj hb)⟩
theorem KT.kp{b:Nat}{g g':Glob}(h:KT b g g'):Kp [] b g g':=⟨by rw[h.boxes];exact Nat.le_refl _,λj _ _=>by rw[h.boxes],h.len,h.old⟩
theorem bK{i:Nat}{g g':Glob}(h:Oe i g g')(b:Nat):Kp [i] b g g':=⟨by rw[h.len];exact Nat.le_refl _,λj _ hn=>h.get (by simpa using hn),by rw[h.toks];exact Nat.le_refl _,λj _=>by rw[h.toks]⟩
theorem kw(g:Glob)(ds:List Dat)(b:Nat):Kp [] b g (gne g ds):=⟨by rw[gnl];omega,λj hj _=>gno ds hj,Nat.le_refl _,λ_ _=>rfl⟩
theorem kpe(g:Glob)(i:Nat)(bx:GBo)(b:Nat):Kp [i] b g {g with boxes:=g.boxes.set i bx}:=bK ⟨bx,rfl⟩ b
theorem unp:TT.und 112=some (.pointer 115):=by kernel_rfl
theorem sip:TT.size 112=some 1:=by kernel_rfl
theorem isu{t:TypeId}(h:isF (TT.und t)=true):∃d,TT.und t=some d∧ig d=false:=by
 cases hd:TT.und t with
 |none=>rw[hd] at h;cases h
 |some d=>rw[hd] at h;cases d<;>first|exact⟨_,rfl,rfl⟩|cases h
theorem isA{t:TypeId}(h:isAgg? (TT.und t)=true):∃d,TT.und t=some d∧ig d=true:=by
 cases hd:TT.und t with
 |none=>rw[hd] at h;cases h
 |some d=>rw[hd] at h;cases d<;>first|exact⟨_,rfl,rfl⟩|cases h
theorem siS:TT.size 82=some 1:=by kernel_rfl
theorem unx:∃d,TT.und 26=some d∧ig d=true:=isA (by kernel_rfl)
theorem gld{g:Glob}{i o n:Nat}{cs:List GV}{x:Dat}{t:TypeId}{d:TypeDesc}(hu:TT.und t=some d)(hs:TT.size t=some n)(ha:ig d=false)(hb:g.boxes[i]?=some (.cells cs))(hc:cs[o]?=some (.d x)):gla TT t g i o=some (.d x):=by
 simp only[gla,hb,lV,hu,hs,ha,Bool.false_eq_true,if_false,List.head?_map,List.head?_drop,hc];rfl
def cB(bd:List Str):Str→Nat:=λs=>bd.count s
theorem cBa(bd l:List Str):adL (cB bd) l=cB (bd++l):=by funext s;simp[adL,cB,List.count_append]
theorem cBl(bd:List Str)(s:Str):cB bd s≤bd.length:=List.count_le_length
theorem cBz(bd:List Str)(s:Str):(((cB bd s:Nat):Int)==0)=!bd.contains s:=by
 rw[Bool.eq_iff_iff];simp only[beq_iff_eq,Bool.not_eq_true',cB];constructor
 ·intro h;have h:bd.count s=0:=by omega
  rw[←Bool.not_eq_true,List.contains_iff_mem];exact List.count_eq_zero.1 h
 ·intro h;have:s ∉ bd:=by rw[←List.contains_iff_mem,h];simp
  rw[List.count_eq_zero.2 this];rfl
end Go.Proofs.YtiheejdkkjfenaaGreatDoor.Pa
