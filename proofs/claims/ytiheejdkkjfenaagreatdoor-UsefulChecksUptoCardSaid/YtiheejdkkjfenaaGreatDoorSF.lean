/- Useful: the asking, plainly: with so many steps left. What functions of the program do, printed by wip/tools/sx/sx.py. Useful: rows in memory; slices.Concat; how rows are turned. Useful: whether all constructors of a type stand first in rows. -/
import Derived.Test.YtiheejdkkjfenaaGreatDoorSE
import Derived.Test.YtiheejdkkjfenaaGreatDoorSC
import Derived.Test.YtiheejdkkjfenaaGreatDoorSB
set_option linter.all false
set_option autoImplicit false
set_option maxRecDepth 100000
namespace Go.Proofs.YtiheejdkkjfenaaGreatDoor.Pa
open Go Go.Proofs.YtiheejdkkjfenaaGreatDoor.Am
def kPt:Pt→Int
 |.mk k _ _ _ _=>k
def wP(x:Pt):Bool:=kPt x==1||kPt x==2
def ayP:Pt:=.mk 1 [] 0 [] 0
def ars:Pt→List Pt
 |.mk _ _ _ a _=>a
def nae:Pt→Str
 |.mk _ s _ _ _=>s
def nuP:Pt→Int
 |.mk _ _ n _ _=>n
def seC(s:Str)(n:Nat)(x:Pt):Option (List Pt):=if wP x then some (List.replicate n ayP) else if kPt x==4&&(nae x==s&&(ars x).length==n) then some (ars x) else none
def seI(m:Int)(x:Pt):Option (List Pt):=if wP x then some [] else if kPt x==3&&nuP x==m then some [] else none
def sW(x:Pt):Option (List Pt):=if wP x then some [] else none
def tu(sem:Pt→Option (List Pt)):List Pt→Option (List Pt)
 |[]=>none
 |x::r=>match sem x with
  |some l=>some (l++r)
  |none=>none
def fC:List (List Pt)→Option Str
 |[]=>none
 |(x::_)::l=>if kPt x==4 then some (nae x) else fC l
 |[]::l=>fC l
def heC(s:Str):List Pt→Bool
 |x::_=>kPt x==4&&nae x==s
 |[]=>false
def haC(s:Str)(rows:List (List Pt)):Bool:=rows.any (heC s)
def cO(D:List Dc)(s:Str):List Cn:=match D[(fD s D 0).1.toNat]? with
 |some d=>d.cs
 |none=>[]
def whl(D:List Dc)(rows:List (List Pt)):Option (List Cn):=
 match fC rows with
 |none=>none
 |some s=>if (cO D s).all (λc=>haC c.s rows) then some (cO D s) else none
def aU(go:Nat→Cn→Option (Bool×Nat)):List Cn→Nat→Option (Bool×Nat)
 |[],m=>some (false,m)
 |c::l,m=>match go m c with
  |none=>none
  |some (true,m')=>some (true,m')
  |some (false,m')=>aU go l m'
def uU(D:List Dc):Nat→Nat→List (List Pt)→List Pt→Option (Bool×Nat)
 |0,_,_,_=>none
 |_+1,0,_,_=>none
 |_+1,m+1,rows,[]=>some (rows.isEmpty,m)
 |f+1,m+1,rows,x::r=>
  if kPt x==4 then uU D f m (rows.filterMap (tu (seC (nae x) (ars x).length))) (ars x++r)
  else if kPt x==3 then uU D f m (rows.filterMap (tu (seI (nuP x)))) r
  else match whl D rows with
   |none=>uU D f m (rows.filterMap (tu sW)) r
   |some cs=>aU (λm c=>uU D f m (rows.filterMap (tu (seC c.s c.fs.length))) (List.replicate c.fs.length ayP++r)) cs m
theorem anU{go:Nat→Cn→Option (Bool×Nat)}(h:∀m c b m',go m c=some (b,m')→m'≤m):∀(l:List Cn) (m:Nat) (b:Bool) (m':Nat),aU go l m=some (b,m')→m'≤m
 |[],m,b,m',e=>by cases e;exact Nat.le_refl _
 |c::l,m,b,m',e=>by
  unfold aU at e;split at e
  ·cases e
  ·rename_i m1 h1;cases e;exact h _ _ _ _ h1
  ·rename_i m1 h1;exact Nat.le_trans (anU h l _ _ _ e) (h _ _ _ _ h1)
theorem usU(D:List Dc):∀(f m:Nat) (rows:List (List Pt)) (row:List Pt) (b:Bool) (m':Nat),uU D f m rows row=some (b,m')→m'≤m
 |0,m,rows,row,b,m',e=>by cases e
 |f+1,0,rows,row,b,m',e=>by cases e
 |f+1,m+1,rows,[],b,m',e=>by cases e;omega
 |f+1,m+1,rows,x::r,b,m',e=>by
  unfold uU at e;split at e
  ·have:=usU D f _ _ _ _ _ e;omega
  ·split at e
   ·have:=usU D f _ _ _ _ _ e;omega
   ·split at e
    ·have:=usU D f _ _ _ _ _ e;omega
    ·have:=anU (λm c b m' h=>usU D f _ _ _ _ _ h) _ _ _ _ e;omega
def nFi(D:List Dc)(s:Str):Nat:=match (cO D s)[(fD s D 0).2.1.toNat]? with
 |some c=>c.fs.length
 |none=>0
mutual
def okP(D:List Dc):Pt→Bool
 |.mk k s _ a _=>(decide (1≤k)&&decide (k≤4))&&((!(k==4)||((fD s D 0).2.2&&nFi D s==a.length))&&oPs D a)
def oPs(D:List Dc):List Pt→Bool
 |[]=>true
 |x::l=>okP D x&&oPs D l
end
theorem okl(D:List Dc)(l:List Pt):oPs D l=l.all (okP D):=by induction l with
 |nil=>rfl
 |cons x l ih=>rw[oPs,List.all_cons,ih]
theorem oPa{D:List Dc}{x:Pt}(h:okP D x=true):∀y∈ars x,okP D y=true:=by
 cases x with
 |mk k s n a p=>
 simp only[okP,Bool.and_eq_true,okl] at h;exact List.all_eq_true.1 h.2.2
theorem okc{D:List Dc}{x:Pt}(h:okP D x=true)(hk:(kPt x==4)=true):(fD (nae x) D 0).2.2=true∧nFi D (nae x)=(ars x).length:=by
 cases x with
 |mk k s n a p=>
 have hk:(k==4)=true:=hk;simp only[okP,hk,Bool.not_true,Bool.false_or,Bool.and_eq_true,beq_iff_eq] at h;exact h.2.1
def Few(D:List Dc)(N:Nat):Prop:=∀d∈D,∀c∈d.cs,c.fs.length≤N
theorem cnO{D:List Dc}{s:Str}{c:Cn}(h:c∈cO D s):∃d∈D,c∈d.cs:=by
 unfold cO at h;split at h
 ·rename_i d hd;exact⟨d,List.mem_of_getElem? hd,h⟩
 ·cases h
theorem nFe{D:List Dc}{N:Nat}(hN:Few D N)(s:Str):nFi D s≤N:=by
 unfold nFi;split
 ·rename_i c hc;obtain⟨d,h1,h2⟩:=cnO (List.mem_of_getElem? hc);exact hN d h1 c h2
 ·exact Nat.zero_le _
structure IU(D:List Dc)(B:Nat)(rows:List (List Pt))(row:List Pt):Prop where
 len:∀r∈rows,r.length=row.length
 le:row.length≤B
 row:∀x∈row,okP D x=true
 rows:∀r∈rows,∀x∈r,okP D x=true
theorem IU.step{D:List Dc}{B n N:Nat}{rows:List (List Pt)}{x:Pt}{r l:List Pt}{sem:Pt→Option (List Pt)}(h:IU D B rows (x::r))(hl:l.length=n)(hn:n≤N)(hok:∀y∈l,okP D y=true)
 (hs:∀y k,sem y=some k→k.length=n∧(okP D y=true→∀z∈k,okP D z=true)):IU D (B+N) (rows.filterMap (tu sem)) (l++r):=by
 have key:∀q∈rows.filterMap (tu sem),∃y k t,(y::t)∈rows∧sem y=some k∧q=k++t:=λq hq=>by
  obtain⟨q0,h1,h2⟩:=List.mem_filterMap.1 hq;cases q0 with
  |nil=>cases h2
  |cons y t=>
   simp only[tu] at h2;cases hk:sem y with
   |none=>rw[hk] at h2;cases h2
   |some k=>rw[hk] at h2;cases h2;exact⟨y,k,t,h1,hk,rfl⟩
 refine⟨λq hq=>?_,?_,λy hy=>?_,λq hq y hy=>?_⟩
 ·obtain⟨y,k,t,h1,h2,rfl⟩:=key q hq;have:=h.len _ h1;simp only[List.length_cons] at this;rw[List.length_append,List.length_append,(hs _ _ h2).1,hl];omega
 ·have:=h.le;simp only[List.length_cons] at this;rw[List.length_append,hl];omega
 ·rcases List.mem_append.1 hy with hy|hy
  ·exact hok y hy
  ·exact h.row y (by simp[hy])
 ·obtain⟨z,k,t,h1,h2,rfl⟩:=key q hq;rcases List.mem_append.1 hy with hy|hy
  ·exact(hs _ _ h2).2 (h.rows _ h1 z (by simp)) y hy
  ·exact h.rows _ h1 y (by simp[hy])
theorem seo{D:List Dc}{s:Str}{n:Nat}(y:Pt)(k:List Pt)(h:seC s n y=some k):k.length=n∧(okP D y=true→∀z∈k,okP D z=true):=by
 unfold seC at h;split at h
 ·cases h;exact⟨List.length_replicate,λ_ z hz=>by rw[(List.mem_replicate.1 hz).2];rfl⟩
 ·split at h
  ·rename_i hc;cases h;simp only[Bool.and_eq_true,beq_iff_eq] at hc;exact⟨hc.2.2,λho z hz=>oPa ho z hz⟩
  ·cases h
theorem sen{D:List Dc}{m:Int}(y:Pt)(k:List Pt)(h:seI m y=some k):k.length=0∧(okP D y=true→∀z∈k,okP D z=true):=by
 unfold seI at h;split at h
 ·cases h;exact⟨rfl,λ_ z hz=>by cases hz⟩
 ·split at h
  ·cases h;exact⟨rfl,λ_ z hz=>by cases hz⟩
  ·cases h
theorem seW{D:List Dc}(y:Pt)(k:List Pt)(h:sW y=some k):k.length=0∧(okP D y=true→∀z∈k,okP D z=true):=by
 unfold sW at h;split at h
 ·cases h;exact⟨rfl,λ_ z hz=>by cases hz⟩
 ·cases h
theorem IU.con{D:List Dc}{B N:Nat}{rows:List (List Pt)}{x:Pt}{r:List Pt}(h:IU D B rows (x::r))(hN:Few D N)(hk:(kPt x==4)=true):IU D (B+N) (rows.filterMap (tu (seC (nae x) (ars x).length))) (ars x++r):=by
 have hx:=h.row x (by simp);refine h.step rfl ?_ (oPa hx) seo;rw[←(okc hx hk).2];exact nFe hN _
theorem IU.cons{D:List Dc}{B N:Nat}{rows:List (List Pt)}{x:Pt}{r:List Pt}(h:IU D B rows (x::r))(hN:Few D N){c:Cn}{s:Str}(hc:c∈cO D s):IU D (B+N) (rows.filterMap (tu (seC c.s c.fs.length))) (List.replicate c.fs.length ayP++r):=by
 refine h.step List.length_replicate ?_ (λy hy=>by rw[(List.mem_replicate.1 hy).2];rfl) seo;obtain⟨d,h1,h2⟩:=cnO hc;exact hN d h1 c h2
theorem IU.int{D:List Dc}{B N:Nat}{rows:List (List Pt)}{x:Pt}{r:List Pt}{m:Int}(h:IU D B rows (x::r)):IU D (B+N) (rows.filterMap (tu (seI m))) r:=
 h.step (l:=[]) (n:=0) rfl (Nat.zero_le _) (λy hy=>by cases hy) sen
theorem IU.wA4{D:List Dc}{B N:Nat}{rows:List (List Pt)}{x:Pt}{r:List Pt}(h:IU D B rows (x::r)):IU D (B+N) (rows.filterMap (tu sW)) r:=
 h.step (l:=[]) (n:=0) rfl (Nat.zero_le _) (λy hy=>by cases hy) seW
end Go.Proofs.YtiheejdkkjfenaaGreatDoor.Pa
namespace Go.Proofs.YtiheejdkkjfenaaGreatDoor.Pa
open Go Go.Proofs.YtiheejdkkjfenaaGreatDoor.Am
variable{f0 f1:FuncId}{c0 c1 l4:List Dat}{p0 p1 p2 p3 p4 p5 p7 p8 p9:Nat}{g:Glob}{Qf:OGP}{x0 x1 x14 x2 x25 x6 x9:Dat}{n10 n11 n15 n16 n26 n27 n3 n31 n7 n8:Int}{s0:List UInt8}
def L126_3(f0:FuncId)(c0 l4:List Dat)(x9:Dat)(n10 n11:Int)(g:Glob)(Qf:OGP):=LC 126 Tryz.f126 [1,1,0,1,0] Qf 2 [(0,.v 179 (.clo f0 c0)),(4,.acc [(31,0)] 86 1 l4),(9,.v 86 (x9)),(10,iv n10),(11,iv n11)] [] g
def lo126:List CuI:=[⟨3,[K 0,(4,.acc [31]),K 9,K 10,K 11],[]⟩]
theorem w126
 (h:∃x,Ha TT 86 x∧GOk TT 86 g p1 0 x∧L126_3 f0 c0 [] x ((elO x).length:Int) 0 g Qf):
 EvF TT 126 [.clo f0 c0,.ptr (some (p1,0))] g Qf:=
 sF Tryz.f126 lo126 [(179,.clo f0 c0),(0,.ptr (some (p1,0)))] ⟨tC rfl,tyr rfl,trivial⟩ h
theorem w126_3
 (h:Br (decide (n11<n10)) (InB n11 (elO x9).length∧InB 0 (elO (fld (gtE (elO x9) n11) 0)).length∧EvF TT f0 (gtE (elO (fld (gtE (elO x9) n11) 0)) 0::c0) g (KQ Qf λv g'=>∃x,Ha TT 24 x∧∃b,Ret v [x,.bool b]∧Br b (InS 1 ((elO (fld (gtE (elO x9) n11) 0)).length:Int) (elO (fld (gtE (elO x9) n11) 0)).length∧EvF TT 127 [.sl 1 [x,.sl 5 (List.drop 1 (List.take ((elO (fld (gtE (elO x9) n11) 0)).length:Int).toNat (elO (fld (gtE (elO x9) n11) 0))))]] g' (KQ Qf λv g'=>∃x,Ha TT 24 x∧Rt v x∧Fits (l4.length+[x].length) 24∧L126_3 f0 c0 (l4++[x]) x9 n10 (IntKind.i64.wrap (n11+1)) g' Qf)) (L126_3 f0 c0 l4 x9 n10 (IntKind.i64.wrap (n11+1)) g' Qf))) (Qf (.val (rf 1 l4)) g)):
 L126_3 f0 c0 l4 x9 n10 n11 g Qf:=sC lo126 h
def L127_3(x0:Dat)(n3:Int)(x9:Dat)(n10 n11:Int)(g:Glob)(Qf:OGP):=LC 127 Tryz.f127 [1,1,0,1,0] Qf 1 [(0,.v 86 (x0)),(3,iv n3),(9,.v 86 (x9)),(10,iv n10),(11,iv n11)] [] g
def L127_11(x6 x25:Dat)(n26 n27:Int)(g:Glob)(Qf:OGP):=LC 127 Tryz.f127 [1,1,1,1,0,1,0] Qf 1 [(6,.v 24 (x6)),(25,.v 86 (x25)),(26,iv n26),(27,iv n27)] [] g
def lo127:List CuI:=[⟨3,[K 0,K 3,K 9,K 10,K 11],[]⟩,⟨11,[K 6,K 25,K 26,K 27],[]⟩]
theorem w127(h0:Ha TT 86 x0)
 (h:L127_3 x0 0 x0 ((elO x0).length:Int) 0 g Qf):
 EvF TT 127 [x0] g Qf:=
 sF Tryz.f127 lo127 [(86,x0)] ⟨h0,trivial⟩ h
theorem w127_3
 (h:Br (decide (n11<n10)) (InB n11 (elO x9).length∧Br (decide (IntKind.i64.wrap (n3+((elO (fld (gtE (elO x9) n11) 0)).length:Int))<0)) (Qf (.panic (.iface 9 (.str [108,101,110,32,111,117,116,32,111,102,32,114,97,110,103,101]))) g) (L127_3 x0 (IntKind.i64.wrap (n3+((elO (fld (gtE (elO x9) n11) 0)).length:Int))) x9 n10 (IntKind.i64.wrap (n11+1)) g Qf)) (EvF TT 189 [.nil,.int .i64 n3] g (KQ Qf λv g'=>∃x,Ha TT 24 x∧Rt v x∧L127_11 x x0 ((elO x0).length:Int) 0 g' Qf))):
 L127_3 x0 n3 x9 n10 n11 g Qf:=sC lo127 h
theorem w127_11
 (h:Br (decide (n27<n26)) (InB n27 (elO x25).length∧Fits ((elO x6).length+(elO (fld (gtE (elO x25) n27) 0)).length) 64∧∃r g',gpp 5 x6 (elO (fld (gtE (elO x25) n27) 0)) g=some (r,g')∧L127_11 r x25 n26 (IntKind.i64.wrap (n27+1)) g' Qf) (∀(v:Val),Rt v x6→Qf (.val v) g)):
 L127_11 x6 x25 n26 n27 g Qf:=sC lo127 h
theorem w128(h0:s0.length≤2^40)(h1:Ha TT 24 x1)
 (h:∃i o,GOk TT 131 (gne (gne g [.str s0]) [x1]) p2 0 (.ptr (some (i,o)))∧∃f c,GOk TT 182 (gne (gne g [.str s0]) [x1]) p3 0 (.clo f c)∧EvF TT f (.clo 129 [.ptr (some ((gne g [.str s0]).boxes.length,0)),.ptr (some (g.boxes.length,0))]::c) (gne (gne g [.str s0]) [x1]) λout g'=>Ou (λx=>Gm TT 131 p2 0 (gne (gne g [.str s0]) [x1]) (gne (gne g [.str s0]) [x1])∧∃x_1,Ha TT 24 x_1∧GOk TT 24 (gne (gne g [.str s0]) [x1]) (gne g [.str s0]).boxes.length 0 x_1∧Gm TT 24 (gne g [.str s0]).boxes.length 0 (gne (gne g [.str s0]) [x1]) (gne (gne g [.str s0]) [x1])∧∃x_2,Ha TT 24 x_2∧GOk TT 24 (gne (gne g [.str s0]) [x1]) p4 0 x_2∧Gm TT 24 p4 0 (gne (gne g [.str s0]) [x1]) (gne (gne g [.str s0]) [x1])∧InS 1 ((elO x_2).length:Int) (elO x_2).length∧Qf (.panic x) g') (λv=>∃x,Ha TT 86 x∧Rt v x∧Gm TT 131 p2 0 (gne (gne g [.str s0]) [x1]) g'∧∃x_1,Ha TT 24 x_1∧GOk TT 24 g' (gne g [.str s0]).boxes.length 0 x_1∧Gm TT 24 (gne g [.str s0]).boxes.length 0 (gne (gne g [.str s0]) [x1]) g'∧∃x_2,Ha TT 24 x_2∧GOk TT 24 g' p4 0 x_2∧Gm TT 24 p4 0 (gne (gne g [.str s0]) [x1]) g'∧InS 1 ((elO x_2).length:Int) (elO x_2).length∧EvF TT 127 [.sl 1 [x_1,.sl 5 (List.drop 1 (List.take ((elO x_2).length:Int).toNat (elO x_2)))]] g' λout g'_1=>Ou (λx=>Gm TT 131 p2 0 g' g'∧Qf (.panic x) g'_1) (λv=>∃x_3,Ha TT 24 x_3∧Rt v x_3∧Gm TT 131 p2 0 g' g'_1∧EvF TT 81 [.ptr (some (i,o)),x,x_3] g'_1 (KQ Qf λv g'=>∃b,v=.d (.bool b)∧Qf (.val (.d (.bool b))) g')) out) out):
 EvF TT 128 [.str s0,x1,.ptr (some (p2,0)),.ptr (some (p3,0)),.ptr (some (p4,0))] g Qf:=
 sF Tryz.f128 [] [(9,.str s0),(24,x1),(0,.ptr (some (p2,0))),(0,.ptr (some (p3,0))),(0,.ptr (some (p4,0)))] ⟨tyt rfl h0,h1,tyr rfl,tyr rfl,tyr rfl,trivial⟩ h
theorem w129(h0:Ha TT 52 x0)
 (h:EvF TT 130 [x0] g (KQ Qf λv g'=>∃b,v=.d (.bool b)∧Br b (∃x,Ha TT 24 x∧GOk TT 24 g' p1 0 x∧EvF TT 44 [.int .i64 ((elO x).length:Int)] g' (KQ Qf λv g'=>∃x,Ha TT 24 x∧Rt v x∧∀(us:List Val),RtL us [x,.bool true]→Qf (.val (.tuple us)) g')) (Br (intOf (fld x0 0)==4) (∃s,s.length.le 1099511627776∧GOk TT 9 g' p2 0 (.str s)∧Br (strOf (fld x0 1)==s) (∃x,Ha TT 24 x∧GOk TT 24 g' p1 0 x∧∀(us:List Val),RtL us [fld x0 3,.bool (((elO (fld x0 3)).length:Int)==((elO x).length:Int))]→Qf (.val (.tuple us)) g') (∀(us:List Val),RtL us [fld x0 3,.bool false]→Qf (.val (.tuple us)) g')) (∀(us:List Val),RtL us [fld x0 3,.bool false]→Qf (.val (.tuple us)) g')))):
 EvF TT 129 [x0,.ptr (some (p1,0)),.ptr (some (p2,0))] g Qf:=
 sF Tryz.f129 [] [(52,x0),(0,.ptr (some (p1,0))),(0,.ptr (some (p2,0)))] ⟨h0,tyr rfl,tyr rfl,trivial⟩ h
theorem w130(h0:Ha TT 52 x0)
 (h:Br (intOf (fld x0 0)==1) (Qf (.val (.d (.bool true))) g) (Qf (.val (.d (.bool (intOf (fld x0 0)==2)))) g)):
 EvF TT 130 [x0] g Qf:=
 sF Tryz.f130 [] [(52,x0)] ⟨h0,trivial⟩ h
theorem w131(h0:Ha TT 52 x0)
 (h:EvF TT 130 [x0] g (KQ Qf λv g'=>∃b,v=.d (.bool b)∧Br b (∀(us:List Val),RtL us [.nil,.bool true]→Qf (.val (.tuple us)) g') (Br (intOf (fld x0 0)==3) (∃n,GOk TT 3 g' p1 2 (.int .i64 n)∧∀(us:List Val),RtL us [.nil,.bool (intOf (fld x0 2)==n)]→Qf (.val (.tuple us)) g') (∀(us:List Val),RtL us [.nil,.bool false]→Qf (.val (.tuple us)) g')))):
 EvF TT 131 [x0,.ptr (some (p1,0))] g Qf:=
 sF Tryz.f131 [] [(52,x0),(0,.ptr (some (p1,0)))] ⟨h0,tyr rfl,trivial⟩ h
def L132_4(p0:Nat)(x6:Dat)(p7:Nat)(x14:Dat)(n15 n16:Int)(g:Glob)(Qf:OGP):=LC 132 Tryz.f132 [1,1,1,0,1,0] Qf 2 [(0,.v 131 (.ptr (some (p0,0)))),(6,.v 81 (x6)),(7,.v 0 (.ptr (some (p7,0)))),(14,.v 86 (x14)),(15,iv n15),(16,iv n16)] [] g
def lo132:List CuI:=[⟨4,[K 0,K 6,K 7,K 14,K 15,K 16],[]⟩]
theorem w132(h1:Ha TT 86 x1)
 (h:Gu (gne (gmn g) [Dat.map none]) (gmn g).boxes.length 0 1∧L132_4 p0 .nil (gmn g).boxes.length x1 ((elO x1).length:Int) 0 (gp (gne (gmn g) [Dat.map none]) (gmn g).boxes.length 0 (Dat.map (some g.boxes.length))) Qf):
 EvF TT 132 [.ptr (some (p0,0)),x1] g Qf:=
 sF Tryz.f132 lo132 [(131,.ptr (some (p0,0))),(86,x1)] ⟨tPt rfl,h1,trivial⟩ h
theorem w132_4
 (h:Br (decide (n16<n15)) (InB n16 (elO x14).length∧InB 0 (elO (fld (gtE (elO x14) n16) 0)).length∧Br (intOf (fld (gtE (elO (fld (gtE (elO x14) n16) 0)) 0) 0)!=4) (L132_4 p0 x6 p7 x14 n15 (IntKind.i64.wrap (n16+1)) g Qf) (∃i,GOk TT 113 g p7 0 (Dat.map (some i))∧∃n,gml g i=some n∧Br ((↑n:Int)==0) (∃x,Ha TT 22 x∧GOk TT 22 g p0 0 x∧InB 0 (elO (fld (gtE (elO x14) n16) 0)).length∧EvF TT 49 [x,.str (strOf (fld (gtE (elO (fld (gtE (elO x14) n16) 0)) 0) 1))] g (KQ Qf λv g'=>∃n n_1 b,Ret v [.int .i64 n,.int .i64 n_1,.bool b]∧∃x,Ha TT 22 x∧GOk TT 22 g' p0 0 x∧InB n (elO x).length∧∃i,GOk TT 113 g' p7 0 (Dat.map (some i))∧InB 0 (elO (fld (gtE (elO x14) n16) 0)).length∧∃n_2 b,ML g' (some i) (.int .i64 0) (.str (strOf (fld (gtE (elO (fld (gtE (elO x14) n16) 0)) 0) 1))) (.int .i64 n_2) b∧∃g'_1,gmp g' i (.str (strOf (fld (gtE (elO (fld (gtE (elO x14) n16) 0)) 0) 1))) (.int .i64 (IntKind.i64.wrap (n_2+1)))=some g'_1∧L132_4 p0 (fld (gtE (elO x) n) 2) p7 x14 n15 (IntKind.i64.wrap (n16+1)) g'_1 Qf)) (∃i,GOk TT 113 g p7 0 (Dat.map (some i))∧InB 0 (elO (fld (gtE (elO x14) n16) 0)).length∧∃n b,ML g (some i) (.int .i64 0) (.str (strOf (fld (gtE (elO (fld (gtE (elO x14) n16) 0)) 0) 1))) (.int .i64 n) b∧∃g',gmp g i (.str (strOf (fld (gtE (elO (fld (gtE (elO x14) n16) 0)) 0) 1))) (.int .i64 (IntKind.i64.wrap (n+1)))=some g'∧L132_4 p0 x6 p7 x14 n15 (IntKind.i64.wrap (n16+1)) g' Qf))) (∃i,GOk TT 113 g p7 0 (Dat.map (some i))∧∃n,gml g i=some n∧Br (decide (0<(↑n:Int))) (EvF TT 133 [x6,.clo 190 [.ptr (some (p7,0))]] g (KQ Qf λv g'=>∃b,v=.d (.bool b)∧∀(us:List Val),RtL us [x6,.bool !b]→Qf (.val (.tuple us)) g')) (∀(us:List Val),RtL us [x6,.bool false]→Qf (.val (.tuple us)) g))):
 L132_4 p0 x6 p7 x14 n15 n16 g Qf:=sC lo132 h
theorem w190(h0:Ha TT 80 x0)
 (h:∃i,GOk TT 113 g p1 0 (Dat.map (some i))∧∃n b,ML g (some i) (.int .i64 0) (.str (strOf (fld x0 0))) (.int .i64 n) b∧Qf (.val (.d (.bool (n==0)))) g):
 EvF TT 190 [x0,.ptr (some (p1,0))] g Qf:=
 sF Tryz.f190 [] [(80,x0),(0,.ptr (some (p1,0)))] ⟨h0,tyr rfl,trivial⟩ h
theorem w133(h0:Ha TT 81 x0)
 (h:EvF TT 191 [x0,.clo f1 c1] g (KQ Qf λv g'=>∃n,v=.d (.int .i64 n)∧Qf (.val (.d (.bool (decide (0≤n))))) g')):
 EvF TT 133 [x0,.clo f1 c1] g Qf:=
 sF Tryz.f133 [] [(81,x0),(187,.clo f1 c1)] ⟨h0,tC rfl,trivial⟩ h
def L191_2(x0:Dat)(f1:FuncId)(c1:List Dat)(n7 n8:Int)(g:Glob)(Qf:OGP):=LC 191 Tryz.f191 [1,0,1,0] Qf 2 [(0,.v 81 (x0)),(1,.v 187 (.clo f1 c1)),(7,iv n7),(8,iv n8)] [] g
def lo191:List CuI:=[⟨2,[K 0,K 1,K 7,K 8],[]⟩]
theorem w191(h0:Ha TT 81 x0)
 (h:L191_2 x0 f1 c1 ((elO x0).length:Int) 0 g Qf):
 EvF TT 191 [x0,.clo f1 c1] g Qf:=
 sF Tryz.f191 lo191 [(81,x0),(187,.clo f1 c1)] ⟨h0,tC rfl,trivial⟩ h
theorem w191_2
 (h:Br (decide (n8<n7)) (InB n8 (elO x0).length∧EvF TT f1 (gtE (elO x0) n8::c1) g (KQ Qf λv g'=>∃b,v=.d (.bool b)∧Br b (Qf (.val (.d (.int .i64 n8))) g') (L191_2 x0 f1 c1 n7 (IntKind.i64.wrap (n8+1)) g' Qf))) (Qf (.val (.d (.int .i64 (-1)))) g)):
 L191_2 x0 f1 c1 n7 n8 g Qf:=sC lo191 h
theorem w134(h0:Ha TT 80 x0)
 (h:∃f c,GOk TT 183 g p1 0 (.clo f c)∧EvF TT 44 [.int .i64 ((elO (fld x0 1)).length:Int)] g λout g'=>Ou (λx=>Gm TT 183 p1 0 g g∧Qf (.panic x) g') (λv=>∃x,Ha TT 24 x∧Rt v x∧Gm TT 183 p1 0 g g'∧EvF TT f (.str (strOf (fld x0 0))::x::c) g' (KQ Qf λv g'=>∃b,v=.d (.bool b)∧Qf (.val (.d (.bool b))) g')) out):
 EvF TT 134 [x0,.ptr (some (p1,0))] g Qf:=
 sF Tryz.f134 [] [(80,x0),(0,.ptr (some (p1,0)))] ⟨h0,tyr rfl,trivial⟩ h
theorem w135(h0:Ha TT 52 x0)
 (h:EvF TT 130 [x0] g (KQ Qf λv g'=>∃b,v=.d (.bool b)∧∀(us:List Val),RtL us [.nil,.bool b]→Qf (.val (.tuple us)) g')):
 EvF TT 135 [x0] g Qf:=
 sF Tryz.f135 [] [(52,x0)] ⟨h0,trivial⟩ h
def L81_5(p3 p4 p5:Nat)(g:Glob)(Qf:OGP):=LC 81 Tryz.f81 [1,1,1] Qf 3 [(3,.v 0 (.ptr (some (p3,0)))),(4,.v 0 (.ptr (some (p4,0)))),(5,.v 0 (.ptr (some (p5,0))))] [] g
def L81_6(p3 p4:Nat)(p5 p7:Nat)(g:Glob)(Qf:OGP):=LC 81 Tryz.f81 [1,1,1,1] Qf 3 [(3,.v 0 (.ptr (some (p3,0)))),(4,.v 0 (.ptr (some (p4,0)))),(5,.v 0 (.ptr (some (p5,0)))),(7,.v 0 (.ptr (some (p7,0))))] [] g
def L81_7(p3 p4:Nat)(p5 p7 p8:Nat)(g:Glob)(Qf:OGP):=LC 81 Tryz.f81 [1,1,1,1,1] Qf 3 [(3,.v 0 (.ptr (some (p3,0)))),(4,.v 0 (.ptr (some (p4,0)))),(5,.v 0 (.ptr (some (p5,0)))),(7,.v 0 (.ptr (some (p7,0)))),(8,.v 0 (.ptr (some (p8,0))))] [] g
def L81_8(p3 p4:Nat)(p5 p7:Nat)(p8 p9:Nat)(g:Glob)(Qf:OGP):=LC 81 Tryz.f81 [1,1,1,1,1,0,1] Qf 3 [(3,.v 0 (.ptr (some (p3,0)))),(4,.v 0 (.ptr (some (p4,0)))),(5,.v 0 (.ptr (some (p5,0)))),(7,.v 0 (.ptr (some (p7,0)))),(8,.v 0 (.ptr (some (p8,0)))),(9,.v 0 (.ptr (some (p9,0))))] [] g
def L81_9(p3 p4:Nat)(p5 p7:Nat)(p8 p9:Nat)(n31:Int)(g:Glob)(Qf:OGP):=LC 81 Tryz.f81 [1,1,1,1,1,0,1,1] Qf 3 [(3,.v 0 (.ptr (some (p3,0)))),(4,.v 0 (.ptr (some (p4,0)))),(5,.v 0 (.ptr (some (p5,0)))),(7,.v 0 (.ptr (some (p7,0)))),(8,.v 0 (.ptr (some (p8,0)))),(9,.v 0 (.ptr (some (p9,0)))),(31,iv n31)] [] g
def L81_13(p3 p4:Nat)(p5 p7 p8:Nat)(g:Glob)(Qf:OGP):=LC 81 Tryz.f81 [1,1,1,1,1,1] Qf 3 [(3,.v 0 (.ptr (some (p3,0)))),(4,.v 0 (.ptr (some (p4,0)))),(5,.v 0 (.ptr (some (p5,0)))),(7,.v 0 (.ptr (some (p7,0)))),(8,.v 0 (.ptr (some (p8,0))))] [] g
def jA0:List CuI:=[⟨5,[K 3,K 4,K 5],[]⟩,⟨6,[K 3,K 4,K 5,K 7],[]⟩,⟨7,[K 3,K 4,K 5,K 7,K 8],[]⟩,⟨8,[K 3,K 4,K 5,K 7,K 8,K 9],[]⟩,⟨9,[K 3,K 4,K 5,K 7,K 8,K 9,K 31],[]⟩,⟨13,[K 3,K 4,K 5,K 7,K 8],[]⟩]
theorem w81(h1:Ha TT 86 x1)(h2:Ha TT 24 x2)
 (h:∃i o,GOk TT 131 (gne (gne (gne g [.ptr (some (p0,0))]) [x1]) [x2]) g.boxes.length 0 (.ptr (some (i,o)))∧EvF TT 125 [.ptr (some (i,o+1)),.int .i64 1] (gne (gne (gne g [.ptr (some (p0,0))]) [x1]) [x2]) (KQ Qf λv g'=>∃n,v=.d (.int .i64 n)∧Br (decide (65536<n)) (Qf (.panic (.iface 130 (.agg []))) g') (∃x,Ha TT 24 x∧GOk TT 24 g' (gne (gne g [.ptr (some (p0,0))]) [x1]).boxes.length 0 x∧Br (((elO x).length:Int)==0) (∃x,Ha TT 86 x∧GOk TT 86 g' (gne g [.ptr (some (p0,0))]).boxes.length 0 x∧Qf (.val (.d (.bool (((elO x).length:Int)==0)))) g') (L81_5 g.boxes.length (gne g [.ptr (some (p0,0))]).boxes.length (gne (gne g [.ptr (some (p0,0))]) [x1]).boxes.length g' Qf)))):
 EvF TT 81 [.ptr (some (p0,0)),x1,x2] g Qf:=
 sxf (rk:=rk) (fn:=Tryz.f81) (loops:=[]) (joins:=jA0) (n:=100000) (args:=[(131,.ptr (some (p0,0))),(86,x1),(24,x2)]) rfl rfl rfl rfl ⟨tPt rfl,h1,h2,trivial⟩ (by kernel_rfl) h
theorem w81_5
 (h:Gu (gne g [Dat.nilFn]) g.boxes.length 0 1∧L81_6 p3 p4 p5 g.boxes.length (gp (gne g [Dat.nilFn]) g.boxes.length 0 (Dat.clo 126 [Dat.ptr (some (p4,0))])) Qf):
 L81_5 p3 p4 p5 g Qf:=sxc (rk:=rk) (loops:=[]) (joins:=jA0) (n:=100000) (by kernel_rfl) h
theorem w81_6
 (h:Gu (gne g [Dat.nilFn]) g.boxes.length 0 1∧L81_7 p3 p4 p5 p7 g.boxes.length (gp (gne g [Dat.nilFn]) g.boxes.length 0 (Dat.clo 128 [Dat.ptr (some (p3,0)),Dat.ptr (some (p7,0)),Dat.ptr (some (p5,0))])) Qf):
 L81_6 p3 p4 p5 p7 g Qf:=sxc (rk:=rk) (loops:=[]) (joins:=jA0) (n:=100000) (by kernel_rfl) h
theorem w81_7
 (h:∃x,Ha TT 24 x∧GOk TT 24 g p5 0 x∧InB 0 (elO x).length∧Gu (gne g [Dat.int IntKind.i64 0,Dat.str [],Dat.int IntKind.i64 0,Dat.nil,Dat.int IntKind.i64 0]) g.boxes.length 0 5∧L81_8 p3 p4 p5 p7 p8 g.boxes.length (gp (gne g [Dat.int IntKind.i64 0,Dat.str [],Dat.int IntKind.i64 0,Dat.nil,Dat.int IntKind.i64 0]) g.boxes.length 0 (gtE (elO x) 0)) Qf):
 L81_7 p3 p4 p5 p7 p8 g Qf:=sxc (rk:=rk) (loops:=[]) (joins:=jA0) (n:=100000) (by kernel_rfl) h
theorem w81_8
 (h:∃n,GOk TT 3 g p9 0 (Dat.int IntKind.i64 n)∧L81_9 p3 p4 p5 p7 p8 p9 n g Qf):
 L81_8 p3 p4 p5 p7 p8 p9 g Qf:=sxc (rk:=rk) (loops:=[]) (joins:=jA0) (n:=100000) (by kernel_rfl) h
theorem w81_9
 (h:Br (n31==4) (∃f c,GOk TT 183 g p8 0 (.clo f c)∧∃s,s.length.le 1099511627776∧GOk TT 9 g p9 1 (.str s)∧∃x,Ha TT 24 x∧GOk TT 24 g p9 3 x∧EvF TT f (.str s::x::c) g (KQ Qf λv g'=>∃b,v=.d (.bool b)∧Qf (.val (.d (.bool b))) g')) (Br (n31==3) (∃i o,GOk TT 131 g p3 0 (.ptr (some (i,o)))∧∃f c,GOk TT 182 g p7 0 (.clo f c)∧EvF TT f (.clo 131 [.ptr (some (p9,0))]::c) g λout g'=>Ou (λx=>Gm TT 131 p3 0 g g∧∃x_1,Ha TT 24 x_1∧GOk TT 24 g p5 0 x_1∧Gm TT 24 p5 0 g g∧InS 1 ((elO x_1).length:Int) (elO x_1).length∧Qf (.panic x) g') (λv=>∃x,Ha TT 86 x∧Rt v x∧Gm TT 131 p3 0 g g'∧∃x_1,Ha TT 24 x_1∧GOk TT 24 g' p5 0 x_1∧Gm TT 24 p5 0 g g'∧InS 1 ((elO x_1).length:Int) (elO x_1).length∧EvF TT 81 [.ptr (some (i,o)),x,.sl 5 (List.drop 1 (List.take ((elO x_1).length:Int).toNat (elO x_1)))] g' (KQ Qf λv g'=>∃b,v=.d (.bool b)∧Qf (.val (.d (.bool b))) g')) out) (L81_13 p3 p4 p5 p7 p8 g Qf))):
 L81_9 p3 p4 p5 p7 p8 p9 n31 g Qf:=sxc (rk:=rk) (loops:=[]) (joins:=jA0) (n:=100000) (by kernel_rfl) h
theorem w81_13
 (h:∃i o,GOk TT 131 g p3 0 (.ptr (some (i,o)))∧∃x,Ha TT 86 x∧GOk TT 86 g p4 0 x∧EvF TT 132 [.ptr (some (i,o)),x] g (KQ Qf λv g'=>∃x,Ha TT 81 x∧∃b,Ret v [x,.bool b]∧Br b (EvF TT 133 [x,.clo 134 [.ptr (some (p8,0))]] g' (KQ Qf λv g'=>∃b,v=.d (.bool b)∧Qf (.val (.d (.bool b))) g')) (∃i o,GOk TT 131 g' p3 0 (.ptr (some (i,o)))∧∃f c,GOk TT 182 g' p7 0 (.clo f c)∧EvF TT f (.clo 135 []::c) g' λout g'_1=>Ou (λx=>Gm TT 131 p3 0 g' g'∧∃x_1,Ha TT 24 x_1∧GOk TT 24 g' p5 0 x_1∧Gm TT 24 p5 0 g' g'∧InS 1 ((elO x_1).length:Int) (elO x_1).length∧Qf (.panic x) g'_1) (λv=>∃x,Ha TT 86 x∧Rt v x∧Gm TT 131 p3 0 g' g'_1∧∃x_1,Ha TT 24 x_1∧GOk TT 24 g'_1 p5 0 x_1∧Gm TT 24 p5 0 g' g'_1∧InS 1 ((elO x_1).length:Int) (elO x_1).length∧EvF TT 81 [.ptr (some (i,o)),x,.sl 5 (List.drop 1 (List.take ((elO x_1).length:Int).toNat (elO x_1)))] g'_1 (KQ Qf λv g'=>∃b,v=.d (.bool b)∧Qf (.val (.d (.bool b))) g')) out))):
 L81_13 p3 p4 p5 p7 p8 g Qf:=sxc (rk:=rk) (loops:=[]) (joins:=jA0) (n:=100000) (by kernel_rfl) h
end Go.Proofs.YtiheejdkkjfenaaGreatDoor.Pa
namespace Go.Proofs.YtiheejdkkjfenaaGreatDoor.Pa
open Go Go.Proofs.YtiheejdkkjfenaaGreatDoor.Am
def roA(x:Dat):List Pt:=(elO x).map aP
def ros(x:Dat):List (List Pt):=(elO x).map roA
theorem uo:TT.und 86=some (.slice 24):=by kernel_rfl
theorem szR:TT.size 24=some 1:=by kernel_rfl
theorem byR:TT.bytes 24=some 24:=by kernel_rfl
theorem flr{e:Dat}(h:Ha TT 24 e):fld e 0=e:=by
 cases e with
 |agg cs=>exact absurd h (by intro h;cases h with|agg _ tys _ ha=>exact absurd ha (by rw[uP];simp[isAgg?]))
 |_=>rfl
theorem kps{bx:List Nat}{b:Nat}{g g':Glob}(hb:g'.boxes=g.boxes)(ht:g.toks.length≤g'.toks.length)(h0:b=0):Kp bx b g g':=⟨by rw[hb];exact Nat.le_refl _,λj _ _=>by rw[hb],ht,λj hj=>by omega⟩
theorem szo:TT.size 86=some 1:=by kernel_rfl
theorem szI:TT.size 3=some 1:=by kernel_rfl
theorem goo{g:Glob}{i:Nat}{x:Dat}(hb:g.boxes[i]?=some (.cells [.d x])):GOk TT 24 g i 0 x:=gok uP szR rfl hb rfl
theorem unn{g:Glob}{i:Nat}{x:Dat}{t:TypeId}(ht:isF (TT.und t)=true)(hs:TT.size t=some 1)(hb:g.boxes[i]?=some (.cells [.d x])):GOk TT t g i 0 x:=by
 obtain⟨d,h1,h2⟩:=isu ht;exact gok h1 hs h2 hb rfl
theorem aok{i n:Nat}{l:Dat}{g:Glob}(hb:g.boxes[i]?=some (.cells [.d l,.d (.int .i64 (n:Int))]))(hn:n≤1152921504606846976)(Qf:OGP)(hQ:Qf (.val (.d (.int .i64 ((n+1:Nat):Int)))) ⟨g.boxes.set i (.cells [.d l,.d (.int .i64 ((n+1:Nat):Int))]),g.toks⟩):
 EvF TT 125 [.ptr (some (i,1)),.int .i64 1] g Qf:=
 ⟨_,_,hQ,1,λm hm=>by
   obtain⟨k,rfl⟩:∃k,m=k+1:=⟨m-1,by omega⟩
   show(match bI g i 1 with
    |some (.ofNat n)=>bif Nat.ble n 1152921504606846976&&Nat.ble 1 1152921504606846976 then some (Out.val (.d (.int .i64 ((n+1:Nat):Int))),adB g i 1 ((n+1:Nat):Int)) else none
    |_=>none)=_
   have e:bI g i 1=some (Int.ofNat n):=by simp only[bI,hb];rfl
   rw[e];simp only[Nat.ble_eq_true_of_le hn,show Nat.ble 1 1152921504606846976=true from rfl,Bool.and_self,cond_true];congr 2;simp only[adB,hb];rfl⟩
theorem tyg{k:Nat}{xs:List Dat}(hl:Sl TT 52 xs.length)(hx:∀x∈xs,Ha TT 52 x):Ha TT 24 (.gsl k 5 xs):=.gsl _ _ _ _ _ uP sza hl hx
theorem tya{xs:List Dat}(hl:Sl TT 52 xs.length)(hx:∀x∈xs,Ha TT 52 x):Ha TT 24 (.sl 5 xs):=.sl _ _ _ _ uP sza hl hx
theorem ftP{n:Nat}(h:n≤2^39):Sl TT 52 n:=⟨by omega,λb' hb'=>by
 rw[bP] at hb';cases hb';omega⟩
theorem fiP{n:Nat}(h:n≤2^39):Fits n 64:=⟨by omega,by omega⟩
def CaA(g0:Glob)(g:Glob)(x:Dat)(l:List Dat)(all:Nat):Prop:=Kp [] 0 g0 g∧((all=0∧x=.nil∧l=[])∨∃k,x=.gsl k 5 l∧g.toks[k]?=some (5,l.length))
theorem CaA.els{g0 g:Glob}{x:Dat}{l:List Dat}{n:Nat}(h:CaA g0 g x l n):elO x=l:=by
 rcases h.2 with ⟨_,rfl,rfl⟩|⟨k,rfl,_⟩<;>rfl
theorem CaA.app{g0 g:Glob}{x:Dat}{l ys:List Dat}{n:Nat}(h:CaA g0 g x l n)(hn:l.length+ys.length≤n):∃r g',gpp 5 x ys g=some (r,g')∧CaA g0 g' r (l++ys) n:=by
 cases ys with
 |nil=>exact⟨x,g,rfl,by rw[List.append_nil];exact h⟩
 |cons y ys=>
  rcases h.2 with ⟨h0,_,_⟩|⟨k,rfl,hk⟩
  ·simp only[List.length_cons] at hn;omega
  ·refine⟨.gsl k 5 (l++y::ys),⟨g.boxes,g.toks.set k (5,l.length+(y::ys).length)⟩,?_,h.1.trans (kps rfl (by simp) rfl),.inr ⟨k,rfl,?_⟩⟩
   ·simp only[gpp,List.isEmpty_cons,Bool.false_eq_true,if_false,hk,and_self,if_true]
   ·have hlt:=(List.getElem?_eq_some_iff.1 hk).1;simp[hlt]
theorem cno{a b:Dat}{g:Glob}(ha:Ha TT 24 a)(hb:Ha TT 24 b)(hn:(elO a).length+(elO b).length≤2^39)(Qf:OGP)
 (hQ:∀v x g',Ha TT 24 x→Rt v x→elO x=elO a++elO b→Kp [] 0 g g'→Qf (.val v) g'):EvF TT 127 [.sl 1 [a,b]] g Qf:=by
 have hab:Ha TT 86 (.sl 1 [a,b]):=.sl _ _ _ _ uo szR ⟨by simp,λb' hb'=>by rw[byR] at hb';cases hb';simp⟩ (by simp[ha,hb]);have f0:fld a 0=a:=flr ha;have f1:fld b 0=b:=flr hb;have ea:=ha.els uP;have eb:=hb.els uP;have w1:∀n:Nat,n≤2^40→IntKind.i64.wrap (n:Int)=n:=λn h=>wrp (by omega) (by omega);have neg:∀n:Nat,decide ((n:Int)<0)=false:=λn=>decide_eq_false (by omega)
 -- the second loop
 have two:∀(x:Dat) (g1:Glob),CaA g g1 x [] ((elO a).length+(elO b).length)→L127_11 x (.sl 1 [a,b]) 2 0 g1 Qf:=λx g1 h1=>by
  have e0:=h1.els;refine w127_11 ?_;rw[show decide ((0:Int)<2)=true from rfl,Be,show gtE (elO (.sl 1 [a,b])) 0=a from rfl,f0,e0];obtain⟨r1,g2,k1,h2⟩:=h1.app (ys:=elO a) (by simp);refine⟨⟨by simp,by simp[elO]⟩,fiP (by simp;omega),r1,g2,k1,?_⟩;rw[List.nil_append] at h2;have e1:=h2.els;refine w127_11 ?_;rw[show IntKind.i64.wrap (0+1)=1 from rfl,show decide ((1:Int)<2)=true from rfl,Be,show gtE (elO (.sl 1 [a,b])) 1=b from rfl,f1,e1];obtain⟨r2,g3,k2,h3⟩:=h2.app (ys:=elO b) (Nat.le_refl _);refine⟨⟨by simp,by simp[elO]⟩,fiP hn,r2,g3,k2,?_⟩;have e2:=h3.els;refine w127_11 ?_;rw[show IntKind.i64.wrap (1+1)=2 from rfl,show decide ((2:Int)<2)=false from rfl,Bf];intro v hv;refine hQ v r2 g3 ?_ hv e2 h3.1;rcases h3.2 with ⟨_,rfl,_⟩|⟨k,rfl,_⟩
  ·exact tyn
  ·refine tyg (ftP (by rw[List.length_append];exact hn)) λy hy=>?_;rcases List.mem_append.1 hy with hy|hy
   ·exact ea.2 _ hy
   ·exact eb.2 _ hy
 refine w127 hab ?_;have hlen:((elO (.sl 1 [a,b])).length:Int)=2:=rfl;rw[hlen];refine w127_3 ?_;rw[show decide ((0:Int)<2)=true from rfl,Be,show gtE (elO (.sl 1 [a,b])) 0=a from rfl,f0,Int.zero_add,w1 _ (by omega),neg,Bf];refine⟨⟨by simp,by simp[elO]⟩,w127_3 ?_⟩;rw[show IntKind.i64.wrap (0+1)=1 from rfl,show decide ((1:Int)<2)=true from rfl,Be,show gtE (elO (.sl 1 [a,b])) 1=b from rfl,f1,←Int.natCast_add,w1 _ (by omega),neg,Bf];refine⟨⟨by simp,by simp[elO]⟩,w127_3 ?_⟩;rw[show IntKind.i64.wrap (1+1)=2 from rfl,show decide ((2:Int)<2)=false from rfl,Bf];have hlen':((elO (.sl 1 [a,b])).length:Int)=2:=rfl
 by_cases h0:(elO a).length+(elO b).length=0
 ·rw[h0];exact gz g _ ⟨_,tyn,rfl,by rw[hlen'];exact two _ g ⟨Kp.refl _ _ _,.inl ⟨h0,rfl,rfl⟩⟩⟩
 ·exact grN (by omega) (by omega) g _ ⟨_,tyg (ftP (by simp)) (λx hx=>by cases hx),rfl,by rw[hlen'];exact two _ _ ⟨kps rfl (by simp) rfl,.inr ⟨_,rfl,by simp⟩⟩⟩
theorem wil{x:Dat}{g:Glob}(hx:Ha TT 52 x)(Qf:OGP)(hQ:Qf (.val (.d (.bool (wP (aP x))))) g):EvF TT 130 [x] g Qf:=by
 have hw:=w130 (g:=g) (Qf:=Qf) hx;obtain⟨k1,s1,n1,a1,p1,rfl,hs1,t1⟩:=ptt hx;refine hw ?_;simp only[fld,nth,intOf];have hab:wP (aP (.agg [.int .i64 k1,.str s1,.int .i64 n1,a1,.int .i64 p1]))=(k1==1||k1==2):=rfl;rw[hab] at hQ;refine Bi.2 ⟨λq=>?_,λq=>?_⟩
 ·rw[q] at hQ;exact hQ
 ·rw[q] at hQ;exact hQ
def Parts(g:Glob)(f:FuncId)(c:List Dat)(sem:Pt→Option (List Pt)):Prop:=
 ∀a g1,Ha TT 52 a→Kp [] 0 g g1→∀Q:Out→Glob→Prop,
  (∀x b,Ha TT 24 x→b=(sem (aP a)).isSome→(∀l,sem (aP a)=some l→roA x=l)→∀us,RtL us [x,.bool b]→Q (.val (.tuple us)) g1)→EvF TT f (a::c) g1 Q
theorem asA:aP anP=ayP:=rfl
theorem rob(n:Nat):roA (.sl 5 (List.replicate n anP))=List.replicate n ayP:=by
 simp[roA,elO,asA]
theorem tay:Ha TT 52 anP:=tpa (by simp) tyn
theorem tan{n:Nat}(h:Sl TT 52 n):Ha TT 24 (.sl 5 (List.replicate n anP)):=tya (by rw[List.length_replicate];exact h) λx hx=>by rw[(List.mem_replicate.1 hx).2];exact tay
theorem prc{g:Glob}{p1 p2:Nat}{A:Dat}{s:Str}(hA:Ha TT 24 A)(hs:s.length≤2^40)(h1:g.boxes[p1]?=some (.cells [.d A]))(h2:g.boxes[p2]?=some (.cells [.d (.str s)])):
 Parts g 129 [.ptr (some (p1,0)),.ptr (some (p2,0))] (seC s (elO A).length):=by
 intro a g1 ha hk Q hQ;have h1:=hk.at h1 (by simp);have h2:=hk.at h2 (by simp);have eA:=hA.els uP;have hw:=w129 (p1:=p1) (p2:=p2) (g:=g1) (Qf:=Q) ha;refine hw (wil ha _ ⟨_,rfl,?_⟩);obtain⟨k1,s1,n1,a1,q1,rfl,hs1,t1⟩:=ptt ha;have hab:aP (.agg [.int .i64 k1,.str s1,.int .i64 n1,a1,.int .i64 q1])=.mk k1 s1 n1 (roA a1) q1:=by unfold roA;rw[←abP];rfl
 rw[hab] at hQ⊢;simp only[fld,nth,strOf,intOf];refine Bi.2 ⟨λq=>⟨A,hA,goo h1,?_⟩,λq=>Bi.2 ⟨λq2=>⟨s,by show s.length≤1099511627776;omega,gok unS szS rfl h2 rfl,Bi.2 ⟨λq3=>⟨A,hA,goo h1,?_⟩,λq3=>?_⟩⟩,λq2=>?_⟩⟩
 ·have hsem:seC s (elO A).length (.mk k1 s1 n1 (roA a1) q1)=some (List.replicate (elO A).length ayP):=if_pos q;refine wio (n:=(elO A).length) (by have:=eA.1.1;omega) g1 _ ⟨_,tan eA.1,rfl,?_⟩;exact hQ _ true (tan eA.1) (by rw[hsem];rfl) (λl hl=>by rw[hsem] at hl;cases hl;exact rob _)
 ·have hsem:seC s (elO A).length (.mk k1 s1 n1 (roA a1) q1)=if (roA a1).length==(elO A).length then some (roA a1) else none:=by
   unfold seC;rw[if_neg (by rw[q];simp)];show(if k1==4&&(s1==s&&(roA a1).length==(elO A).length) then _ else none)=_;rw[q2,q3];rfl
  have hlen:(roA a1).length=(elO a1).length:=List.length_map _;have hdec:(((elO a1).length:Int)==((elO A).length:Int))=((roA a1).length==(elO A).length):=by
   rw[hlen,Bool.eq_iff_iff];simp only[beq_iff_eq];omega
  rw[hdec];refine hQ a1 _ t1 ?_ (λl hl=>?_)
  ·rw[hsem];cases ((roA a1).length==(elO A).length)<;>rfl
  ·rw[hsem] at hl;split at hl
   ·cases hl;rfl
   ·cases hl
 ·have hsem:seC s (elO A).length (.mk k1 s1 n1 (roA a1) q1)=none:=by
   unfold seC;rw[if_neg (by rw[q];simp)];show(if k1==4&&(s1==s&&(roA a1).length==(elO A).length) then _ else none)=_;rw[q3,Bool.false_and,Bool.and_false];rfl
  exact hQ a1 _ t1 (by rw[hsem];rfl) (λl hl=>by rw[hsem] at hl;cases hl)
 ·have hsem:seC s (elO A).length (.mk k1 s1 n1 (roA a1) q1)=none:=by
   unfold seC;rw[if_neg (by rw[q];simp)];show(if k1==4&&(s1==s&&(roA a1).length==(elO A).length) then _ else none)=_;rw[q2,Bool.false_and];rfl
  exact hQ a1 _ t1 (by rw[hsem];rfl) (λl hl=>by rw[hsem] at hl;cases hl)
theorem pri{g:Glob}{p1:Nat}{k0 n0 q0:Int}{s0:Str}{a0:Dat}(h1:g.boxes[p1]?=some (.cells [.d (.int .i64 k0),.d (.str s0),.d (.int .i64 n0),.d a0,.d (.int .i64 q0)])):
 Parts g 131 [.ptr (some (p1,0))] (seI n0):=by
 intro a g1 ha hk Q hQ;have h1:=hk.at h1 (by simp);have hw:=w131 (p1:=p1) (g:=g1) (Qf:=Q) ha;refine hw (wil ha _ ⟨_,rfl,?_⟩);obtain⟨k1,s1,n1,a1,q1,rfl,hs1,t1⟩:=ptt ha;have hab:aP (.agg [.int .i64 k1,.str s1,.int .i64 n1,a1,.int .i64 q1])=.mk k1 s1 n1 (roA a1) q1:=by unfold roA;rw[←abP];rfl
 rw[hab] at hQ⊢;simp only[fld,nth,strOf,intOf];have fin:∀b,seI n0 (.mk k1 s1 n1 (roA a1) q1)=(if b then some [] else none)→∀us,RtL us [.nil,.bool b]→Q (.val (.tuple us)) g1:=λb hb=>
  hQ .nil b tyn (by rw[hb];cases b<;>rfl) (λl hl=>by
   rw[hb] at hl;split at hl
   ·cases hl;rfl
   ·cases hl)
 refine Bi.2 ⟨λq=>fin true (if_pos q),λq=>Bi.2 ⟨λq2=>⟨n0,gok uI szI rfl h1 rfl,?_⟩,λq2=>?_⟩⟩
 ·refine fin (n1==n0) ?_;unfold seI;rw[if_neg (by rw[q];simp)];show(if k1==3&&n1==n0 then _ else none)=_;rw[q2,Bool.true_and]
 ·refine fin false ?_;unfold seI;rw[if_neg (by rw[q];simp)];show(if k1==3&&n1==n0 then _ else none)=_;rw[q2,Bool.false_and]
theorem prw(g:Glob):Parts g 135 [] sW:=by
 intro a g1 ha hk Q hQ;refine w135 ha (wil ha _ ⟨_,rfl,?_⟩);refine hQ .nil _ tyn ?_ (λl hl=>?_)
 ·unfold sW;cases wP (aP a)<;>rfl
 ·unfold sW at hl;split at hl
  ·cases hl;rfl
  ·cases hl
theorem fmk{α β:Type}(F:α→Option β)(xs:List α){i:Nat}(hi:i<xs.length):(xs.take (i+1)).filterMap F=(xs.take i).filterMap F++(F xs[i]).toList:=by
 rw[List.take_succ,List.getElem?_eq_getElem hi,List.filterMap_append];cases h:F xs[i]<;>simp[h]
theorem mah{xs:List Dat}(h:0<xs.length):xs.map aP=aP xs[0]::xs.tail.map aP:=by
 cases xs with
 |nil=>exact absurd h (by simp)
 |cons y t=>rfl
theorem spc{f:FuncId}{c:List Dat}{p1:Nat}{X:Dat}{g0:Glob}{sem:Pt→Option (List Pt)}(hX:Ha TT 86 X)(hb:g0.boxes[p1]?=some (.cells [.d X]))(hp:Parts g0 f c sem)
 (hw:∀r∈ros X,0<r.length∧r.length≤2^38) (hs:∀y k,sem y=some k→k.length≤2^38) (Qf:OGP)
 (hQ:∀v Y g',Ha TT 86 Y→Rt v Y→ros Y=(ros X).filterMap (tu sem)→Kp [] 0 g0 g'→Qf (.val v) g'):EvF TT 126 [.clo f c,.ptr (some (p1,0))] g0 Qf:=by
 have eX:=hX.els uo;have eXl:=eX.1.1;have hlen:(ros X).length=(elO X).length:=List.length_map _;refine w126 ⟨X,hX,gok uo szo rfl hb rfl,?_⟩;refine lU (len:=(elO X).length) (λi=>∀(l:List Dat) (g:Glob),l.length≤i→(∀y∈l,Ha TT 24 y)→l.map roA=((ros X).take i).filterMap (tu sem)→Kp [] 0 g0 g→L126_3 f c l X ((elO X).length:Int) (i:Int) g Qf) ?_ ?_ 0 (Nat.zero_le _) [] g0 (Nat.le_refl _) (λy h=>by cases h) rfl (Kp.refl _ _ _)
 ·intro l g h1 h2 h3 h4;refine w126_3 ?_;rw[Bg];rw[←hlen,List.take_length] at h3;refine hQ _ (sOf 1 l) g (slf uo szR (eX.1.le h1) h2) (rO _ _) ?_ h4;unfold ros;rw[slO,h3];rfl
 ·intro i hi ih l g h1 h2 h3 h4;have hi':i<(ros X).length:=by omega
  have hr:(ros X)[i]=roA (elO X)[i]:=List.getElem_map _;have te:=eX.2 _ (List.getElem_mem hi);have hwi:=hw _ (List.getElem_mem hi');rw[hr] at hwi;have hl0:(roA (elO X)[i]).length=(elO (elO X)[i]).length:=List.length_map _;have ee:=te.els uP;have h0:0<(elO (elO X)[i]).length:=by omega
  refine w126_3 ?_;rw[Bl hi,geE hi,flr te,wra (by omega)];have hg0:gtE (elO (elO X)[i]) 0=(elO (elO X)[i])[0]:=geE (i:=0) h0;rw[hg0];refine⟨inB hi,⟨by simp,by omega⟩,hp _ g (ee.2 _ (List.getElem_mem h0)) h4 _ λx b tx hb' hl' us hus=>⟨x,tx,b,hus,?_⟩⟩;have hrow:roA (elO X)[i]=aP (elO (elO X)[i])[0]::(elO (elO X)[i]).tail.map aP:=mah h0;have htl:List.drop 1 (List.take ((elO (elO X)[i]).length:Int).toNat (elO (elO X)[i]))=(elO (elO X)[i]).tail:=by
   rw[Int.toNat_natCast,List.take_length,List.drop_one]
  have hstep:=fmk (tu sem) (ros X) hi';rw[hr,hrow] at hstep;cases hsem:sem (aP (elO (elO X)[i])[0]) with
  |none=>
   rw[hsem] at hb';subst hb';rw[show(none:Option (List Pt)).isSome=false from rfl,Bf];refine ih l g (by omega) h2 ?_ h4;rw[hstep];simp only[tu,hsem,Option.toList_none,List.append_nil];exact h3
  |some k=>
   rw[hsem] at hb';subst hb';rw[show(some k).isSome=true from rfl,Be,htl];have hxk:=hl' k hsem;have hxl:(elO x).length=k.length:=by rw[←hxk];exact(List.length_map _).symm
   have hk:=hs _ _ hsem;have ttl:Ha TT 24 (.sl 5 (elO (elO X)[i]).tail):=tya (ee.1.le (by rw[List.length_tail];omega)) λy hy=>ee.2 y (List.mem_of_mem_tail hy);refine⟨⟨by omega,by omega,by omega⟩,cno tx ttl (by rw[show elO (.sl 5 (elO (elO X)[i]).tail)=(elO (elO X)[i]).tail from rfl,List.length_tail];omega) _ λv Y g' tY hv hY hkp=>⟨Y,tY,hv,((eX.1.le (by simp;omega)).fits byR),?_⟩⟩;refine ih _ g' (by simp;omega) (λy hy=>?_) ?_ (h4.trans hkp)
   ·rcases List.mem_append.1 hy with hy|hy
    ·exact h2 y hy
    ·simp only[List.mem_singleton] at hy;subst hy;exact tY
   ·rw[hstep,List.map_append,h3];simp only[tu,hsem,Option.toList_some,List.map_cons,List.map_nil];congr 2;unfold roA at hxk⊢;rw[hY,List.map_append,hxk];rfl
end Go.Proofs.YtiheejdkkjfenaaGreatDoor.Pa
namespace Go.Proofs.YtiheejdkkjfenaaGreatDoor.Pa
open Go Go.Proofs.YtiheejdkkjfenaaGreatDoor.Am
theorem paf{a:Dat}(h:Ha TT 52 a):intOf (fld a 0)=kPt (aP a)∧strOf (fld a 1)=nae (aP a)∧intOf (fld a 2)=nuP (aP a)∧roA (fld a 3)=ars (aP a)∧(nae (aP a)).length≤2^40∧Ha TT 24 (fld a 3):=by
 obtain⟨k1,s1,n1,a1,p1,rfl,hs1,t1⟩:=ptt h;exact⟨rfl,rfl,rfl,by unfold roA;rw[←abP];rfl,hs1,t1⟩
theorem cof{c:Dat}(h:Ha TT 80 c):strOf (fld c 0)=(aC c).s∧(elO (fld c 1)).length=(aC c).fs.length∧(aC c).s.length≤2^40∧(elO (fld c 1)).length≤2^40:=by
 obtain⟨s1,a1,rfl,hs1,t1⟩:=coy h;refine⟨rfl,?_,hs1,(t1.els uT).1.1⟩;show(elO a1).length=(abT a1).length;rw[ay,List.length_map]
theorem iC{x:Dat}{f:FuncId}{c:List Dat}{g:Glob}{P:Cn→Bool}(hx:Ha TT 81 x)(hc:∀y∈elO x,∀Q:Out→Glob→Prop,Q (.val (.d (.bool (P (aC y))))) g→EvF TT f (y::c) g Q)(Qf:OGP)
 (hQ:Qf (.val (.d (.bool (((elO x).map aC).any P)))) g):EvF TT 133 [x,.clo f c] g Qf:=by
 have ex:=hx.els uC;have exl:=ex.1.1;refine w133 hx (w191 hx ?_);refine lU (len:=(elO x).length) (λi=>((elO x).take i).any (λy=>P (aC y))=false→L191_2 x f c ((elO x).length:Int) (i:Int) g ((KQ Qf λv g'=>∃n,v=Val.d (Dat.int IntKind.i64 n)∧Qf (Out.val (Val.d (Dat.bool (decide (0≤n))))) g'))) ?_ ?_ 0 (Nat.zero_le _) rfl
 ·intro h;refine w191_2 ?_;rw[Bg];rw[List.take_length] at h;rw[List.any_map] at hQ;have h':(elO x).any (P∘aC)=false:=h;rw[h'] at hQ;exact⟨_,rfl,hQ⟩
 ·intro i hi ih h;refine w191_2 ?_;rw[Bl hi,geE hi];refine⟨inB hi,hc _ (List.getElem_mem hi) _ ⟨_,rfl,Bi.2 ⟨λq=>⟨_,rfl,?_⟩,λq=>?_⟩⟩⟩
  ·have:((elO x).map aC).any P=true:=by
    rw[List.any_map,List.any_eq_true];exact⟨_,List.getElem_mem hi,q⟩
   rw[this] at hQ;have e:decide ((0:Int)≤(i:Int))=true:=decide_eq_true (by omega);rw[e];exact hQ
  ·rw[wra (by omega)];refine ih ?_;rw[List.take_succ,List.getElem?_eq_getElem hi,List.any_append,h];simp[q]
def hed:List Pt→Option Str
 |x::_=>if kPt x==4 then some (nae x) else none
 |[]=>none
theorem fio(rows:List (List Pt)):fC rows=(rows.filterMap hed).head?:=by
 induction rows with
 |nil=>rfl
 |cons r rows ih=>
  cases r with
  |nil=>simp only[fC,ih,List.filterMap_cons,hed]
  |cons x r=>
   simp only[fC,List.filterMap_cons,hed]
   by_cases h:(kPt x==4)=true
   ·simp[h]
   ·simp[h,ih]
theorem han(s:Str)(rows:List (List Pt)):haC s rows=(rows.filterMap hed).contains s:=by
 induction rows with
 |nil=>rfl
 |cons r rows ih=>
  unfold haC at ih⊢;rw[List.any_cons,ih,List.filterMap_cons];cases r with
  |nil=>simp[heC,hed]
  |cons x r=>
   simp only[heC,hed]
   by_cases h:(kPt x==4)=true
   ·simp only[h,Bool.true_and,if_true,List.contains_cons];congr 1;rw[Bool.eq_iff_iff];simp only[beq_iff_eq];exact⟨Eq.symm,Eq.symm⟩
   ·simp[h]
def cM(M:List Str):Str→Nat:=adL (λ_=>0) M
theorem cMe(M:List Str)(s:Str):cM M s=M.count s:=by simp[cM,adL]
theorem cMs(M:List Str)(s:Str):adL (cM M) [s]=cM (M++[s]):=by unfold cM;rw[aLa]
theorem gmo{g:Glob}{i:Nat}{M:List Str}(h:MI true g i (cntF (cM M))):∃n:Nat,gml g i=some n∧(n=0↔M=[]):=by
 obtain⟨es,c,h1,h2⟩:=h;refine⟨es.length,by simp only[gml,h1],⟨λh0=>?_,λh0=>?_⟩⟩
 ·have h0:es=[]:=List.eq_nil_of_length_eq_zero h0;subst h0;cases M with
  |nil=>rfl
  |cons s M=>
   exfalso;have hc:cM (s::M) s≠0:=by rw[cMe];simp
   have:cntF (cM (s::M)) (.str s)=some (.int .i64 (cM (s::M) s)):=by simp only[cntF,hc,if_false]
   obtain⟨e,he,_⟩:=(h2.has _ _).1 this;cases he
 ·subst h0;cases es with
  |nil=>rfl
  |cons e es=>
   exfalso;have hk:=h2.key e (by simp);have:=(h2.has e.1 e.2.1).2 ⟨e,by simp,rfl,rfl⟩;cases he:e.1 with
   |str s=>
    rw[he] at this;have hz:cM [] s=0:=by rw[cMe];rfl
    simp only[cntF,hz,if_true] at this;cases this
   |_=>rw[he] at this;cases this
theorem goM{g:Glob}{i j:Nat}(hb:g.boxes[i]?=some (.cells [.d (.map (some j))])):GOk TT 113 g i 0 (.map (some j)):=gok uM siM rfl hb rfl
theorem sze:TT.size 22=some 1:=by kernel_rfl
theorem goD{g:Glob}{i:Nat}{l st:Dat}(hb:g.boxes[i]?=some (.cells [.d l,.d st])):GOk TT 22 g i 0 l:=gok uD sze rfl hb rfl
theorem deo{l:Dat}{s:Str}(hl:Ha TT 22 l)(hf:(fD s ((elO l).map abD) 0).2.2=true):
 ∃n:Int,(fD s ((elO l).map abD) 0).1=n∧InB n (elO l).length∧Ha TT 81 (fld (gtE (elO l) n) 2)∧(elO (fld (gtE (elO l) n) 2)).map aC=cO ((elO l).map abD) s:=by
 rcases fid s ((elO l).map abD) 0 with ⟨k,j,d,c,h1,h2,h3,_⟩|⟨h1,_⟩
 ·have hk:k<(elO l).length:=by have:=(List.getElem?_eq_some_iff.1 h2).1;simpa using this
  have el:=hl.els uD;have td:=el.2 _ (List.getElem_mem hk);have hd:abD (elO l)[k]=d:=by
   rw[List.getElem?_map,List.getElem?_eq_getElem hk] at h2;exact Option.some.inj h2
  refine⟨(k:Int),by rw[h1];simp,inB hk,?_,?_⟩
  ·rw[geE hk];obtain⟨s2,a2,b2,p2,e2,_,ha2,hb2⟩:=det td;rw[e2];exact hb2
  ·rw[geE hk];unfold cO;rw[h1];simp only[Int.zero_add,Int.toNat_natCast,h2];rw[←hd,asD]
 ·rw[h1] at hf;cases hf
theorem alk{p0:Nat}{l X st:Dat}{g0:Glob}(hl:Ha TT 22 l)(hX:Ha TT 86 X)(hb:g0.boxes[p0]?=some (.cells [.d l,.d st]))(hw:∀r∈ros X,0<r.length)
 (hok:∀r∈ros X,∀x∈r,okP ((elO l).map abD) x=true) (Qf:OGP)
 (hQ:∀x g',Ha TT 81 x→Kp [] 0 g0 g'→∀b,(b=true→whl ((elO l).map abD) (ros X)=some ((elO x).map aC))→(b=false→whl ((elO l).map abD) (ros X)=none)→∀us,RtL us [x,.bool b]→Qf (.val (.tuple us)) g'):
 EvF TT 132 [.ptr (some (p0,0)),X] g0 Qf:=by
 have eX:=hX.els uo;have eXl:=eX.1.1;have hlen:(ros X).length=(elO X).length:=List.length_map _;have hp0:=(List.getElem?_eq_some_iff.1 hb).1;refine w132 hX ?_;obtain⟨k1,k2⟩:=gpu (g:=gne (gmn g0) [Dat.map none]) (x:=.map (some g0.boxes.length)) (gnw (gmn g0) [Dat.map none]) rfl;refine⟨k1,?_⟩;rw[k2]
 -- the memory of the loop
 have hml:(gmn g0).boxes.length=g0.boxes.length+1:=gme g0;refine lU (len:=(elO X).length) (λi=>∀(x6:Dat) (g:Glob),Kp [] 0 g0 g→g.boxes[g0.boxes.length+1]?=some (.cells [.d (.map (some g0.boxes.length))])→MI true g g0.boxes.length (cntF (cM (((ros X).take i).filterMap hed)))→Ha TT 81 x6→
  (∀s,(((ros X).take i).filterMap hed).head?=some s→(elO x6).map aC=cO ((elO l).map abD) s)→L132_4 p0 x6 (gmn g0).boxes.length X ((elO X).length:Int) (i:Int) g Qf) ?_ ?_ 0 (Nat.zero_le _) .nil _ ?_ ?_ ?_ (.nil _ (by rw[uC];rfl)) (λs h=>by cases h)
 ·intro x6 g h1 h2 h3 h4 h5;refine w132_4 ?_;rw[Bg,hml];rw[←hlen,List.take_length] at h3 h5;obtain⟨n,e1,e2⟩:=gmo h3;refine⟨_,goM h2,n,e1,?_⟩;have hwf:whl ((elO l).map abD) (ros X)=match ((ros X).filterMap hed).head? with
   |none=>none
   |some s=>if (cO ((elO l).map abD) s).all (λc=>haC c.s (ros X)) then some (cO ((elO l).map abD) s) else none:=by rw[←fio];rfl
  generalize hM:(ros X).filterMap hed=M at hwf h3 h5 e2;cases M with
  |nil=>
   have:n=0:=e2.2 rfl;subst this;rw[show decide ((0:Int)<((0:Nat):Int))=false from rfl,Bf];exact hQ x6 g h4 h1 false (λh=>by cases h) (λ_=>by rw[hwf];rfl)
  |cons s M=>
   have hn:n≠0:=λh=>by have:=e2.1 h;cases this
   have hd:decide ((0:Int)<(n:Int))=true:=decide_eq_true (by omega);rw[hd,Be];have hcs:=h5 s rfl;rw[show(s::M).head?=some s from rfl] at hwf;simp only at hwf;refine iC (P:=λc=>!(s::M).contains c.s) h4 (λy hy Q hq=>?_) _ ⟨_,rfl,?_⟩
   ·have ty:=(h4.els uC).2 _ hy;obtain⟨f1,_,f3,_⟩:=cof ty;refine w190 ty ⟨_,goM h2,?_⟩;rw[f1];have hlk:=h3.mlo (z:=.int .i64 0) (sK (aC y).s);rw[cnF] at hlk;refine⟨_,_,hlk,?_⟩;have hz:(((cM (s::M) (aC y).s:Nat):Int)==0)=!(s::M).contains (aC y).s:=by rw[cMe];exact cBz (s::M) _
    rw[hz];exact hq
   ·have hbb:(!((elO x6).map aC).any (λc=>!(s::M).contains c.s))=(cO ((elO l).map abD) s).all (λc=>haC c.s (ros X)):=by
     rw[hcs,List.not_any_eq_all_not];refine congrArg _ (funext λc=>?_);rw[Bool.not_not,han,hM]
    rw[hbb];refine hQ x6 g h4 h1 _ (λh=>?_) (λh=>?_)
    ·rw[hwf,h,hcs];rfl
    ·rw[hwf,h];rfl
 ·intro i hi ih x6 g h1 h2 h3 h4 h5;have hi':i<(ros X).length:=by omega
  have hr:(ros X)[i]=roA (elO X)[i]:=List.getElem_map _;have te:=eX.2 _ (List.getElem_mem hi);have hwi:=hw _ (List.getElem_mem hi');have hoi:=hok _ (List.getElem_mem hi');rw[hr] at hwi hoi;have hl0:(roA (elO X)[i]).length=(elO (elO X)[i]).length:=List.length_map _;have ee:=te.els uP;have h0:0<(elO (elO X)[i]).length:=by omega
  have hrow:roA (elO X)[i]=aP (elO (elO X)[i])[0]::(elO (elO X)[i]).tail.map aP:=mah h0;have ta:=ee.2 _ (List.getElem_mem h0);obtain⟨q1,q2,_,_,q5,_⟩:=paf ta;have hg0:gtE (elO (elO X)[i]) 0=(elO (elO X)[i])[0]:=geE (i:=0) h0;have hin:InB 0 (elO (elO X)[i]).length:=⟨by simp,by omega⟩
  have hstep:=fmk hed (ros X) hi';rw[hr,hrow] at hstep;refine w132_4 ?_;rw[Bl hi,geE hi,flr te,wra (by omega),hg0,q1,q2,hml];refine⟨inB hi,hin,?_⟩;rw[←hml];refine Bi.2 ⟨λq=>?_,λq=>?_⟩
  ·have hk:(kPt (aP (elO (elO X)[i])[0])==4)=false:=by simpa[bne] using q
   refine ih x6 g h1 h2 ?_ h4 ?_
   ·rw[hstep];simp only[hed,hk,Bool.false_eq_true,if_false,Option.toList_none,List.append_nil];exact h3
   ·rw[hstep];simp only[hed,hk,Bool.false_eq_true,if_false,Option.toList_none,List.append_nil];exact h5
  ·have hk:(kPt (aP (elO (elO X)[i])[0])==4)=true:=by simpa[bne] using q
   have hst:((ros X).take (i+1)).filterMap hed=((ros X).take i).filterMap hed++[nae (aP (elO (elO X)[i])[0])]:=by
    rw[hstep];simp only[hed,hk,if_true,Option.toList_some]
   have hfd:=(okc (hoi _ (by rw[hrow];simp)) hk).1;generalize hM:((ros X).take i).filterMap hed=M at h3 h5 hst;have hMl:M.length≤i:=by rw[←hM];exact Nat.le_trans (List.length_filterMap_le _ _) (by rw[List.length_take];omega)
   obtain⟨n,e1,e2⟩:=gmo h3;have hcnt:cM M (nae (aP (elO (elO X)[i])[0]))≤2^60:=by
    rw[cMe];exact Nat.le_trans List.count_le_length (by omega)
   obtain⟨m1,g',m2,m3,m4⟩:=mai h3 (nae (aP (elO (elO X)[i])[0])) hcnt;rw[cMs,←hst] at m4;have hkp:Kp [] 0 g0 g':=⟨by rw[m3.len];exact h1.len,λj hj hx=>by rw[m3.get (by omega)];exact h1.box j hj hx,by rw[m3.toks];exact h1.tlen,λj hj=>by omega⟩
   have h2':g'.boxes[g0.boxes.length+1]?=some (.cells [.d (.map (some g0.boxes.length))]):=by rw[m3.get (by omega)];exact h2
   rw[hml];refine⟨_,goM h2,n,e1,?_⟩;rw[←hml];refine Bi.2 ⟨λq=>?_,λq=>?_⟩
   ·have hn:n=0:=by simpa using q
    have hM0:=e2.1 hn;have hbg:=h1.at hb (by simp);refine⟨l,hl,goD hbg,hin,find_ok l _ g hl q5 _ ⟨_,_,_,⟨rfl,rfl,rfl,trivial⟩,l,hl,goD hbg,?_⟩⟩;obtain⟨n1,d1,d2,d3,d4⟩:=deo hl hfd;rw[d1,hml];refine⟨d2,_,goM h2,hin,_,_,m1,g',m2,?_⟩;rw[←hml];refine ih _ g' hkp h2' m4 d3 λs hs=>?_;rw[hst,hM0] at hs;cases hs;exact d4
   ·have hn:M≠[]:=λh=>by have:=e2.2 h;subst this;simp at q
    rw[hml];refine⟨_,goM h2,hin,_,_,m1,g',m2,?_⟩;rw[←hml];refine ih x6 g' hkp h2' m4 h4 λs hs=>?_;rw[hst] at hs;cases hMM:M with
    |nil=>exact absurd hMM hn
    |cons a M'=>rw[hMM] at hs h5;exact h5 s hs
 ·refine⟨by simp[gne,gmn],λj hj _=>?_,Nat.le_refl _,λj hj=>by omega⟩;rw[hml];show((gne (gmn g0) [Dat.map none]).boxes.set (g0.boxes.length+1) _)[j]?=_;rw[List.getElem?_set_ne (by omega),gno _ (by rw[hml];omega),gmw hj]
 ·rw[hml];show((gne (gmn g0) [Dat.map none]).boxes.set (g0.boxes.length+1) _)[g0.boxes.length+1]?=_;rw[List.getElem?_set_self (by rw[gnl,hml];omega)]
 ·have e:cntF (cM (((ros X).take 0).filterMap hed))=λ_=>none:=by
   funext k
   cases k<;>first|rfl|(simp only[cntF,cMe];rfl)
  rw[e];refine MI.other (j:=0) (mas true g0) ?_;show((gne (gmn g0) [Dat.map none]).boxes.set (gmn g0).boxes.length _)[g0.boxes.length]?=_;rw[List.getElem?_set_ne (by omega),gno _ (by rw[hml];omega)]
end Go.Proofs.YtiheejdkkjfenaaGreatDoor.Pa
