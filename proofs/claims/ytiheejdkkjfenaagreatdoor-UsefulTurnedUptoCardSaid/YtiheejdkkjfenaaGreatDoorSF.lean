/- Useful: the asking, plainly: with so many steps left. What functions of the program do, printed by wip/tools/sx/sx.py. Useful: rows in memory; slices.Concat; how rows are turned. Useful: whether all constructors of a type stand first in rows. -/
import Derived.Test.YtiheejdkkjfenaaGreatDoorSE
import Derived.Test.YtiheejdkkjfenaaGreatDoorSC
import Derived.Test.YtiheejdkkjfenaaGreatDoorSB
set_option linter.all false
set_option autoImplicit false
set_option maxRecDepth 100000
namespace Go.Proofs.YtiheejdkkjfenaaGreatDoor.Pa
open Go Go.Proofs.YtiheejdkkjfenaaGreatDoor.Am
def kPt:Pt→Int
 |.mk k _ _ _ _=>k
def wildP(x:Pt):Bool:=kPt x==1||kPt x==2
def anyP:Pt:=.mk 1 [] 0 [] 0
def argsP:Pt→List Pt
 |.mk _ _ _ a _=>a
def nameP:Pt→Str
 |.mk _ s _ _ _=>s
def numP:Pt→Int
 |.mk _ _ n _ _=>n
def semCon(s:Str)(n:Nat)(x:Pt):Option (List Pt):=if wildP x then some (List.replicate n anyP) else if kPt x==4&&(nameP x==s&&(argsP x).length==n) then some (argsP x) else none
def semInt(m:Int)(x:Pt):Option (List Pt):=if wildP x then some [] else if kPt x==3&&numP x==m then some [] else none
def semWild(x:Pt):Option (List Pt):=if wildP x then some [] else none
def turnR(sem:Pt→Option (List Pt)):List Pt→Option (List Pt)
 |[]=>none
 |x::r=>match sem x with
  |some l=>some (l++r)
  |none=>none
def firstCon:List (List Pt)→Option Str
 |[]=>none
 |(x::_)::l=>if kPt x==4 then some (nameP x) else firstCon l
 |[]::l=>firstCon l
def headCon(s:Str):List Pt→Bool
 |x::_=>kPt x==4&&nameP x==s
 |[]=>false
def hasCon(s:Str)(rows:List (List Pt)):Bool:=rows.any (headCon s)
def consOf(D:List Dc)(s:Str):List Cn:=match D[(findDc s D 0).1.toNat]? with
 |some d=>d.cs
 |none=>[]
def wholeF(D:List Dc)(rows:List (List Pt)):Option (List Cn):=
 match firstCon rows with
 |none=>none
 |some s=>if (consOf D s).all (λc=>hasCon c.s rows) then some (consOf D s) else none
def anyU(go:Nat→Cn→Option (Bool×Nat)):List Cn→Nat→Option (Bool×Nat)
 |[],m=>some (false,m)
 |c::l,m=>match go m c with
  |none=>none
  |some (true,m')=>some (true,m')
  |some (false,m')=>anyU go l m'
def useU(D:List Dc):Nat→Nat→List (List Pt)→List Pt→Option (Bool×Nat)
 |0,_,_,_=>none
 |_+1,0,_,_=>none
 |_+1,m+1,rows,[]=>some (rows.isEmpty,m)
 |f+1,m+1,rows,x::r=>
  if kPt x==4 then useU D f m (rows.filterMap (turnR (semCon (nameP x) (argsP x).length))) (argsP x++r)
  else if kPt x==3 then useU D f m (rows.filterMap (turnR (semInt (numP x)))) r
  else match wholeF D rows with
   |none=>useU D f m (rows.filterMap (turnR semWild)) r
   |some cs=>anyU (λm c=>useU D f m (rows.filterMap (turnR (semCon c.s c.fs.length))) (List.replicate c.fs.length anyP++r)) cs m
theorem anyU_le{go:Nat→Cn→Option (Bool×Nat)}(h:∀m c b m',go m c=some (b,m')→m'≤m):∀(l:List Cn) (m:Nat) (b:Bool) (m':Nat),anyU go l m=some (b,m')→m'≤m
 |[],m,b,m',e=>by cases e;exact Nat.le_refl _
 |c::l,m,b,m',e=>by
  unfold anyU at e
  split at e
  ·cases e
  ·rename_i m1 h1;cases e;exact h _ _ _ _ h1
  ·rename_i m1 h1;exact Nat.le_trans (anyU_le h l _ _ _ e) (h _ _ _ _ h1)
theorem useU_le(D:List Dc):∀(f m:Nat) (rows:List (List Pt)) (row:List Pt) (b:Bool) (m':Nat),useU D f m rows row=some (b,m')→m'≤m
 |0,m,rows,row,b,m',e=>by cases e
 |f+1,0,rows,row,b,m',e=>by cases e
 |f+1,m+1,rows,[],b,m',e=>by cases e;omega
 |f+1,m+1,rows,x::r,b,m',e=>by
  unfold useU at e
  split at e
  ·have:=useU_le D f _ _ _ _ _ e;omega
  ·split at e
   ·have:=useU_le D f _ _ _ _ _ e;omega
   ·split at e
    ·have:=useU_le D f _ _ _ _ _ e;omega
    ·have:=anyU_le (λm c b m' h=>useU_le D f _ _ _ _ _ h) _ _ _ _ e;omega
def nFields(D:List Dc)(s:Str):Nat:=match (consOf D s)[(findDc s D 0).2.1.toNat]? with
 |some c=>c.fs.length
 |none=>0
mutual
def okP(D:List Dc):Pt→Bool
 |.mk k s _ a _=>(decide (1≤k)&&decide (k≤4))&&((!(k==4)||((findDc s D 0).2.2&&nFields D s==a.length))&&okPs D a)
def okPs(D:List Dc):List Pt→Bool
 |[]=>true
 |x::l=>okP D x&&okPs D l
end
theorem okPs_all(D:List Dc)(l:List Pt):okPs D l=l.all (okP D):=by induction l with
 |nil=>rfl
 |cons x l ih=>rw[okPs,List.all_cons,ih]
theorem okP_args{D:List Dc}{x:Pt}(h:okP D x=true):∀y∈argsP x,okP D y=true:=by
 cases x with
 |mk k s n a p=>
 simp only[okP,Bool.and_eq_true,okPs_all] at h
 exact List.all_eq_true.1 h.2.2
theorem okP_con{D:List Dc}{x:Pt}(h:okP D x=true)(hk:(kPt x==4)=true):(findDc (nameP x) D 0).2.2=true∧nFields D (nameP x)=(argsP x).length:=by
 cases x with
 |mk k s n a p=>
 have hk:(k==4)=true:=hk
 simp only[okP,hk,Bool.not_true,Bool.false_or,Bool.and_eq_true,beq_iff_eq] at h
 exact h.2.1
def FewF(D:List Dc)(N:Nat):Prop:=∀d∈D,∀c∈d.cs,c.fs.length≤N
theorem consOf_mem{D:List Dc}{s:Str}{c:Cn}(h:c∈consOf D s):∃d∈D,c∈d.cs:=by
 unfold consOf at h
 split at h
 ·rename_i d hd;exact⟨d,List.mem_of_getElem? hd,h⟩
 ·cases h
theorem nFields_le{D:List Dc}{N:Nat}(hN:FewF D N)(s:Str):nFields D s≤N:=by
 unfold nFields
 split
 ·rename_i c hc
  obtain⟨d,h1,h2⟩:=consOf_mem (List.mem_of_getElem? hc)
  exact hN d h1 c h2
 ·exact Nat.zero_le _
structure InvU(D:List Dc)(B:Nat)(rows:List (List Pt))(row:List Pt):Prop where
 len:∀r∈rows,r.length=row.length
 le:row.length≤B
 row:∀x∈row,okP D x=true
 rows:∀r∈rows,∀x∈r,okP D x=true
theorem InvU.step{D:List Dc}{B n N:Nat}{rows:List (List Pt)}{x:Pt}{r l:List Pt}{sem:Pt→Option (List Pt)}(h:InvU D B rows (x::r))(hl:l.length=n)(hn:n≤N)(hok:∀y∈l,okP D y=true)
 (hs:∀y k,sem y=some k→k.length=n∧(okP D y=true→∀z∈k,okP D z=true)):InvU D (B+N) (rows.filterMap (turnR sem)) (l++r):=by
 have key:∀q∈rows.filterMap (turnR sem),∃y k t,(y::t)∈rows∧sem y=some k∧q=k++t:=λq hq=>by
  obtain⟨q0,h1,h2⟩:=List.mem_filterMap.1 hq
  cases q0 with
  |nil=>cases h2
  |cons y t=>
   simp only[turnR] at h2
   cases hk:sem y with
   |none=>rw[hk] at h2;cases h2
   |some k=>rw[hk] at h2;cases h2;exact⟨y,k,t,h1,hk,rfl⟩
 refine⟨λq hq=>?_,?_,λy hy=>?_,λq hq y hy=>?_⟩
 ·obtain⟨y,k,t,h1,h2,rfl⟩:=key q hq
  have:=h.len _ h1
  simp only[List.length_cons] at this
  rw[List.length_append,List.length_append,(hs _ _ h2).1,hl]
  omega
 ·have:=h.le
  simp only[List.length_cons] at this
  rw[List.length_append,hl]
  omega
 ·rcases List.mem_append.1 hy with hy|hy
  ·exact hok y hy
  ·exact h.row y (by simp[hy])
 ·obtain⟨z,k,t,h1,h2,rfl⟩:=key q hq
  rcases List.mem_append.1 hy with hy|hy
  ·exact(hs _ _ h2).2 (h.rows _ h1 z (by simp)) y hy
  ·exact h.rows _ h1 y (by simp[hy])
theorem semCon_ok{D:List Dc}{s:Str}{n:Nat}(y:Pt)(k:List Pt)(h:semCon s n y=some k):k.length=n∧(okP D y=true→∀z∈k,okP D z=true):=by
 unfold semCon at h
 split at h
 ·cases h;exact⟨List.length_replicate,λ_ z hz=>by rw[(List.mem_replicate.1 hz).2];rfl⟩
 ·split at h
  ·rename_i hc
   cases h
   simp only[Bool.and_eq_true,beq_iff_eq] at hc
   exact⟨hc.2.2,λho z hz=>okP_args ho z hz⟩
  ·cases h
theorem semInt_ok{D:List Dc}{m:Int}(y:Pt)(k:List Pt)(h:semInt m y=some k):k.length=0∧(okP D y=true→∀z∈k,okP D z=true):=by
 unfold semInt at h
 split at h
 ·cases h;exact⟨rfl,λ_ z hz=>by cases hz⟩
 ·split at h
  ·cases h;exact⟨rfl,λ_ z hz=>by cases hz⟩
  ·cases h
theorem semWild_ok{D:List Dc}(y:Pt)(k:List Pt)(h:semWild y=some k):k.length=0∧(okP D y=true→∀z∈k,okP D z=true):=by
 unfold semWild at h
 split at h
 ·cases h;exact⟨rfl,λ_ z hz=>by cases hz⟩
 ·cases h
theorem InvU.con{D:List Dc}{B N:Nat}{rows:List (List Pt)}{x:Pt}{r:List Pt}(h:InvU D B rows (x::r))(hN:FewF D N)(hk:(kPt x==4)=true):InvU D (B+N) (rows.filterMap (turnR (semCon (nameP x) (argsP x).length))) (argsP x++r):=by
 have hx:=h.row x (by simp)
 refine h.step rfl ?_ (okP_args hx) semCon_ok
 rw[←(okP_con hx hk).2]
 exact nFields_le hN _
theorem InvU.cons{D:List Dc}{B N:Nat}{rows:List (List Pt)}{x:Pt}{r:List Pt}(h:InvU D B rows (x::r))(hN:FewF D N){c:Cn}{s:Str}(hc:c∈consOf D s):InvU D (B+N) (rows.filterMap (turnR (semCon c.s c.fs.length))) (List.replicate c.fs.length anyP++r):=by
 refine h.step List.length_replicate ?_ (λy hy=>by rw[(List.mem_replicate.1 hy).2];rfl) semCon_ok
 obtain⟨d,h1,h2⟩:=consOf_mem hc
 exact hN d h1 c h2
theorem InvU.int{D:List Dc}{B N:Nat}{rows:List (List Pt)}{x:Pt}{r:List Pt}{m:Int}(h:InvU D B rows (x::r)):InvU D (B+N) (rows.filterMap (turnR (semInt m))) r:=
 h.step (l:=[]) (n:=0) rfl (Nat.zero_le _) (λy hy=>by cases hy) semInt_ok
theorem InvU.wild{D:List Dc}{B N:Nat}{rows:List (List Pt)}{x:Pt}{r:List Pt}(h:InvU D B rows (x::r)):InvU D (B+N) (rows.filterMap (turnR semWild)) r:=
 h.step (l:=[]) (n:=0) rfl (Nat.zero_le _) (λy hy=>by cases hy) semWild_ok
end Go.Proofs.YtiheejdkkjfenaaGreatDoor.Pa
namespace Go.Proofs.YtiheejdkkjfenaaGreatDoor.Pa
open Go Go.Proofs.YtiheejdkkjfenaaGreatDoor.Am
def L126_3(f0:FuncId)(c0:List Dat)(l4:List Dat)(x9:Dat)(n10:Int)(n11:Int)(g:Glob)(Qf:OGP):Prop:=CutP TT Tryz.f126 [1,1,0,1,0] Qf (mkC TT 126 Tryz.f126 2 [(0,.v 179 (.clo f0 c0)),(4,.acc [(31,0)] 86 1 l4),(9,.v 86 (x9)),(10,.v 3 (.int .i64 n10)),(11,.v 3 (.int .i64 n11))] [] g)
def lo126:List CutI:=[⟨3,[(0,.keep),(4,.acc [31]),(9,.keep),(10,.keep),(11,.keep)],[]⟩]
theorem w126{f0:FuncId}{c0:List Dat}{p1:Nat}{g:Glob}{Qf:OGP}
 (h:∃x,HasTy TT 86 x∧GOk TT 86 g p1 0 x∧L126_3 f0 c0 [] x (↑(elsOf x).length:Int) 0 g Qf):
 EvF TT 126 [.clo f0 c0,.ptr (some (p1,0))] g Qf:=
 sx_fun (rk:=rk) (fn:=Tryz.f126) (loops:=lo126) (joins:=[]) (n:=100000) (args:=[(179,.clo f0 c0),(0,.ptr (some (p1,0)))]) rfl rfl rfl rfl ⟨tyClo rfl,tyPtr0 rfl,trivial⟩ (by kernel_rfl) h
theorem w126_3{f0:FuncId}{c0:List Dat}{l4:List Dat}{x9:Dat}{n10:Int}{n11:Int}{g:Glob}{Qf:OGP}
 (h:Br (decide (n11<n10)) (InB n11 (elsOf x9).length∧InB 0 (elsOf (fld (getE (elsOf x9) n11) 0)).length∧EvF TT f0 (getE (elsOf (fld (getE (elsOf x9) n11) 0)) 0::c0) g (KQ Qf λv g'=>∃x,HasTy TT 24 x∧∃b,RetT v [x,.bool b]∧Br b (InS 1 (↑(elsOf (fld (getE (elsOf x9) n11) 0)).length:Int) (elsOf (fld (getE (elsOf x9) n11) 0)).length∧EvF TT 127 [.sl 1 [x,.sl 5 (List.drop 1 (List.take (↑(elsOf (fld (getE (elsOf x9) n11) 0)).length:Int).toNat (elsOf (fld (getE (elsOf x9) n11) 0))))]] g' (KQ Qf λv g'=>∃x,HasTy TT 24 x∧RetV v x∧Fits (l4.length+[x].length) 24∧L126_3 f0 c0 (l4++[x]) x9 n10 (IntKind.i64.wrap (n11+1)) g' Qf)) (L126_3 f0 c0 l4 x9 n10 (IntKind.i64.wrap (n11+1)) g' Qf))) (Qf (.val (retOf 1 l4)) g)):
 L126_3 f0 c0 l4 x9 n10 n11 g Qf:=sx_cut (rk:=rk) (loops:=lo126) (joins:=[]) (n:=100000) (by kernel_rfl) h
def L127_3(x0:Dat)(n3:Int)(x9:Dat)(n10:Int)(n11:Int)(g:Glob)(Qf:OGP):Prop:=CutP TT Tryz.f127 [1,1,0,1,0] Qf (mkC TT 127 Tryz.f127 1 [(0,.v 86 (x0)),(3,.v 3 (.int .i64 n3)),(9,.v 86 (x9)),(10,.v 3 (.int .i64 n10)),(11,.v 3 (.int .i64 n11))] [] g)
def L127_11(x6:Dat)(x25:Dat)(n26:Int)(n27:Int)(g:Glob)(Qf:OGP):Prop:=CutP TT Tryz.f127 [1,1,1,1,0,1,0] Qf (mkC TT 127 Tryz.f127 1 [(6,.v 24 (x6)),(25,.v 86 (x25)),(26,.v 3 (.int .i64 n26)),(27,.v 3 (.int .i64 n27))] [] g)
def lo127:List CutI:=[⟨3,[(0,.keep),(3,.keep),(9,.keep),(10,.keep),(11,.keep)],[]⟩,⟨11,[(6,.keep),(25,.keep),(26,.keep),(27,.keep)],[]⟩]
theorem w127{x0:Dat}{g:Glob}{Qf:OGP}(h0:HasTy TT 86 x0)
 (h:L127_3 x0 0 x0 (↑(elsOf x0).length:Int) 0 g Qf):
 EvF TT 127 [x0] g Qf:=
 sx_fun (rk:=rk) (fn:=Tryz.f127) (loops:=lo127) (joins:=[]) (n:=100000) (args:=[(86,x0)]) rfl rfl rfl rfl ⟨h0,trivial⟩ (by kernel_rfl) h
theorem w127_3{x0:Dat}{n3:Int}{x9:Dat}{n10:Int}{n11:Int}{g:Glob}{Qf:OGP}
 (h:Br (decide (n11<n10)) (InB n11 (elsOf x9).length∧Br (decide (IntKind.i64.wrap (n3+(↑(elsOf (fld (getE (elsOf x9) n11) 0)).length:Int))<0)) (Qf (.panic (.iface 9 (.str [108,101,110,32,111,117,116,32,111,102,32,114,97,110,103,101]))) g) (L127_3 x0 (IntKind.i64.wrap (n3+(↑(elsOf (fld (getE (elsOf x9) n11) 0)).length:Int))) x9 n10 (IntKind.i64.wrap (n11+1)) g Qf)) (EvF TT 189 [.nil,.int .i64 n3] g (KQ Qf λv g'=>∃x,HasTy TT 24 x∧RetV v x∧L127_11 x x0 (↑(elsOf x0).length:Int) 0 g' Qf))):
 L127_3 x0 n3 x9 n10 n11 g Qf:=sx_cut (rk:=rk) (loops:=lo127) (joins:=[]) (n:=100000) (by kernel_rfl) h
theorem w127_11{x6:Dat}{x25:Dat}{n26:Int}{n27:Int}{g:Glob}{Qf:OGP}
 (h:Br (decide (n27<n26)) (InB n27 (elsOf x25).length∧Fits ((elsOf x6).length+(elsOf (fld (getE (elsOf x25) n27) 0)).length) 64∧∃r g',gapp 5 x6 (elsOf (fld (getE (elsOf x25) n27) 0)) g=some (r,g')∧L127_11 r x25 n26 (IntKind.i64.wrap (n27+1)) g' Qf) (∀(v:Val),RetV v x6→Qf (.val v) g)):
 L127_11 x6 x25 n26 n27 g Qf:=sx_cut (rk:=rk) (loops:=lo127) (joins:=[]) (n:=100000) (by kernel_rfl) h
def lo128:List CutI:=[]
theorem w128{s0:List UInt8}{x1:Dat}{p2:Nat}{p3:Nat}{p4:Nat}{g:Glob}{Qf:OGP}(h0:s0.length≤2^40)(h1:HasTy TT 24 x1)
 (h:∃i o,GOk TT 131 (gnew (gnew g [.str s0]) [x1]) p2 0 (.ptr (some (i,o)))∧∃f c,GOk TT 182 (gnew (gnew g [.str s0]) [x1]) p3 0 (.clo f c)∧EvF TT f (.clo 129 [.ptr (some ((gnew g [.str s0]).boxes.length,0)),.ptr (some (g.boxes.length,0))]::c) (gnew (gnew g [.str s0]) [x1]) λout g'=>Outc (λx=>GSame TT 131 p2 0 (gnew (gnew g [.str s0]) [x1]) (gnew (gnew g [.str s0]) [x1])∧∃x_1,HasTy TT 24 x_1∧GOk TT 24 (gnew (gnew g [.str s0]) [x1]) (gnew g [.str s0]).boxes.length 0 x_1∧GSame TT 24 (gnew g [.str s0]).boxes.length 0 (gnew (gnew g [.str s0]) [x1]) (gnew (gnew g [.str s0]) [x1])∧∃x_2,HasTy TT 24 x_2∧GOk TT 24 (gnew (gnew g [.str s0]) [x1]) p4 0 x_2∧GSame TT 24 p4 0 (gnew (gnew g [.str s0]) [x1]) (gnew (gnew g [.str s0]) [x1])∧InS 1 (↑(elsOf x_2).length:Int) (elsOf x_2).length∧Qf (.panic x) g') (λv=>∃x,HasTy TT 86 x∧RetV v x∧GSame TT 131 p2 0 (gnew (gnew g [.str s0]) [x1]) g'∧∃x_1,HasTy TT 24 x_1∧GOk TT 24 g' (gnew g [.str s0]).boxes.length 0 x_1∧GSame TT 24 (gnew g [.str s0]).boxes.length 0 (gnew (gnew g [.str s0]) [x1]) g'∧∃x_2,HasTy TT 24 x_2∧GOk TT 24 g' p4 0 x_2∧GSame TT 24 p4 0 (gnew (gnew g [.str s0]) [x1]) g'∧InS 1 (↑(elsOf x_2).length:Int) (elsOf x_2).length∧EvF TT 127 [.sl 1 [x_1,.sl 5 (List.drop 1 (List.take (↑(elsOf x_2).length:Int).toNat (elsOf x_2)))]] g' λout g'_1=>Outc (λx=>GSame TT 131 p2 0 g' g'∧Qf (.panic x) g'_1) (λv=>∃x_3,HasTy TT 24 x_3∧RetV v x_3∧GSame TT 131 p2 0 g' g'_1∧EvF TT 81 [.ptr (some (i,o)),x,x_3] g'_1 (KQ Qf λv g'=>∃b,v=.d (.bool b)∧Qf (.val (.d (.bool b))) g')) out) out):
 EvF TT 128 [.str s0,x1,.ptr (some (p2,0)),.ptr (some (p3,0)),.ptr (some (p4,0))] g Qf:=
 sx_fun (rk:=rk) (fn:=Tryz.f128) (loops:=lo128) (joins:=[]) (n:=100000) (args:=[(9,.str s0),(24,x1),(0,.ptr (some (p2,0))),(0,.ptr (some (p3,0))),(0,.ptr (some (p4,0)))]) rfl rfl rfl rfl ⟨tyStr rfl h0,h1,tyPtr0 rfl,tyPtr0 rfl,tyPtr0 rfl,trivial⟩ (by kernel_rfl) h
def lo129:List CutI:=[]
theorem w129{x0:Dat}{p1:Nat}{p2:Nat}{g:Glob}{Qf:OGP}(h0:HasTy TT 52 x0)
 (h:EvF TT 130 [x0] g (KQ Qf λv g'=>∃b,v=.d (.bool b)∧Br b (∃x,HasTy TT 24 x∧GOk TT 24 g' p1 0 x∧EvF TT 44 [.int .i64 (↑(elsOf x).length:Int)] g' (KQ Qf λv g'=>∃x,HasTy TT 24 x∧RetV v x∧∀(us:List Val),RetL us [x,.bool true]→Qf (.val (.tuple us)) g')) (Br (intOf (fld x0 0)==4) (∃s,s.length.le 1099511627776∧GOk TT 9 g' p2 0 (.str s)∧Br (strOf (fld x0 1)==s) (∃x,HasTy TT 24 x∧GOk TT 24 g' p1 0 x∧∀(us:List Val),RetL us [fld x0 3,.bool ((↑(elsOf (fld x0 3)).length:Int)==(↑(elsOf x).length:Int))]→Qf (.val (.tuple us)) g') (∀(us:List Val),RetL us [fld x0 3,.bool false]→Qf (.val (.tuple us)) g')) (∀(us:List Val),RetL us [fld x0 3,.bool false]→Qf (.val (.tuple us)) g')))):
 EvF TT 129 [x0,.ptr (some (p1,0)),.ptr (some (p2,0))] g Qf:=
 sx_fun (rk:=rk) (fn:=Tryz.f129) (loops:=lo129) (joins:=[]) (n:=100000) (args:=[(52,x0),(0,.ptr (some (p1,0))),(0,.ptr (some (p2,0)))]) rfl rfl rfl rfl ⟨h0,tyPtr0 rfl,tyPtr0 rfl,trivial⟩ (by kernel_rfl) h
def lo130:List CutI:=[]
theorem w130{x0:Dat}{g:Glob}{Qf:OGP}(h0:HasTy TT 52 x0)
 (h:Br (intOf (fld x0 0)==1) (Qf (.val (.d (.bool true))) g) (Qf (.val (.d (.bool (intOf (fld x0 0)==2)))) g)):
 EvF TT 130 [x0] g Qf:=
 sx_fun (rk:=rk) (fn:=Tryz.f130) (loops:=lo130) (joins:=[]) (n:=100000) (args:=[(52,x0)]) rfl rfl rfl rfl ⟨h0,trivial⟩ (by kernel_rfl) h
def lo131:List CutI:=[]
theorem w131{x0:Dat}{p1:Nat}{g:Glob}{Qf:OGP}(h0:HasTy TT 52 x0)
 (h:EvF TT 130 [x0] g (KQ Qf λv g'=>∃b,v=.d (.bool b)∧Br b (∀(us:List Val),RetL us [.nil,.bool true]→Qf (.val (.tuple us)) g') (Br (intOf (fld x0 0)==3) (∃n,GOk TT 3 g' p1 2 (.int .i64 n)∧∀(us:List Val),RetL us [.nil,.bool (intOf (fld x0 2)==n)]→Qf (.val (.tuple us)) g') (∀(us:List Val),RetL us [.nil,.bool false]→Qf (.val (.tuple us)) g')))):
 EvF TT 131 [x0,.ptr (some (p1,0))] g Qf:=
 sx_fun (rk:=rk) (fn:=Tryz.f131) (loops:=lo131) (joins:=[]) (n:=100000) (args:=[(52,x0),(0,.ptr (some (p1,0)))]) rfl rfl rfl rfl ⟨h0,tyPtr0 rfl,trivial⟩ (by kernel_rfl) h
def L132_4(p0:Nat)(x6:Dat)(p7:Nat)(x14:Dat)(n15:Int)(n16:Int)(g:Glob)(Qf:OGP):Prop:=CutP TT Tryz.f132 [1,1,1,0,1,0] Qf (mkC TT 132 Tryz.f132 2 [(0,.v 131 (.ptr (some (p0,0)))),(6,.v 81 (x6)),(7,.v 0 (.ptr (some (p7,0)))),(14,.v 86 (x14)),(15,.v 3 (.int .i64 n15)),(16,.v 3 (.int .i64 n16))] [] g)
def lo132:List CutI:=[⟨4,[(0,.keep),(6,.keep),(7,.keep),(14,.keep),(15,.keep),(16,.keep)],[]⟩]
theorem w132{p0:Nat}{x1:Dat}{g:Glob}{Qf:OGP}(h1:HasTy TT 86 x1)
 (h:GPut (gnew (gmnew g) [Dat.map none]) (gmnew g).boxes.length 0 1∧L132_4 p0 .nil (gmnew g).boxes.length x1 (↑(elsOf x1).length:Int) 0 (gput (gnew (gmnew g) [Dat.map none]) (gmnew g).boxes.length 0 (Dat.map (some g.boxes.length))) Qf):
 EvF TT 132 [.ptr (some (p0,0)),x1] g Qf:=
 sx_fun (rk:=rk) (fn:=Tryz.f132) (loops:=lo132) (joins:=[]) (n:=100000) (args:=[(131,.ptr (some (p0,0))),(86,x1)]) rfl rfl rfl rfl ⟨tyPtr rfl,h1,trivial⟩ (by kernel_rfl) h
theorem w132_4{p0:Nat}{x6:Dat}{p7:Nat}{x14:Dat}{n15:Int}{n16:Int}{g:Glob}{Qf:OGP}
 (h:Br (decide (n16<n15)) (InB n16 (elsOf x14).length∧InB 0 (elsOf (fld (getE (elsOf x14) n16) 0)).length∧Br (intOf (fld (getE (elsOf (fld (getE (elsOf x14) n16) 0)) 0) 0)!=4) (L132_4 p0 x6 p7 x14 n15 (IntKind.i64.wrap (n16+1)) g Qf) (∃i,GOk TT 113 g p7 0 (Dat.map (some i))∧∃n,gmlen g i=some n∧Br ((↑n:Int)==0) (∃x,HasTy TT 22 x∧GOk TT 22 g p0 0 x∧InB 0 (elsOf (fld (getE (elsOf x14) n16) 0)).length∧EvF TT 49 [x,.str (strOf (fld (getE (elsOf (fld (getE (elsOf x14) n16) 0)) 0) 1))] g (KQ Qf λv g'=>∃n n_1 b,RetT v [.int .i64 n,.int .i64 n_1,.bool b]∧∃x,HasTy TT 22 x∧GOk TT 22 g' p0 0 x∧InB n (elsOf x).length∧∃i,GOk TT 113 g' p7 0 (Dat.map (some i))∧InB 0 (elsOf (fld (getE (elsOf x14) n16) 0)).length∧∃n_2 b,MLook g' (some i) (.int .i64 0) (.str (strOf (fld (getE (elsOf (fld (getE (elsOf x14) n16) 0)) 0) 1))) (.int .i64 n_2) b∧∃g'_1,gmput g' i (.str (strOf (fld (getE (elsOf (fld (getE (elsOf x14) n16) 0)) 0) 1))) (.int .i64 (IntKind.i64.wrap (n_2+1)))=some g'_1∧L132_4 p0 (fld (getE (elsOf x) n) 2) p7 x14 n15 (IntKind.i64.wrap (n16+1)) g'_1 Qf)) (∃i,GOk TT 113 g p7 0 (Dat.map (some i))∧InB 0 (elsOf (fld (getE (elsOf x14) n16) 0)).length∧∃n b,MLook g (some i) (.int .i64 0) (.str (strOf (fld (getE (elsOf (fld (getE (elsOf x14) n16) 0)) 0) 1))) (.int .i64 n) b∧∃g',gmput g i (.str (strOf (fld (getE (elsOf (fld (getE (elsOf x14) n16) 0)) 0) 1))) (.int .i64 (IntKind.i64.wrap (n+1)))=some g'∧L132_4 p0 x6 p7 x14 n15 (IntKind.i64.wrap (n16+1)) g' Qf))) (∃i,GOk TT 113 g p7 0 (Dat.map (some i))∧∃n,gmlen g i=some n∧Br (decide (0<(↑n:Int))) (EvF TT 133 [x6,.clo 190 [.ptr (some (p7,0))]] g (KQ Qf λv g'=>∃b,v=.d (.bool b)∧∀(us:List Val),RetL us [x6,.bool !b]→Qf (.val (.tuple us)) g')) (∀(us:List Val),RetL us [x6,.bool false]→Qf (.val (.tuple us)) g))):
 L132_4 p0 x6 p7 x14 n15 n16 g Qf:=sx_cut (rk:=rk) (loops:=lo132) (joins:=[]) (n:=100000) (by kernel_rfl) h
def lo190:List CutI:=[]
theorem w190{x0:Dat}{p1:Nat}{g:Glob}{Qf:OGP}(h0:HasTy TT 80 x0)
 (h:∃i,GOk TT 113 g p1 0 (Dat.map (some i))∧∃n b,MLook g (some i) (.int .i64 0) (.str (strOf (fld x0 0))) (.int .i64 n) b∧Qf (.val (.d (.bool (n==0)))) g):
 EvF TT 190 [x0,.ptr (some (p1,0))] g Qf:=
 sx_fun (rk:=rk) (fn:=Tryz.f190) (loops:=lo190) (joins:=[]) (n:=100000) (args:=[(80,x0),(0,.ptr (some (p1,0)))]) rfl rfl rfl rfl ⟨h0,tyPtr0 rfl,trivial⟩ (by kernel_rfl) h
def lo133:List CutI:=[]
theorem w133{x0:Dat}{f1:FuncId}{c1:List Dat}{g:Glob}{Qf:OGP}(h0:HasTy TT 81 x0)
 (h:EvF TT 191 [x0,.clo f1 c1] g (KQ Qf λv g'=>∃n,v=.d (.int .i64 n)∧Qf (.val (.d (.bool (decide (0≤n))))) g')):
 EvF TT 133 [x0,.clo f1 c1] g Qf:=
 sx_fun (rk:=rk) (fn:=Tryz.f133) (loops:=lo133) (joins:=[]) (n:=100000) (args:=[(81,x0),(187,.clo f1 c1)]) rfl rfl rfl rfl ⟨h0,tyClo rfl,trivial⟩ (by kernel_rfl) h
def L191_2(x0:Dat)(f1:FuncId)(c1:List Dat)(n7:Int)(n8:Int)(g:Glob)(Qf:OGP):Prop:=CutP TT Tryz.f191 [1,0,1,0] Qf (mkC TT 191 Tryz.f191 2 [(0,.v 81 (x0)),(1,.v 187 (.clo f1 c1)),(7,.v 3 (.int .i64 n7)),(8,.v 3 (.int .i64 n8))] [] g)
def lo191:List CutI:=[⟨2,[(0,.keep),(1,.keep),(7,.keep),(8,.keep)],[]⟩]
theorem w191{x0:Dat}{f1:FuncId}{c1:List Dat}{g:Glob}{Qf:OGP}(h0:HasTy TT 81 x0)
 (h:L191_2 x0 f1 c1 (↑(elsOf x0).length:Int) 0 g Qf):
 EvF TT 191 [x0,.clo f1 c1] g Qf:=
 sx_fun (rk:=rk) (fn:=Tryz.f191) (loops:=lo191) (joins:=[]) (n:=100000) (args:=[(81,x0),(187,.clo f1 c1)]) rfl rfl rfl rfl ⟨h0,tyClo rfl,trivial⟩ (by kernel_rfl) h
theorem w191_2{x0:Dat}{f1:FuncId}{c1:List Dat}{n7:Int}{n8:Int}{g:Glob}{Qf:OGP}
 (h:Br (decide (n8<n7)) (InB n8 (elsOf x0).length∧EvF TT f1 (getE (elsOf x0) n8::c1) g (KQ Qf λv g'=>∃b,v=.d (.bool b)∧Br b (Qf (.val (.d (.int .i64 n8))) g') (L191_2 x0 f1 c1 n7 (IntKind.i64.wrap (n8+1)) g' Qf))) (Qf (.val (.d (.int .i64 (-1)))) g)):
 L191_2 x0 f1 c1 n7 n8 g Qf:=sx_cut (rk:=rk) (loops:=lo191) (joins:=[]) (n:=100000) (by kernel_rfl) h
def lo134:List CutI:=[]
theorem w134{x0:Dat}{p1:Nat}{g:Glob}{Qf:OGP}(h0:HasTy TT 80 x0)
 (h:∃f c,GOk TT 183 g p1 0 (.clo f c)∧EvF TT 44 [.int .i64 (↑(elsOf (fld x0 1)).length:Int)] g λout g'=>Outc (λx=>GSame TT 183 p1 0 g g∧Qf (.panic x) g') (λv=>∃x,HasTy TT 24 x∧RetV v x∧GSame TT 183 p1 0 g g'∧EvF TT f (.str (strOf (fld x0 0))::x::c) g' (KQ Qf λv g'=>∃b,v=.d (.bool b)∧Qf (.val (.d (.bool b))) g')) out):
 EvF TT 134 [x0,.ptr (some (p1,0))] g Qf:=
 sx_fun (rk:=rk) (fn:=Tryz.f134) (loops:=lo134) (joins:=[]) (n:=100000) (args:=[(80,x0),(0,.ptr (some (p1,0)))]) rfl rfl rfl rfl ⟨h0,tyPtr0 rfl,trivial⟩ (by kernel_rfl) h
def lo135:List CutI:=[]
theorem w135{x0:Dat}{g:Glob}{Qf:OGP}(h0:HasTy TT 52 x0)
 (h:EvF TT 130 [x0] g (KQ Qf λv g'=>∃b,v=.d (.bool b)∧∀(us:List Val),RetL us [.nil,.bool b]→Qf (.val (.tuple us)) g')):
 EvF TT 135 [x0] g Qf:=
 sx_fun (rk:=rk) (fn:=Tryz.f135) (loops:=lo135) (joins:=[]) (n:=100000) (args:=[(52,x0)]) rfl rfl rfl rfl ⟨h0,trivial⟩ (by kernel_rfl) h
def L81_5(p3:Nat)(p4:Nat)(p5:Nat)(g:Glob)(Qf:OGP):Prop:=CutP TT Tryz.f81 [1,1,1] Qf (mkC TT 81 Tryz.f81 3 [(3,.v 0 (.ptr (some (p3,0)))),(4,.v 0 (.ptr (some (p4,0)))),(5,.v 0 (.ptr (some (p5,0))))] [] g)
def L81_6(p3:Nat)(p4:Nat)(p5:Nat)(p7:Nat)(g:Glob)(Qf:OGP):Prop:=CutP TT Tryz.f81 [1,1,1,1] Qf (mkC TT 81 Tryz.f81 3 [(3,.v 0 (.ptr (some (p3,0)))),(4,.v 0 (.ptr (some (p4,0)))),(5,.v 0 (.ptr (some (p5,0)))),(7,.v 0 (.ptr (some (p7,0))))] [] g)
def L81_7(p3:Nat)(p4:Nat)(p5:Nat)(p7:Nat)(p8:Nat)(g:Glob)(Qf:OGP):Prop:=CutP TT Tryz.f81 [1,1,1,1,1] Qf (mkC TT 81 Tryz.f81 3 [(3,.v 0 (.ptr (some (p3,0)))),(4,.v 0 (.ptr (some (p4,0)))),(5,.v 0 (.ptr (some (p5,0)))),(7,.v 0 (.ptr (some (p7,0)))),(8,.v 0 (.ptr (some (p8,0))))] [] g)
def L81_8(p3:Nat)(p4:Nat)(p5:Nat)(p7:Nat)(p8:Nat)(p9:Nat)(g:Glob)(Qf:OGP):Prop:=CutP TT Tryz.f81 [1,1,1,1,1,0,1] Qf (mkC TT 81 Tryz.f81 3 [(3,.v 0 (.ptr (some (p3,0)))),(4,.v 0 (.ptr (some (p4,0)))),(5,.v 0 (.ptr (some (p5,0)))),(7,.v 0 (.ptr (some (p7,0)))),(8,.v 0 (.ptr (some (p8,0)))),(9,.v 0 (.ptr (some (p9,0))))] [] g)
def L81_9(p3:Nat)(p4:Nat)(p5:Nat)(p7:Nat)(p8:Nat)(p9:Nat)(n31:Int)(g:Glob)(Qf:OGP):Prop:=CutP TT Tryz.f81 [1,1,1,1,1,0,1,1] Qf (mkC TT 81 Tryz.f81 3 [(3,.v 0 (.ptr (some (p3,0)))),(4,.v 0 (.ptr (some (p4,0)))),(5,.v 0 (.ptr (some (p5,0)))),(7,.v 0 (.ptr (some (p7,0)))),(8,.v 0 (.ptr (some (p8,0)))),(9,.v 0 (.ptr (some (p9,0)))),(31,.v 3 (.int .i64 n31))] [] g)
def L81_13(p3:Nat)(p4:Nat)(p5:Nat)(p7:Nat)(p8:Nat)(g:Glob)(Qf:OGP):Prop:=CutP TT Tryz.f81 [1,1,1,1,1,1] Qf (mkC TT 81 Tryz.f81 3 [(3,.v 0 (.ptr (some (p3,0)))),(4,.v 0 (.ptr (some (p4,0)))),(5,.v 0 (.ptr (some (p5,0)))),(7,.v 0 (.ptr (some (p7,0)))),(8,.v 0 (.ptr (some (p8,0))))] [] g)
def lo81:List CutI:=[]
def jo81:List CutI:=[⟨5,[(3,.keep),(4,.keep),(5,.keep)],[]⟩,⟨6,[(3,.keep),(4,.keep),(5,.keep),(7,.keep)],[]⟩,⟨7,[(3,.keep),(4,.keep),(5,.keep),(7,.keep),(8,.keep)],[]⟩,⟨8,[(3,.keep),(4,.keep),(5,.keep),(7,.keep),(8,.keep),(9,.keep)],[]⟩,⟨9,[(3,.keep),(4,.keep),(5,.keep),(7,.keep),(8,.keep),(9,.keep),(31,.keep)],[]⟩,⟨13,[(3,.keep),(4,.keep),(5,.keep),(7,.keep),(8,.keep)],[]⟩]
theorem w81{p0:Nat}{x1:Dat}{x2:Dat}{g:Glob}{Qf:OGP}(h1:HasTy TT 86 x1)(h2:HasTy TT 24 x2)
 (h:∃i o,GOk TT 131 (gnew (gnew (gnew g [.ptr (some (p0,0))]) [x1]) [x2]) g.boxes.length 0 (.ptr (some (i,o)))∧EvF TT 125 [.ptr (some (i,o+1)),.int .i64 1] (gnew (gnew (gnew g [.ptr (some (p0,0))]) [x1]) [x2]) (KQ Qf λv g'=>∃n,v=.d (.int .i64 n)∧Br (decide (65536<n)) (Qf (.panic (.iface 130 (.agg []))) g') (∃x,HasTy TT 24 x∧GOk TT 24 g' (gnew (gnew g [.ptr (some (p0,0))]) [x1]).boxes.length 0 x∧Br ((↑(elsOf x).length:Int)==0) (∃x,HasTy TT 86 x∧GOk TT 86 g' (gnew g [.ptr (some (p0,0))]).boxes.length 0 x∧Qf (.val (.d (.bool ((↑(elsOf x).length:Int)==0)))) g') (L81_5 g.boxes.length (gnew g [.ptr (some (p0,0))]).boxes.length (gnew (gnew g [.ptr (some (p0,0))]) [x1]).boxes.length g' Qf)))):
 EvF TT 81 [.ptr (some (p0,0)),x1,x2] g Qf:=
 sx_fun (rk:=rk) (fn:=Tryz.f81) (loops:=lo81) (joins:=jo81) (n:=100000) (args:=[(131,.ptr (some (p0,0))),(86,x1),(24,x2)]) rfl rfl rfl rfl ⟨tyPtr rfl,h1,h2,trivial⟩ (by kernel_rfl) h
theorem w81_5{p3:Nat}{p4:Nat}{p5:Nat}{g:Glob}{Qf:OGP}
 (h:GPut (gnew g [Dat.nilFn]) g.boxes.length 0 1∧L81_6 p3 p4 p5 g.boxes.length (gput (gnew g [Dat.nilFn]) g.boxes.length 0 (Dat.clo 126 [Dat.ptr (some (p4,0))])) Qf):
 L81_5 p3 p4 p5 g Qf:=sx_cut (rk:=rk) (loops:=lo81) (joins:=jo81) (n:=100000) (by kernel_rfl) h
theorem w81_6{p3:Nat}{p4:Nat}{p5:Nat}{p7:Nat}{g:Glob}{Qf:OGP}
 (h:GPut (gnew g [Dat.nilFn]) g.boxes.length 0 1∧L81_7 p3 p4 p5 p7 g.boxes.length (gput (gnew g [Dat.nilFn]) g.boxes.length 0 (Dat.clo 128 [Dat.ptr (some (p3,0)),Dat.ptr (some (p7,0)),Dat.ptr (some (p5,0))])) Qf):
 L81_6 p3 p4 p5 p7 g Qf:=sx_cut (rk:=rk) (loops:=lo81) (joins:=jo81) (n:=100000) (by kernel_rfl) h
theorem w81_7{p3:Nat}{p4:Nat}{p5:Nat}{p7:Nat}{p8:Nat}{g:Glob}{Qf:OGP}
 (h:∃x,HasTy TT 24 x∧GOk TT 24 g p5 0 x∧InB 0 (elsOf x).length∧GPut (gnew g [Dat.int IntKind.i64 0,Dat.str [],Dat.int IntKind.i64 0,Dat.nil,Dat.int IntKind.i64 0]) g.boxes.length 0 5∧L81_8 p3 p4 p5 p7 p8 g.boxes.length (gput (gnew g [Dat.int IntKind.i64 0,Dat.str [],Dat.int IntKind.i64 0,Dat.nil,Dat.int IntKind.i64 0]) g.boxes.length 0 (getE (elsOf x) 0)) Qf):
 L81_7 p3 p4 p5 p7 p8 g Qf:=sx_cut (rk:=rk) (loops:=lo81) (joins:=jo81) (n:=100000) (by kernel_rfl) h
theorem w81_8{p3:Nat}{p4:Nat}{p5:Nat}{p7:Nat}{p8:Nat}{p9:Nat}{g:Glob}{Qf:OGP}
 (h:∃n,GOk TT 3 g p9 0 (Dat.int IntKind.i64 n)∧L81_9 p3 p4 p5 p7 p8 p9 n g Qf):
 L81_8 p3 p4 p5 p7 p8 p9 g Qf:=sx_cut (rk:=rk) (loops:=lo81) (joins:=jo81) (n:=100000) (by kernel_rfl) h
theorem w81_9{p3:Nat}{p4:Nat}{p5:Nat}{p7:Nat}{p8:Nat}{p9:Nat}{n31:Int}{g:Glob}{Qf:OGP}
 (h:Br (n31==4) (∃f c,GOk TT 183 g p8 0 (.clo f c)∧∃s,s.length.le 1099511627776∧GOk TT 9 g p9 1 (.str s)∧∃x,HasTy TT 24 x∧GOk TT 24 g p9 3 x∧EvF TT f (.str s::x::c) g (KQ Qf λv g'=>∃b,v=.d (.bool b)∧Qf (.val (.d (.bool b))) g')) (Br (n31==3) (∃i o,GOk TT 131 g p3 0 (.ptr (some (i,o)))∧∃f c,GOk TT 182 g p7 0 (.clo f c)∧EvF TT f (.clo 131 [.ptr (some (p9,0))]::c) g λout g'=>Outc (λx=>GSame TT 131 p3 0 g g∧∃x_1,HasTy TT 24 x_1∧GOk TT 24 g p5 0 x_1∧GSame TT 24 p5 0 g g∧InS 1 (↑(elsOf x_1).length:Int) (elsOf x_1).length∧Qf (.panic x) g') (λv=>∃x,HasTy TT 86 x∧RetV v x∧GSame TT 131 p3 0 g g'∧∃x_1,HasTy TT 24 x_1∧GOk TT 24 g' p5 0 x_1∧GSame TT 24 p5 0 g g'∧InS 1 (↑(elsOf x_1).length:Int) (elsOf x_1).length∧EvF TT 81 [.ptr (some (i,o)),x,.sl 5 (List.drop 1 (List.take (↑(elsOf x_1).length:Int).toNat (elsOf x_1)))] g' (KQ Qf λv g'=>∃b,v=.d (.bool b)∧Qf (.val (.d (.bool b))) g')) out) (L81_13 p3 p4 p5 p7 p8 g Qf))):
 L81_9 p3 p4 p5 p7 p8 p9 n31 g Qf:=sx_cut (rk:=rk) (loops:=lo81) (joins:=jo81) (n:=100000) (by kernel_rfl) h
theorem w81_13{p3:Nat}{p4:Nat}{p5:Nat}{p7:Nat}{p8:Nat}{g:Glob}{Qf:OGP}
 (h:∃i o,GOk TT 131 g p3 0 (.ptr (some (i,o)))∧∃x,HasTy TT 86 x∧GOk TT 86 g p4 0 x∧EvF TT 132 [.ptr (some (i,o)),x] g (KQ Qf λv g'=>∃x,HasTy TT 81 x∧∃b,RetT v [x,.bool b]∧Br b (EvF TT 133 [x,.clo 134 [.ptr (some (p8,0))]] g' (KQ Qf λv g'=>∃b,v=.d (.bool b)∧Qf (.val (.d (.bool b))) g')) (∃i o,GOk TT 131 g' p3 0 (.ptr (some (i,o)))∧∃f c,GOk TT 182 g' p7 0 (.clo f c)∧EvF TT f (.clo 135 []::c) g' λout g'_1=>Outc (λx=>GSame TT 131 p3 0 g' g'∧∃x_1,HasTy TT 24 x_1∧GOk TT 24 g' p5 0 x_1∧GSame TT 24 p5 0 g' g'∧InS 1 (↑(elsOf x_1).length:Int) (elsOf x_1).length∧Qf (.panic x) g'_1) (λv=>∃x,HasTy TT 86 x∧RetV v x∧GSame TT 131 p3 0 g' g'_1∧∃x_1,HasTy TT 24 x_1∧GOk TT 24 g'_1 p5 0 x_1∧GSame TT 24 p5 0 g' g'_1∧InS 1 (↑(elsOf x_1).length:Int) (elsOf x_1).length∧EvF TT 81 [.ptr (some (i,o)),x,.sl 5 (List.drop 1 (List.take (↑(elsOf x_1).length:Int).toNat (elsOf x_1)))] g'_1 (KQ Qf λv g'=>∃b,v=.d (.bool b)∧Qf (.val (.d (.bool b))) g')) out))):
 L81_13 p3 p4 p5 p7 p8 g Qf:=sx_cut (rk:=rk) (loops:=lo81) (joins:=jo81) (n:=100000) (by kernel_rfl) h
end Go.Proofs.YtiheejdkkjfenaaGreatDoor.Pa
namespace Go.Proofs.YtiheejdkkjfenaaGreatDoor.Pa
open Go Go.Proofs.YtiheejdkkjfenaaGreatDoor.Am
def rowAbs(x:Dat):List Pt:=(elsOf x).map absPt
def rowsAbs(x:Dat):List (List Pt):=(elsOf x).map rowAbs
theorem undRows:TT.und 86=some (.slice 24):=by kernel_rfl
theorem szRow:TT.size 24=some 1:=by kernel_rfl
theorem byRow:TT.bytes 24=some 24:=by kernel_rfl
theorem fld_row{e:Dat}(h:HasTy TT 24 e):fld e 0=e:=by
 cases e with
 |agg cs=>exact absurd h (by intro h;cases h with|agg _ tys _ ha=>exact absurd ha (by rw[undPats];simp[isAgg?]))
 |_=>rfl
theorem kp_same{bx:List Nat}{b:Nat}{g g':Glob}(hb:g'.boxes=g.boxes)(ht:g.toks.length≤g'.toks.length)(h0:b=0):Kp bx b g g':=⟨by rw[hb];exact Nat.le_refl _,λj _ _=>by rw[hb],ht,λj hj=>by omega⟩
theorem szRows:TT.size 86=some 1:=by kernel_rfl
theorem szInt17:TT.size 3=some 1:=by kernel_rfl
theorem gokRow{g:Glob}{i:Nat}{x:Dat}(hb:g.boxes[i]?=some (.cells [.d x])):GOk TT 24 g i 0 x:=gokD undPats szRow rfl hb rfl
theorem undFn0{g:Glob}{i:Nat}{x:Dat}{t:TypeId}(ht:isF (TT.und t)=true)(hs:TT.size t=some 1)(hb:g.boxes[i]?=some (.cells [.d x])):GOk TT t g i 0 x:=by
 obtain⟨d,h1,h2⟩:=isF_und ht
 exact gokD h1 hs h2 hb rfl
theorem add_ok{i n:Nat}{l:Dat}{g:Glob}(hb:g.boxes[i]?=some (.cells [.d l,.d (.int .i64 (n:Int))]))(hn:n≤1152921504606846976)(Qf:OGP)(hQ:Qf (.val (.d (.int .i64 ((n+1:Nat):Int)))) ⟨g.boxes.set i (.cells [.d l,.d (.int .i64 ((n+1:Nat):Int))]),g.toks⟩):
 EvF TT 125 [.ptr (some (i,1)),.int .i64 1] g Qf:=
 ⟨_,_,hQ,1,λm hm=>by
   obtain⟨k,rfl⟩:∃k,m=k+1:=⟨m-1,by omega⟩
   show(match boxInt g i 1 with
    |some (.ofNat n)=>bif Nat.ble n 1152921504606846976&&Nat.ble 1 1152921504606846976 then some (Out.val (.d (.int .i64 ((n+1:Nat):Int))),addBox g i 1 ((n+1:Nat):Int)) else none
    |_=>none)=_
   have e:boxInt g i 1=some (Int.ofNat n):=by simp only[boxInt,hb];rfl
   rw[e]
   simp only[Nat.ble_eq_true_of_le hn,show Nat.ble 1 1152921504606846976=true from rfl,Bool.and_self,cond_true]
   congr 2
   simp only[addBox,hb]
   rfl⟩
theorem tyPats_gsl{k:Nat}{xs:List Dat}(hl:SlFit TT 52 xs.length)(hx:∀x∈xs,HasTy TT 52 x):HasTy TT 24 (.gsl k 5 xs):=.gsl _ _ _ _ _ undPats szPat hl hx
theorem tyPats_sl{xs:List Dat}(hl:SlFit TT 52 xs.length)(hx:∀x∈xs,HasTy TT 52 x):HasTy TT 24 (.sl 5 xs):=.sl _ _ _ _ undPats szPat hl hx
theorem fitP{n:Nat}(h:n≤2^39):SlFit TT 52 n:=⟨by omega,λb' hb'=>by
 rw[byPat] at hb'
 cases hb'
 omega⟩
theorem fitP'{n:Nat}(h:n≤2^39):Fits n 64:=⟨by omega,by omega⟩
def CatAt(g0:Glob)(g:Glob)(x:Dat)(l:List Dat)(all:Nat):Prop:=Kp [] 0 g0 g∧((all=0∧x=.nil∧l=[])∨∃k,x=.gsl k 5 l∧g.toks[k]?=some (5,l.length))
theorem CatAt.els{g0 g:Glob}{x:Dat}{l:List Dat}{n:Nat}(h:CatAt g0 g x l n):elsOf x=l:=by
 rcases h.2 with ⟨_,rfl,rfl⟩|⟨k,rfl,_⟩<;>rfl
theorem CatAt.app{g0 g:Glob}{x:Dat}{l ys:List Dat}{n:Nat}(h:CatAt g0 g x l n)(hn:l.length+ys.length≤n):∃r g',gapp 5 x ys g=some (r,g')∧CatAt g0 g' r (l++ys) n:=by
 cases ys with
 |nil=>exact⟨x,g,rfl,by rw[List.append_nil];exact h⟩
 |cons y ys=>
  rcases h.2 with ⟨h0,_,_⟩|⟨k,rfl,hk⟩
  ·simp only[List.length_cons] at hn;omega
  ·refine⟨.gsl k 5 (l++y::ys),⟨g.boxes,g.toks.set k (5,l.length+(y::ys).length)⟩,?_,h.1.trans (kp_same rfl (by simp) rfl),.inr ⟨k,rfl,?_⟩⟩
   ·simp only[gapp,List.isEmpty_cons,Bool.false_eq_true,if_false,hk,and_self,if_true]
   ·have hlt:=(List.getElem?_eq_some_iff.1 hk).1
    simp[hlt]
theorem concat_ok{a b:Dat}{g:Glob}(ha:HasTy TT 24 a)(hb:HasTy TT 24 b)(hn:(elsOf a).length+(elsOf b).length≤2^39)(Qf:OGP)
 (hQ:∀v x g',HasTy TT 24 x→RetV v x→elsOf x=elsOf a++elsOf b→Kp [] 0 g g'→Qf (.val v) g'):EvF TT 127 [.sl 1 [a,b]] g Qf:=by
 have hab:HasTy TT 86 (.sl 1 [a,b]):=.sl _ _ _ _ undRows szRow ⟨by simp,λb' hb'=>by rw[byRow] at hb';cases hb';simp⟩ (by simp[ha,hb])
 have f0:fld a 0=a:=fld_row ha
 have f1:fld b 0=b:=fld_row hb
 have ea:=ha.els undPats
 have eb:=hb.els undPats
 have w1:∀n:Nat,n≤2^40→IntKind.i64.wrap (n:Int)=n:=λn h=>wrap_id (by omega) (by omega)
 have neg:∀n:Nat,decide ((n:Int)<0)=false:=λn=>decide_eq_false (by omega)
 -- the second loop
 have two:∀(x:Dat) (g1:Glob),CatAt g g1 x [] ((elsOf a).length+(elsOf b).length)→L127_11 x (.sl 1 [a,b]) 2 0 g1 Qf:=λx g1 h1=>by
  have e0:=h1.els
  refine w127_11 ?_
  rw[show decide ((0:Int)<2)=true from rfl,Br_true,show getE (elsOf (.sl 1 [a,b])) 0=a from rfl,f0,e0]
  obtain⟨r1,g2,k1,h2⟩:=h1.app (ys:=elsOf a) (by simp)
  refine⟨⟨by simp,by simp[elsOf]⟩,fitP' (by simp;omega),r1,g2,k1,?_⟩
  rw[List.nil_append] at h2
  have e1:=h2.els
  refine w127_11 ?_
  rw[show IntKind.i64.wrap (0+1)=1 from rfl,show decide ((1:Int)<2)=true from rfl,Br_true,show getE (elsOf (.sl 1 [a,b])) 1=b from rfl,f1,e1]
  obtain⟨r2,g3,k2,h3⟩:=h2.app (ys:=elsOf b) (Nat.le_refl _)
  refine⟨⟨by simp,by simp[elsOf]⟩,fitP' hn,r2,g3,k2,?_⟩
  have e2:=h3.els
  refine w127_11 ?_
  rw[show IntKind.i64.wrap (1+1)=2 from rfl,show decide ((2:Int)<2)=false from rfl,Br_false]
  intro v hv
  refine hQ v r2 g3 ?_ hv e2 h3.1
  rcases h3.2 with ⟨_,rfl,_⟩|⟨k,rfl,_⟩
  ·exact ty_nilPats
  ·refine tyPats_gsl (fitP (by rw[List.length_append];exact hn)) λy hy=>?_
   rcases List.mem_append.1 hy with hy|hy
   ·exact ea.2 _ hy
   ·exact eb.2 _ hy
 refine w127 hab ?_
 have hlen:((elsOf (.sl 1 [a,b])).length:Int)=2:=rfl
 rw[hlen]
 refine w127_3 ?_
 rw[show decide ((0:Int)<2)=true from rfl,Br_true,show getE (elsOf (.sl 1 [a,b])) 0=a from rfl,f0,Int.zero_add,w1 _ (by omega),neg,Br_false]
 refine⟨⟨by simp,by simp[elsOf]⟩,w127_3 ?_⟩
 rw[show IntKind.i64.wrap (0+1)=1 from rfl,show decide ((1:Int)<2)=true from rfl,Br_true,show getE (elsOf (.sl 1 [a,b])) 1=b from rfl,f1,←Int.natCast_add,w1 _ (by omega),neg,Br_false]
 refine⟨⟨by simp,by simp[elsOf]⟩,w127_3 ?_⟩
 rw[show IntKind.i64.wrap (1+1)=2 from rfl,show decide ((2:Int)<2)=false from rfl,Br_false]
 have hlen':((elsOf (.sl 1 [a,b])).length:Int)=2:=rfl
 by_cases h0:(elsOf a).length+(elsOf b).length=0
 ·rw[h0]
  exact growN_zero g _ ⟨_,ty_nilPats,rfl,by rw[hlen'];exact two _ g ⟨Kp.refl _ _ _,.inl ⟨h0,rfl,rfl⟩⟩⟩
 ·exact growN_ok (by omega) (by omega) g _ ⟨_,tyPats_gsl (fitP (by simp)) (λx hx=>by cases hx),rfl,by rw[hlen'];exact two _ _ ⟨kp_same rfl (by simp) rfl,.inr ⟨_,rfl,by simp⟩⟩⟩
theorem wild1_ok{x:Dat}{g:Glob}(hx:HasTy TT 52 x)(Qf:OGP)(hQ:Qf (.val (.d (.bool (wildP (absPt x))))) g):EvF TT 130 [x] g Qf:=by
 have hw:=w130 (g:=g) (Qf:=Qf) hx
 obtain⟨k1,s1,n1,a1,p1,rfl,hs1,t1⟩:=pat_ty hx
 refine hw ?_
 simp only[fld,nth,intOf]
 have hab:wildP (absPt (.agg [.int .i64 k1,.str s1,.int .i64 n1,a1,.int .i64 p1]))=(k1==1||k1==2):=rfl
 rw[hab] at hQ
 refine Br_iff.2 ⟨λq=>?_,λq=>?_⟩
 ·rw[q] at hQ;exact hQ
 ·rw[q] at hQ;exact hQ
def Parts(g:Glob)(f:FuncId)(c:List Dat)(sem:Pt→Option (List Pt)):Prop:=
 ∀a g1,HasTy TT 52 a→Kp [] 0 g g1→∀Q:Out→Glob→Prop,
  (∀x b,HasTy TT 24 x→b=(sem (absPt a)).isSome→(∀l,sem (absPt a)=some l→rowAbs x=l)→∀us,RetL us [x,.bool b]→Q (.val (.tuple us)) g1)→EvF TT f (a::c) g1 Q
theorem absAny:absPt anyPat=anyP:=rfl
theorem rowAbs_any(n:Nat):rowAbs (.sl 5 (List.replicate n anyPat))=List.replicate n anyP:=by
 simp[rowAbs,elsOf,absAny]
theorem ty_any:HasTy TT 52 anyPat:=ty_pat (by simp) ty_nilPats
theorem ty_anys{n:Nat}(h:SlFit TT 52 n):HasTy TT 24 (.sl 5 (List.replicate n anyPat)):=tyPats_sl (by rw[List.length_replicate];exact h) λx hx=>by rw[(List.mem_replicate.1 hx).2];exact ty_any
theorem parts_con{g:Glob}{p1 p2:Nat}{A:Dat}{s:Str}(hA:HasTy TT 24 A)(hs:s.length≤2^40)(h1:g.boxes[p1]?=some (.cells [.d A]))(h2:g.boxes[p2]?=some (.cells [.d (.str s)])):
 Parts g 129 [.ptr (some (p1,0)),.ptr (some (p2,0))] (semCon s (elsOf A).length):=by
 intro a g1 ha hk Q hQ
 have h1:=hk.at h1 (by simp)
 have h2:=hk.at h2 (by simp)
 have eA:=hA.els undPats
 have hw:=w129 (p1:=p1) (p2:=p2) (g:=g1) (Qf:=Q) ha
 refine hw (wild1_ok ha _ ⟨_,rfl,?_⟩)
 obtain⟨k1,s1,n1,a1,q1,rfl,hs1,t1⟩:=pat_ty ha
 have hab:absPt (.agg [.int .i64 k1,.str s1,.int .i64 n1,a1,.int .i64 q1])=.mk k1 s1 n1 (rowAbs a1) q1:=by unfold rowAbs;rw[←absPtA_map];rfl
 rw[hab] at hQ⊢
 simp only[fld,nth,strOf,intOf]
 refine Br_iff.2 ⟨λq=>⟨A,hA,gokRow h1,?_⟩,λq=>Br_iff.2 ⟨λq2=>⟨s,by show s.length≤1099511627776;omega,gokD undStr szStr rfl h2 rfl,Br_iff.2 ⟨λq3=>⟨A,hA,gokRow h1,?_⟩,λq3=>?_⟩⟩,λq2=>?_⟩⟩
 ·have hsem:semCon s (elsOf A).length (.mk k1 s1 n1 (rowAbs a1) q1)=some (List.replicate (elsOf A).length anyP):=if_pos q
  refine wild_ok (n:=(elsOf A).length) (by have:=eA.1.1;omega) g1 _ ⟨_,ty_anys eA.1,rfl,?_⟩
  exact hQ _ true (ty_anys eA.1) (by rw[hsem];rfl) (λl hl=>by rw[hsem] at hl;cases hl;exact rowAbs_any _)
 ·have hsem:semCon s (elsOf A).length (.mk k1 s1 n1 (rowAbs a1) q1)=if (rowAbs a1).length==(elsOf A).length then some (rowAbs a1) else none:=by
   unfold semCon
   rw[if_neg (by rw[q];simp)]
   show(if k1==4&&(s1==s&&(rowAbs a1).length==(elsOf A).length) then _ else none)=_
   rw[q2,q3]
   rfl
  have hlen:(rowAbs a1).length=(elsOf a1).length:=List.length_map _
  have hdec:(((elsOf a1).length:Int)==((elsOf A).length:Int))=((rowAbs a1).length==(elsOf A).length):=by
   rw[hlen,Bool.eq_iff_iff];simp only[beq_iff_eq];omega
  rw[hdec]
  refine hQ a1 _ t1 ?_ (λl hl=>?_)
  ·rw[hsem];cases ((rowAbs a1).length==(elsOf A).length)<;>rfl
  ·rw[hsem] at hl
   split at hl
   ·cases hl;rfl
   ·cases hl
 ·have hsem:semCon s (elsOf A).length (.mk k1 s1 n1 (rowAbs a1) q1)=none:=by
   unfold semCon
   rw[if_neg (by rw[q];simp)]
   show(if k1==4&&(s1==s&&(rowAbs a1).length==(elsOf A).length) then _ else none)=_
   rw[q3,Bool.false_and,Bool.and_false]
   rfl
  exact hQ a1 _ t1 (by rw[hsem];rfl) (λl hl=>by rw[hsem] at hl;cases hl)
 ·have hsem:semCon s (elsOf A).length (.mk k1 s1 n1 (rowAbs a1) q1)=none:=by
   unfold semCon
   rw[if_neg (by rw[q];simp)]
   show(if k1==4&&(s1==s&&(rowAbs a1).length==(elsOf A).length) then _ else none)=_
   rw[q2,Bool.false_and]
   rfl
  exact hQ a1 _ t1 (by rw[hsem];rfl) (λl hl=>by rw[hsem] at hl;cases hl)
theorem parts_int{g:Glob}{p1:Nat}{k0 n0 q0:Int}{s0:Str}{a0:Dat}(h1:g.boxes[p1]?=some (.cells [.d (.int .i64 k0),.d (.str s0),.d (.int .i64 n0),.d a0,.d (.int .i64 q0)])):
 Parts g 131 [.ptr (some (p1,0))] (semInt n0):=by
 intro a g1 ha hk Q hQ
 have h1:=hk.at h1 (by simp)
 have hw:=w131 (p1:=p1) (g:=g1) (Qf:=Q) ha
 refine hw (wild1_ok ha _ ⟨_,rfl,?_⟩)
 obtain⟨k1,s1,n1,a1,q1,rfl,hs1,t1⟩:=pat_ty ha
 have hab:absPt (.agg [.int .i64 k1,.str s1,.int .i64 n1,a1,.int .i64 q1])=.mk k1 s1 n1 (rowAbs a1) q1:=by unfold rowAbs;rw[←absPtA_map];rfl
 rw[hab] at hQ⊢
 simp only[fld,nth,strOf,intOf]
 have fin:∀b,semInt n0 (.mk k1 s1 n1 (rowAbs a1) q1)=(if b then some [] else none)→∀us,RetL us [.nil,.bool b]→Q (.val (.tuple us)) g1:=λb hb=>
  hQ .nil b ty_nilPats (by rw[hb];cases b<;>rfl) (λl hl=>by
   rw[hb] at hl
   split at hl
   ·cases hl;rfl
   ·cases hl)
 refine Br_iff.2 ⟨λq=>fin true (if_pos q),λq=>Br_iff.2 ⟨λq2=>⟨n0,gokD undInt szInt17 rfl h1 rfl,?_⟩,λq2=>?_⟩⟩
 ·refine fin (n1==n0) ?_
  unfold semInt
  rw[if_neg (by rw[q];simp)]
  show(if k1==3&&n1==n0 then _ else none)=_
  rw[q2,Bool.true_and]
 ·refine fin false ?_
  unfold semInt
  rw[if_neg (by rw[q];simp)]
  show(if k1==3&&n1==n0 then _ else none)=_
  rw[q2,Bool.false_and]
theorem parts_wild(g:Glob):Parts g 135 [] semWild:=by
 intro a g1 ha hk Q hQ
 refine w135 ha (wild1_ok ha _ ⟨_,rfl,?_⟩)
 refine hQ .nil _ ty_nilPats ?_ (λl hl=>?_)
 ·unfold semWild;cases wildP (absPt a)<;>rfl
 ·unfold semWild at hl
  split at hl
  ·cases hl;rfl
  ·cases hl
theorem fm_take{α β:Type}(F:α→Option β)(xs:List α){i:Nat}(hi:i<xs.length):(xs.take (i+1)).filterMap F=(xs.take i).filterMap F++(F xs[i]).toList:=by
 rw[List.take_succ,List.getElem?_eq_getElem hi,List.filterMap_append]
 cases h:F xs[i]<;>simp[h]
theorem map_hd{xs:List Dat}(h:0<xs.length):xs.map absPt=absPt xs[0]::xs.tail.map absPt:=by
 cases xs with
 |nil=>exact absurd h (by simp)
 |cons y t=>rfl
theorem special_ok{f:FuncId}{c:List Dat}{p1:Nat}{X:Dat}{g0:Glob}{sem:Pt→Option (List Pt)}(hX:HasTy TT 86 X)(hb:g0.boxes[p1]?=some (.cells [.d X]))(hp:Parts g0 f c sem)
 (hw:∀r∈rowsAbs X,0<r.length∧r.length≤2^38) (hs:∀y k,sem y=some k→k.length≤2^38) (Qf:OGP)
 (hQ:∀v Y g',HasTy TT 86 Y→RetV v Y→rowsAbs Y=(rowsAbs X).filterMap (turnR sem)→Kp [] 0 g0 g'→Qf (.val v) g'):EvF TT 126 [.clo f c,.ptr (some (p1,0))] g0 Qf:=by
 have eX:=hX.els undRows
 have eXl:=eX.1.1
 have hlen:(rowsAbs X).length=(elsOf X).length:=List.length_map _
 refine w126 ⟨X,hX,gokD undRows szRows rfl hb rfl,?_⟩
 refine loopUp (len:=(elsOf X).length) (λi=>∀(l:List Dat) (g:Glob),l.length≤i→(∀y∈l,HasTy TT 24 y)→l.map rowAbs=((rowsAbs X).take i).filterMap (turnR sem)→Kp [] 0 g0 g→L126_3 f c l X ((elsOf X).length:Int) (i:Int) g Qf) ?_ ?_ 0 (Nat.zero_le _) [] g0 (Nat.le_refl _) (λy h=>by cases h) rfl (Kp.refl _ _ _)
 ·intro l g h1 h2 h3 h4
  refine w126_3 ?_
  rw[Br_ge]
  rw[←hlen,List.take_length] at h3
  refine hQ _ (slOf 1 l) g (slOf_ty undRows szRow (eX.1.le h1) h2) (retOf_ret _ _) ?_ h4
  unfold rowsAbs
  rw[slOf_els,h3]
  rfl
 ·intro i hi ih l g h1 h2 h3 h4
  have hi':i<(rowsAbs X).length:=by omega
  have hr:(rowsAbs X)[i]=rowAbs (elsOf X)[i]:=List.getElem_map _
  have te:=eX.2 _ (List.getElem_mem hi)
  have hwi:=hw _ (List.getElem_mem hi')
  rw[hr] at hwi
  have hl0:(rowAbs (elsOf X)[i]).length=(elsOf (elsOf X)[i]).length:=List.length_map _
  have ee:=te.els undPats
  have h0:0<(elsOf (elsOf X)[i]).length:=by omega
  refine w126_3 ?_
  rw[Br_lt hi,getE_nat hi,fld_row te,wrap_nat (by omega)]
  have hg0:getE (elsOf (elsOf X)[i]) 0=(elsOf (elsOf X)[i])[0]:=getE_nat (i:=0) h0
  rw[hg0]
  refine⟨inB hi,⟨by simp,by omega⟩,hp _ g (ee.2 _ (List.getElem_mem h0)) h4 _ λx b tx hb' hl' us hus=>⟨x,tx,b,hus,?_⟩⟩
  have hrow:rowAbs (elsOf X)[i]=absPt (elsOf (elsOf X)[i])[0]::(elsOf (elsOf X)[i]).tail.map absPt:=map_hd h0
  have htl:List.drop 1 (List.take ((elsOf (elsOf X)[i]).length:Int).toNat (elsOf (elsOf X)[i]))=(elsOf (elsOf X)[i]).tail:=by
   rw[Int.toNat_natCast,List.take_length,List.drop_one]
  have hstep:=fm_take (turnR sem) (rowsAbs X) hi'
  rw[hr,hrow] at hstep
  cases hsem:sem (absPt (elsOf (elsOf X)[i])[0]) with
  |none=>
   rw[hsem] at hb'
   subst hb'
   rw[show(none:Option (List Pt)).isSome=false from rfl,Br_false]
   refine ih l g (by omega) h2 ?_ h4
   rw[hstep]
   simp only[turnR,hsem,Option.toList_none,List.append_nil]
   exact h3
  |some k=>
   rw[hsem] at hb'
   subst hb'
   rw[show(some k).isSome=true from rfl,Br_true,htl]
   have hxk:=hl' k hsem
   have hxl:(elsOf x).length=k.length:=by rw[←hxk];exact(List.length_map _).symm
   have hk:=hs _ _ hsem
   have ttl:HasTy TT 24 (.sl 5 (elsOf (elsOf X)[i]).tail):=tyPats_sl (ee.1.le (by rw[List.length_tail];omega)) λy hy=>ee.2 y (List.mem_of_mem_tail hy)
   refine⟨⟨by omega,by omega,by omega⟩,concat_ok tx ttl (by rw[show elsOf (.sl 5 (elsOf (elsOf X)[i]).tail)=(elsOf (elsOf X)[i]).tail from rfl,List.length_tail];omega) _ λv Y g' tY hv hY hkp=>⟨Y,tY,hv,((eX.1.le (by simp;omega)).fits byRow),?_⟩⟩
   refine ih _ g' (by simp;omega) (λy hy=>?_) ?_ (h4.trans hkp)
   ·rcases List.mem_append.1 hy with hy|hy
    ·exact h2 y hy
    ·simp only[List.mem_singleton] at hy;subst hy;exact tY
   ·rw[hstep,List.map_append,h3]
    simp only[turnR,hsem,Option.toList_some,List.map_cons,List.map_nil]
    congr 2
    unfold rowAbs at hxk⊢
    rw[hY,List.map_append,hxk]
    rfl
end Go.Proofs.YtiheejdkkjfenaaGreatDoor.Pa
namespace Go.Proofs.YtiheejdkkjfenaaGreatDoor.Pa
open Go Go.Proofs.YtiheejdkkjfenaaGreatDoor.Am
theorem pat_flds{a:Dat}(h:HasTy TT 52 a):intOf (fld a 0)=kPt (absPt a)∧strOf (fld a 1)=nameP (absPt a)∧intOf (fld a 2)=numP (absPt a)∧rowAbs (fld a 3)=argsP (absPt a)∧(nameP (absPt a)).length≤2^40∧HasTy TT 24 (fld a 3):=by
 obtain⟨k1,s1,n1,a1,p1,rfl,hs1,t1⟩:=pat_ty h
 exact⟨rfl,rfl,rfl,by unfold rowAbs;rw[←absPtA_map];rfl,hs1,t1⟩
theorem con_flds{c:Dat}(h:HasTy TT 80 c):strOf (fld c 0)=(absCn c).s∧(elsOf (fld c 1)).length=(absCn c).fs.length∧(absCn c).s.length≤2^40∧(elsOf (fld c 1)).length≤2^40:=by
 obtain⟨s1,a1,rfl,hs1,t1⟩:=con_ty h
 refine⟨rfl,?_,hs1,(t1.els undTypes).1.1⟩
 show(elsOf a1).length=(absTyA a1).length
 rw[absTyA_map,List.length_map]
theorem idxCon_ok{x:Dat}{f:FuncId}{c:List Dat}{g:Glob}{P:Cn→Bool}(hx:HasTy TT 81 x)(hc:∀y∈elsOf x,∀Q:Out→Glob→Prop,Q (.val (.d (.bool (P (absCn y))))) g→EvF TT f (y::c) g Q)(Qf:OGP)
 (hQ:Qf (.val (.d (.bool (((elsOf x).map absCn).any P)))) g):EvF TT 133 [x,.clo f c] g Qf:=by
 have ex:=hx.els undCons
 have exl:=ex.1.1
 refine w133 hx (w191 hx ?_)
 refine loopUp (len:=(elsOf x).length) (λi=>((elsOf x).take i).any (λy=>P (absCn y))=false→L191_2 x f c ((elsOf x).length:Int) (i:Int) g ((KQ Qf λv g'=>∃n,v=Val.d (Dat.int IntKind.i64 n)∧Qf (Out.val (Val.d (Dat.bool (decide (0≤n))))) g'))) ?_ ?_ 0 (Nat.zero_le _) rfl
 ·intro h
  refine w191_2 ?_
  rw[Br_ge]
  rw[List.take_length] at h
  rw[List.any_map] at hQ
  have h':(elsOf x).any (P∘absCn)=false:=h
  rw[h'] at hQ
  exact⟨_,rfl,hQ⟩
 ·intro i hi ih h
  refine w191_2 ?_
  rw[Br_lt hi,getE_nat hi]
  refine⟨inB hi,hc _ (List.getElem_mem hi) _ ⟨_,rfl,Br_iff.2 ⟨λq=>⟨_,rfl,?_⟩,λq=>?_⟩⟩⟩
  ·have:((elsOf x).map absCn).any P=true:=by
    rw[List.any_map,List.any_eq_true]
    exact⟨_,List.getElem_mem hi,q⟩
   rw[this] at hQ
   have e:decide ((0:Int)≤(i:Int))=true:=decide_eq_true (by omega)
   rw[e]
   exact hQ
  ·rw[wrap_nat (by omega)]
   refine ih ?_
   rw[List.take_succ,List.getElem?_eq_getElem hi,List.any_append,h]
   simp[q]
def headName:List Pt→Option Str
 |x::_=>if kPt x==4 then some (nameP x) else none
 |[]=>none
theorem firstCon_head(rows:List (List Pt)):firstCon rows=(rows.filterMap headName).head?:=by
 induction rows with
 |nil=>rfl
 |cons r rows ih=>
  cases r with
  |nil=>simp only[firstCon,ih,List.filterMap_cons,headName]
  |cons x r=>
   simp only[firstCon,List.filterMap_cons,headName]
   by_cases h:(kPt x==4)=true
   ·simp[h]
   ·simp[h,ih]
theorem hasCon_mem(s:Str)(rows:List (List Pt)):hasCon s rows=(rows.filterMap headName).contains s:=by
 induction rows with
 |nil=>rfl
 |cons r rows ih=>
  unfold hasCon at ih⊢
  rw[List.any_cons,ih,List.filterMap_cons]
  cases r with
  |nil=>simp[headCon,headName]
  |cons x r=>
   simp only[headCon,headName]
   by_cases h:(kPt x==4)=true
   ·simp only[h,Bool.true_and,if_true,List.contains_cons]
    congr 1
    rw[Bool.eq_iff_iff];simp only[beq_iff_eq];exact⟨Eq.symm,Eq.symm⟩
   ·simp[h]
def cM(M:List Str):Str→Nat:=addL (λ_=>0) M
theorem cM_eq(M:List Str)(s:Str):cM M s=M.count s:=by simp[cM,addL]
theorem cM_snoc(M:List Str)(s:Str):addL (cM M) [s]=cM (M++[s]):=by unfold cM;rw[addL_app]
theorem gmlen_pos{g:Glob}{i:Nat}{M:List Str}(h:MapIs true g i (cntF (cM M))):∃n:Nat,gmlen g i=some n∧(n=0↔M=[]):=by
 obtain⟨es,c,h1,h2⟩:=h
 refine⟨es.length,by simp only[gmlen,h1],⟨λh0=>?_,λh0=>?_⟩⟩
 ·have h0:es=[]:=List.eq_nil_of_length_eq_zero h0
  subst h0
  cases M with
  |nil=>rfl
  |cons s M=>
   exfalso
   have hc:cM (s::M) s≠0:=by rw[cM_eq];simp
   have:cntF (cM (s::M)) (.str s)=some (.int .i64 (cM (s::M) s)):=by simp only[cntF,hc,if_false]
   obtain⟨e,he,_⟩:=(h2.has _ _).1 this
   cases he
 ·subst h0
  cases es with
  |nil=>rfl
  |cons e es=>
   exfalso
   have hk:=h2.key e (by simp)
   have:=(h2.has e.1 e.2.1).2 ⟨e,by simp,rfl,rfl⟩
   cases he:e.1 with
   |str s=>
    rw[he] at this
    have hz:cM [] s=0:=by rw[cM_eq];rfl
    simp only[cntF,hz,if_true] at this
    cases this
   |_=>rw[he] at this;cases this
theorem gokMap{g:Glob}{i j:Nat}(hb:g.boxes[i]?=some (.cells [.d (.map (some j))])):GOk TT 113 g i 0 (.map (some j)):=gokD undMap sizeMap rfl hb rfl
theorem szDecls:TT.size 22=some 1:=by kernel_rfl
theorem gokDecls{g:Glob}{i:Nat}{l st:Dat}(hb:g.boxes[i]?=some (.cells [.d l,.d st])):GOk TT 22 g i 0 l:=gokD undDecls szDecls rfl hb rfl
theorem decl_cons{l:Dat}{s:Str}(hl:HasTy TT 22 l)(hf:(findDc s ((elsOf l).map absDc) 0).2.2=true):
 ∃n:Int,(findDc s ((elsOf l).map absDc) 0).1=n∧InB n (elsOf l).length∧HasTy TT 81 (fld (getE (elsOf l) n) 2)∧(elsOf (fld (getE (elsOf l) n) 2)).map absCn=consOf ((elsOf l).map absDc) s:=by
 rcases findDc_spec s ((elsOf l).map absDc) 0 with ⟨k,j,d,c,h1,h2,h3,_⟩|⟨h1,_⟩
 ·have hk:k<(elsOf l).length:=by have:=(List.getElem?_eq_some_iff.1 h2).1;simpa using this
  have el:=hl.els undDecls
  have td:=el.2 _ (List.getElem_mem hk)
  have hd:absDc (elsOf l)[k]=d:=by
   rw[List.getElem?_map,List.getElem?_eq_getElem hk] at h2
   exact Option.some.inj h2
  refine⟨(k:Int),by rw[h1];simp,inB hk,?_,?_⟩
  ·rw[getE_nat hk]
   obtain⟨s2,a2,b2,p2,e2,_,ha2,hb2⟩:=decl_ty td
   rw[e2]
   exact hb2
  ·rw[getE_nat hk]
   unfold consOf
   rw[h1]
   simp only[Int.zero_add,Int.toNat_natCast,h2]
   rw[←hd,absDc_cs]
 ·rw[h1] at hf;cases hf
theorem all_ok{p0:Nat}{l X st:Dat}{g0:Glob}(hl:HasTy TT 22 l)(hX:HasTy TT 86 X)(hb:g0.boxes[p0]?=some (.cells [.d l,.d st]))(hw:∀r∈rowsAbs X,0<r.length)
 (hok:∀r∈rowsAbs X,∀x∈r,okP ((elsOf l).map absDc) x=true) (Qf:OGP)
 (hQ:∀x g',HasTy TT 81 x→Kp [] 0 g0 g'→∀b,(b=true→wholeF ((elsOf l).map absDc) (rowsAbs X)=some ((elsOf x).map absCn))→(b=false→wholeF ((elsOf l).map absDc) (rowsAbs X)=none)→∀us,RetL us [x,.bool b]→Qf (.val (.tuple us)) g'):
 EvF TT 132 [.ptr (some (p0,0)),X] g0 Qf:=by
 have eX:=hX.els undRows
 have eXl:=eX.1.1
 have hlen:(rowsAbs X).length=(elsOf X).length:=List.length_map _
 have hp0:=(List.getElem?_eq_some_iff.1 hb).1
 refine w132 hX ?_
 obtain⟨k1,k2⟩:=gput_one (g:=gnew (gmnew g0) [Dat.map none]) (x:=.map (some g0.boxes.length)) (gnew_get (gmnew g0) [Dat.map none]) rfl
 refine⟨k1,?_⟩
 rw[k2]
 -- the memory of the loop
 have hml:(gmnew g0).boxes.length=g0.boxes.length+1:=gmnew_len g0
 refine loopUp (len:=(elsOf X).length) (λi=>∀(x6:Dat) (g:Glob),Kp [] 0 g0 g→g.boxes[g0.boxes.length+1]?=some (.cells [.d (.map (some g0.boxes.length))])→MapIs true g g0.boxes.length (cntF (cM (((rowsAbs X).take i).filterMap headName)))→HasTy TT 81 x6→
  (∀s,(((rowsAbs X).take i).filterMap headName).head?=some s→(elsOf x6).map absCn=consOf ((elsOf l).map absDc) s)→L132_4 p0 x6 (gmnew g0).boxes.length X ((elsOf X).length:Int) (i:Int) g Qf) ?_ ?_ 0 (Nat.zero_le _) .nil _ ?_ ?_ ?_ (.nil _ (by rw[undCons];rfl)) (λs h=>by cases h)
 ·intro x6 g h1 h2 h3 h4 h5
  refine w132_4 ?_
  rw[Br_ge,hml]
  rw[←hlen,List.take_length] at h3 h5
  obtain⟨n,e1,e2⟩:=gmlen_pos h3
  refine⟨_,gokMap h2,n,e1,?_⟩
  have hwf:wholeF ((elsOf l).map absDc) (rowsAbs X)=match ((rowsAbs X).filterMap headName).head? with
   |none=>none
   |some s=>if (consOf ((elsOf l).map absDc) s).all (λc=>hasCon c.s (rowsAbs X)) then some (consOf ((elsOf l).map absDc) s) else none:=by rw[←firstCon_head];rfl
  generalize hM:(rowsAbs X).filterMap headName=M at hwf h3 h5 e2
  cases M with
  |nil=>
   have:n=0:=e2.2 rfl
   subst this
   rw[show decide ((0:Int)<((0:Nat):Int))=false from rfl,Br_false]
   exact hQ x6 g h4 h1 false (λh=>by cases h) (λ_=>by rw[hwf];rfl)
  |cons s M=>
   have hn:n≠0:=λh=>by have:=e2.1 h;cases this
   have hd:decide ((0:Int)<(n:Int))=true:=decide_eq_true (by omega)
   rw[hd,Br_true]
   have hcs:=h5 s rfl
   rw[show(s::M).head?=some s from rfl] at hwf
   simp only at hwf
   refine idxCon_ok (P:=λc=>!(s::M).contains c.s) h4 (λy hy Q hq=>?_) _ ⟨_,rfl,?_⟩
   ·have ty:=(h4.els undCons).2 _ hy
    obtain⟨f1,_,f3,_⟩:=con_flds ty
    refine w190 ty ⟨_,gokMap h2,?_⟩
    rw[f1]
    have hlk:=h3.mlook (z:=.int .i64 0) (strKey (absCn y).s)
    rw[cntF_get] at hlk
    refine⟨_,_,hlk,?_⟩
    have hz:(((cM (s::M) (absCn y).s:Nat):Int)==0)=!(s::M).contains (absCn y).s:=by rw[cM_eq];exact cB_zero (s::M) _
    rw[hz]
    exact hq
   ·have hbb:(!((elsOf x6).map absCn).any (λc=>!(s::M).contains c.s))=(consOf ((elsOf l).map absDc) s).all (λc=>hasCon c.s (rowsAbs X)):=by
     rw[hcs,List.not_any_eq_all_not]
     refine congrArg _ (funext λc=>?_)
     rw[Bool.not_not,hasCon_mem,hM]
    rw[hbb]
    refine hQ x6 g h4 h1 _ (λh=>?_) (λh=>?_)
    ·rw[hwf,h,hcs];rfl
    ·rw[hwf,h];rfl
 ·intro i hi ih x6 g h1 h2 h3 h4 h5
  have hi':i<(rowsAbs X).length:=by omega
  have hr:(rowsAbs X)[i]=rowAbs (elsOf X)[i]:=List.getElem_map _
  have te:=eX.2 _ (List.getElem_mem hi)
  have hwi:=hw _ (List.getElem_mem hi')
  have hoi:=hok _ (List.getElem_mem hi')
  rw[hr] at hwi hoi
  have hl0:(rowAbs (elsOf X)[i]).length=(elsOf (elsOf X)[i]).length:=List.length_map _
  have ee:=te.els undPats
  have h0:0<(elsOf (elsOf X)[i]).length:=by omega
  have hrow:rowAbs (elsOf X)[i]=absPt (elsOf (elsOf X)[i])[0]::(elsOf (elsOf X)[i]).tail.map absPt:=map_hd h0
  have ta:=ee.2 _ (List.getElem_mem h0)
  obtain⟨q1,q2,_,_,q5,_⟩:=pat_flds ta
  have hg0:getE (elsOf (elsOf X)[i]) 0=(elsOf (elsOf X)[i])[0]:=getE_nat (i:=0) h0
  have hin:InB 0 (elsOf (elsOf X)[i]).length:=⟨by simp,by omega⟩
  have hstep:=fm_take headName (rowsAbs X) hi'
  rw[hr,hrow] at hstep
  refine w132_4 ?_
  rw[Br_lt hi,getE_nat hi,fld_row te,wrap_nat (by omega),hg0,q1,q2,hml]
  refine⟨inB hi,hin,?_⟩
  rw[←hml]
  refine Br_iff.2 ⟨λq=>?_,λq=>?_⟩
  ·have hk:(kPt (absPt (elsOf (elsOf X)[i])[0])==4)=false:=by simpa[bne] using q
   refine ih x6 g h1 h2 ?_ h4 ?_
   ·rw[hstep];simp only[headName,hk,Bool.false_eq_true,if_false,Option.toList_none,List.append_nil];exact h3
   ·rw[hstep];simp only[headName,hk,Bool.false_eq_true,if_false,Option.toList_none,List.append_nil];exact h5
  ·have hk:(kPt (absPt (elsOf (elsOf X)[i])[0])==4)=true:=by simpa[bne] using q
   have hst:((rowsAbs X).take (i+1)).filterMap headName=((rowsAbs X).take i).filterMap headName++[nameP (absPt (elsOf (elsOf X)[i])[0])]:=by
    rw[hstep];simp only[headName,hk,if_true,Option.toList_some]
   have hfd:=(okP_con (hoi _ (by rw[hrow];simp)) hk).1
   generalize hM:((rowsAbs X).take i).filterMap headName=M at h3 h5 hst
   have hMl:M.length≤i:=by rw[←hM];exact Nat.le_trans (List.length_filterMap_le _ _) (by rw[List.length_take];omega)
   obtain⟨n,e1,e2⟩:=gmlen_pos h3
   have hcnt:cM M (nameP (absPt (elsOf (elsOf X)[i])[0]))≤2^60:=by
    rw[cM_eq]
    exact Nat.le_trans List.count_le_length (by omega)
   obtain⟨m1,g',m2,m3,m4⟩:=map_inc h3 (nameP (absPt (elsOf (elsOf X)[i])[0])) hcnt
   rw[cM_snoc,←hst] at m4
   have hkp:Kp [] 0 g0 g':=⟨by rw[m3.len];exact h1.len,λj hj hx=>by rw[m3.get (by omega)];exact h1.box j hj hx,by rw[m3.toks];exact h1.tlen,λj hj=>by omega⟩
   have h2':g'.boxes[g0.boxes.length+1]?=some (.cells [.d (.map (some g0.boxes.length))]):=by rw[m3.get (by omega)];exact h2
   rw[hml]
   refine⟨_,gokMap h2,n,e1,?_⟩
   rw[←hml]
   refine Br_iff.2 ⟨λq=>?_,λq=>?_⟩
   ·have hn:n=0:=by simpa using q
    have hM0:=e2.1 hn
    have hbg:=h1.at hb (by simp)
    refine⟨l,hl,gokDecls hbg,hin,find_ok l _ g hl q5 _ ⟨_,_,_,⟨rfl,rfl,rfl,trivial⟩,l,hl,gokDecls hbg,?_⟩⟩
    obtain⟨n1,d1,d2,d3,d4⟩:=decl_cons hl hfd
    rw[d1,hml]
    refine⟨d2,_,gokMap h2,hin,_,_,m1,g',m2,?_⟩
    rw[←hml]
    refine ih _ g' hkp h2' m4 d3 λs hs=>?_
    rw[hst,hM0] at hs
    cases hs
    exact d4
   ·have hn:M≠[]:=λh=>by have:=e2.2 h;subst this;simp at q
    rw[hml]
    refine⟨_,gokMap h2,hin,_,_,m1,g',m2,?_⟩
    rw[←hml]
    refine ih x6 g' hkp h2' m4 h4 λs hs=>?_
    rw[hst] at hs
    cases hMM:M with
    |nil=>exact absurd hMM hn
    |cons a M'=>rw[hMM] at hs h5;exact h5 s hs
 ·refine⟨by simp[gnew,gmnew],λj hj _=>?_,Nat.le_refl _,λj hj=>by omega⟩
  rw[hml]
  show((gnew (gmnew g0) [Dat.map none]).boxes.set (g0.boxes.length+1) _)[j]?=_
  rw[List.getElem?_set_ne (by omega),gnew_old _ (by rw[hml];omega),gmnew_old hj]
 ·rw[hml]
  show((gnew (gmnew g0) [Dat.map none]).boxes.set (g0.boxes.length+1) _)[g0.boxes.length+1]?=_
  rw[List.getElem?_set_self (by rw[gnew_len,hml];omega)]
 ·have e:cntF (cM (((rowsAbs X).take 0).filterMap headName))=λ_=>none:=by
   funext k
   cases k<;>first|rfl|(simp only[cntF,cM_eq];rfl)
  rw[e]
  refine MapIs.other (j:=0) (mapIs_new true g0) ?_
  show((gnew (gmnew g0) [Dat.map none]).boxes.set (gmnew g0).boxes.length _)[g0.boxes.length]?=_
  rw[List.getElem?_set_ne (by omega),gnew_old _ (by rw[hml];omega)]
end Go.Proofs.YtiheejdkkjfenaaGreatDoor.Pa
