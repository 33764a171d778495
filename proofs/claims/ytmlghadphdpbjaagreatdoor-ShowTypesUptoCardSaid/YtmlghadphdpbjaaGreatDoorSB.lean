/- What functions of the program do, printed by wip/tools/sx/sx.py. Show: what is written on pages, of the program's and of the document's. -/
import Derived.Test.YtmlghadphdpbjaaGreatDoorSA
set_option linter.all false
set_option autoImplicit false
set_option maxRecDepth 100000
namespace Go.Proofs.YtmlghadphdpbjaaGreatDoor.Pa
open Go Go.Proofs.YtmlghadphdpbjaaGreatDoor.Am
def lo3:List CutI:=[]
theorem w3{x0:Dat}{x1:Dat}{g:Glob}{Qf:OGP}(h0:HasTy TT 25 x0)(h1:HasTy TT 28 x1)
 (h:EvF TT 8 [x0] g (KQ Qf λv g'=>∃b,v=.d (.bool b)∧Br b (EvF TT 10 [] g' (KQ Qf λv g'=>∃b,v=.d (.bool b)∧Qf (.val (.d (.bool b))) g')) (EvF TT 9 [x1] g' (KQ Qf λv g'=>∃b,v=.d (.bool b)∧Br b (EvF TT 10 [] g' (KQ Qf λv g'=>∃b,v=.d (.bool b)∧Qf (.val (.d (.bool b))) g')) (EvF TT 12 [.sl 7 [x0]] g' (KQ Qf λv g'=>∃x,HasTy TT 22 x∧RetV v x∧InB 0 (elsOf x).length∧EvF TT 11 [getE (elsOf x) 0] g' (KQ Qf λv g'=>∃s,s.length.le 1099511627776∧∃n,RetT v [.str s,.int .i64 n]∧EvF TT 13 [x0] g' (KQ Qf λv g'=>∃s_1,s_1.length.le 1099511627776∧∃n_1,RetT v [.str s_1,.int .i64 n_1]∧EvF TT 15 [x1] g' (KQ Qf λv g'=>∃x,HasTy TT 28 x∧v=.d x∧EvF TT 14 [x] g' (KQ Qf λv g'=>∃s_2,s_2.length.le 1099511627776∧∃n_2,RetT v [.str s_2,.int .i64 n_2]∧EvF TT 16 [x1] g' (KQ Qf λv g'=>∃s_3,s_3.length.le 1099511627776∧∃n_3,RetT v [.str s_3,.int .i64 n_3]∧Br (n==n_1) (Br (s==s_1) (Br (n_2==n_3) (Br (s_2==s_3) (EvF TT 10 [] g' (KQ Qf λv g'=>∃b,v=.d (.bool b)∧Qf (.val (.d (.bool b))) g')) (Qf (.val (.d (.bool false))) g')) (Qf (.val (.d (.bool false))) g')) (Qf (.val (.d (.bool false))) g')) (Qf (.val (.d (.bool false))) g')))))))))))):
 EvF TT 3 [x0,x1] g Qf:=
 sx_fun (rk:=rk) (fn:=Tryz.f3) (loops:=lo3) (joins:=[]) (n:=100000) (args:=[(25,x0),(28,x1)]) rfl rfl rfl rfl ⟨h0,h1,trivial⟩ (by kernel_rfl) h
def lo9:List CutI:=[]
theorem w9{x0:Dat}{g:Glob}{Qf:OGP}(h0:HasTy TT 28 x0)
 (h:EvF TT 25 [x0,.int .i64 0,.int .i64 0] g (KQ Qf λv g'=>∃n,v=.d (.int .i64 n)∧Qf (.val (.d (.bool (decide (n<0))))) g')):
 EvF TT 9 [x0] g Qf:=
 sx_fun (rk:=rk) (fn:=Tryz.f9) (loops:=lo9) (joins:=[]) (n:=100000) (args:=[(28,x0)]) rfl rfl rfl rfl ⟨h0,trivial⟩ (by kernel_rfl) h
def lo14:List CutI:=[]
theorem w14{x0:Dat}{g:Glob}{Qf:OGP}(h0:HasTy TT 28 x0)
 (h:EvF TT 26 [.agg [.sl 4 [.agg [.str [116],.nil,.sl 2 [.agg [.str [84],.sl 4 [x0]]],.int .i64 0]],.int .i64 2,.str [],.str [],.int .i64 0,.nil,.nil,.int .i64 0]] g (KQ Qf λv g'=>∃b,v=.d (.bool b)∧Br (!b) (Qf (.val (.tuple [.d (.str []),.d (.int .i64 1)])) g') (EvF TT 33 [.ptr (some ((gnew g' [.nil]).boxes.length,0)),x0] (gnew (gnew g' [.nil]) [.iface 63 (.ptr (some (g'.boxes.length,0)))]) λout g'_1=>Outc (λx=>Qf (.panic x) g'_1) (λv=>RetT v []∧EvF TT 28 [.ptr (some ((gnew g' [.nil]).boxes.length,0))] g'_1 (KQ Qf λv g'=>∃s,s.length.le 1099511627776∧∃n,RetT v [.str s,.int .i64 n]∧Qf (.val (.tuple [.d (.str s),.d (.int .i64 n)])) g')) out))):
 EvF TT 14 [x0] g Qf:=
 sx_fun (rk:=rk) (fn:=Tryz.f14) (loops:=lo14) (joins:=[]) (n:=100000) (args:=[(28,x0)]) rfl rfl rfl rfl ⟨h0,trivial⟩ (by kernel_rfl) h
def lo15:List CutI:=[]
theorem w15{x0:Dat}{g:Glob}{Qf:OGP}(h0:HasTy TT 28 x0)
 (h:EvF TT 34 [.sl 4 [x0]] g (KQ Qf λv g'=>∃x,HasTy TT 26 x∧RetV v x∧InB 0 (elsOf x).length∧Qf (.val (.d (.agg [.int .i64 (intOf (fld (getE (elsOf x) 0) 0)),.str (strOf (fld (getE (elsOf x) 0) 1)),.int .i64 (intOf (fld (getE (elsOf x) 0) 2)),fld (getE (elsOf x) 0) 3]))) g')):
 EvF TT 15 [x0] g Qf:=
 sx_fun (rk:=rk) (fn:=Tryz.f15) (loops:=lo15) (joins:=[]) (n:=100000) (args:=[(28,x0)]) rfl rfl rfl rfl ⟨h0,trivial⟩ (by kernel_rfl) h
def lo28:List CutI:=[]
theorem w28{p0:Nat}{g:Glob}{Qf:OGP}
 (h:∃x,HasTy TT 68 x∧GOk TT 68 g p0 0 x∧∃t v fn,x=.iface t v∧Meth TT t "athanor/show.text" fn∧EvF TT fn [v] g (KQ Qf λv g'=>∃s,s.length.le 1099511627776∧v=.d (.str s)∧Br (decide (8192<(↑s.length:Int))) (Qf (.val (.tuple [.d (.str []),.d (.int .i64 2)])) g') (Qf (.val (.tuple [.d (.str s),.d (.int .i64 0)])) g'))):
 EvF TT 28 [.ptr (some (p0,0))] g Qf:=
 sx_fun (rk:=rk) (fn:=Tryz.f28) (loops:=lo28) (joins:=[]) (n:=100000) (args:=[(62,.ptr (some (p0,0)))]) rfl rfl rfl rfl ⟨tyPtr rfl,trivial⟩ (by kernel_rfl) h
def lo33:List CutI:=[]
theorem w33{p0:Nat}{x1:Dat}{g:Glob}{Qf:OGP}(h1:HasTy TT 28 x1)
 (h:Br (intOf (fld x1 0)==1) (∃x,HasTy TT 68 x∧GOk TT 68 g p0 0 x∧∃t v fn,x=.iface t v∧Meth TT t "athanor/show.put" fn∧EvF TT fn [v,.sl 1 [.str [105,110,116]]] g (KQ Qf λv g'=>RetT v []∧Qf (.val (.tuple [])) g')) (Br (intOf (fld x1 0)==2) (∃x,HasTy TT 68 x∧GOk TT 68 g p0 0 x∧∃t v fn,x=.iface t v∧Meth TT t "athanor/show.put" fn∧EvF TT fn [v,.sl 1 [.str [39],.str (strOf (fld x1 1))]] g (KQ Qf λv g'=>RetT v []∧Qf (.val (.tuple [])) g')) (Br (intOf (fld x1 0)==3) (InB 0 (elsOf (fld x1 3)).length∧Br (intOf (fld (getE (elsOf (fld x1 3)) 0) 0)==3) (InB 0 (elsOf (fld x1 3)).length∧EvF TT 70 [.ptr (some (p0,0)),Dat.bnd 33 (.ptr (some (p0,0))),getE (elsOf (fld x1 3)) 0] g (KQ Qf λv g'=>RetT v []∧∃x,HasTy TT 68 x∧GOk TT 68 g' p0 0 x∧∃t v fn,x=.iface t v∧Meth TT t "athanor/show.put" fn∧EvF TT fn [v,.sl 1 [.str [32,45,62,32]]] g' (KQ Qf λv g'=>RetT v []∧InB 1 (elsOf (fld x1 3)).length∧EvF TT 33 [.ptr (some (p0,0)),getE (elsOf (fld x1 3)) 1] g' (KQ Qf λv g'=>RetT v []∧Qf (.val (.tuple [])) g')))) (InB 0 (elsOf (fld x1 3)).length∧EvF TT 33 [.ptr (some (p0,0)),getE (elsOf (fld x1 3)) 0] g (KQ Qf λv g'=>RetT v []∧∃x,HasTy TT 68 x∧GOk TT 68 g' p0 0 x∧∃t v fn,x=.iface t v∧Meth TT t "athanor/show.put" fn∧EvF TT fn [v,.sl 1 [.str [32,45,62,32]]] g' (KQ Qf λv g'=>RetT v []∧InB 1 (elsOf (fld x1 3)).length∧EvF TT 33 [.ptr (some (p0,0)),getE (elsOf (fld x1 3)) 1] g' (KQ Qf λv g'=>RetT v []∧Qf (.val (.tuple [])) g'))))) (∃x,HasTy TT 68 x∧GOk TT 68 g p0 0 x∧∃t v fn,x=.iface t v∧Meth TT t "athanor/show.put" fn∧EvF TT fn [v,.sl 1 [.str (strOf (fld x1 1))]] g (KQ Qf λv g'=>RetT v []∧EvF TT 71 [.ptr (some (p0,0)),fld x1 3] g' (KQ Qf λv g'=>RetT v []∧Qf (.val (.tuple [])) g')))))):
 EvF TT 33 [.ptr (some (p0,0)),x1] g Qf:=
 sx_fun (rk:=rk) (fn:=Tryz.f33) (loops:=lo33) (joins:=[]) (n:=100000) (args:=[(62,.ptr (some (p0,0))),(28,x1)]) rfl rfl rfl rfl ⟨tyPtr rfl,h1,trivial⟩ (by kernel_rfl) h
def lo70:List CutI:=[]
theorem w70{p0:Nat}{f1:FuncId}{r1:Dat}{x2:Dat}{g:Glob}{Qf:OGP}(h2:HasTy TT 28 x2)
 (h:∃x,HasTy TT 68 x∧GOk TT 68 g p0 0 x∧∃t v fn,x=.iface t v∧Meth TT t "athanor/show.put" fn∧EvF TT fn [v,.sl 1 [.str [40]]] g (KQ Qf λv g'=>RetT v []∧EvF TT f1 [r1,x2] g' (KQ Qf λv g'=>RetT v []∧∃x,HasTy TT 68 x∧GOk TT 68 g' p0 0 x∧∃t v fn,x=.iface t v∧Meth TT t "athanor/show.put" fn∧EvF TT fn [v,.sl 1 [.str [41]]] g' (KQ Qf λv g'=>RetT v []∧Qf (.val (.tuple [])) g')))):
 EvF TT 70 [.ptr (some (p0,0)),.bnd f1 r1,x2] g Qf:=
 sx_fun (rk:=rk) (fn:=Tryz.f70) (loops:=lo70) (joins:=[]) (n:=100000) (args:=[(62,.ptr (some (p0,0))),(78,.bnd f1 r1),(28,x2)]) rfl rfl rfl rfl ⟨tyPtr rfl,tyBnd rfl,h2,trivial⟩ (by kernel_rfl) h
def L71_2(p0:Nat)(f4:FuncId)(r4:Dat)(x9:Dat)(n10:Int)(n11:Int)(g:Glob)(Qf:OGP):Prop:=CutP TT Tryz.f71 [1,1,0] Qf (mkC TT 71 Tryz.f71 2 [(0,.v 62 (.ptr (some (p0,0)))),(4,.v 78 (.bnd f4 r4)),(9,.v 26 (x9)),(10,.v 3 (.int .i64 n10)),(11,.v 3 (.int .i64 n11))] [] g)
def lo71:List CutI:=[⟨2,[(0,.keep),(4,.keep),(9,.keep),(10,.keep),(11,.keep)],[]⟩]
theorem w71{p0:Nat}{x1:Dat}{g:Glob}{Qf:OGP}(h1:HasTy TT 26 x1)
 (h:L71_2 p0 33 (.ptr (some (p0,0))) x1 (↑(elsOf x1).length:Int) 0 g Qf):
 EvF TT 71 [.ptr (some (p0,0)),x1] g Qf:=
 sx_fun (rk:=rk) (fn:=Tryz.f71) (loops:=lo71) (joins:=[]) (n:=100000) (args:=[(62,.ptr (some (p0,0))),(26,x1)]) rfl rfl rfl rfl ⟨tyPtr rfl,h1,trivial⟩ (by kernel_rfl) h
theorem w71_2{p0:Nat}{f4:FuncId}{r4:Dat}{x9:Dat}{n10:Int}{n11:Int}{g:Glob}{Qf:OGP}
 (h:Br (decide (n11<n10)) (InB n11 (elsOf x9).length∧∃x,HasTy TT 68 x∧GOk TT 68 g p0 0 x∧∃t v fn,x=.iface t v∧Meth TT t "athanor/show.put" fn∧EvF TT fn [v,.sl 1 [.str [32]]] g (KQ Qf λv g'=>RetT v []∧Br (intOf (fld (getE (elsOf x9) n11) 0)==3) (EvF TT 70 [.ptr (some (p0,0)),Dat.bnd f4 r4,getE (elsOf x9) n11] g' (KQ Qf λv g'=>RetT v []∧L71_2 p0 f4 r4 x9 n10 (IntKind.i64.wrap (n11+1)) g' Qf)) (Br (intOf (fld (getE (elsOf x9) n11) 0)==4) (Br (decide (0<(↑(elsOf (fld (getE (elsOf x9) n11) 3)).length:Int))) (EvF TT 70 [.ptr (some (p0,0)),Dat.bnd f4 r4,getE (elsOf x9) n11] g' (KQ Qf λv g'=>RetT v []∧L71_2 p0 f4 r4 x9 n10 (IntKind.i64.wrap (n11+1)) g' Qf)) (EvF TT f4 [r4,getE (elsOf x9) n11] g' (KQ Qf λv g'=>RetT v []∧L71_2 p0 f4 r4 x9 n10 (IntKind.i64.wrap (n11+1)) g' Qf))) (EvF TT f4 [r4,getE (elsOf x9) n11] g' (KQ Qf λv g'=>RetT v []∧L71_2 p0 f4 r4 x9 n10 (IntKind.i64.wrap (n11+1)) g' Qf))))) (Qf (.val (.tuple [])) g)):
 L71_2 p0 f4 r4 x9 n10 n11 g Qf:=sx_cut (rk:=rk) (loops:=lo71) (joins:=[]) (n:=100000) (by kernel_rfl) h
def L226_1(p0:Nat)(x6:Dat)(n7:Int)(n8:Int)(g:Glob)(Qf:OGP):Prop:=CutP TT Tryz.f226 [1,0] Qf (mkC TT 226 Tryz.f226 2 [(0,.v 63 (.ptr (some (p0,0)))),(6,.v 47 (x6)),(7,.v 3 (.int .i64 n7)),(8,.v 3 (.int .i64 n8))] [] g)
def lo226:List CutI:=[⟨1,[(0,.keep),(6,.keep),(7,.keep),(8,.keep)],[]⟩]
theorem w226{p0:Nat}{x1:Dat}{g:Glob}{Qf:OGP}(h1:HasTy TT 47 x1)
 (h:L226_1 p0 x1 (↑(elsOf x1).length:Int) 0 g Qf):
 EvF TT 226 [.ptr (some (p0,0)),x1] g Qf:=
 sx_fun (rk:=rk) (fn:=Tryz.f226) (loops:=lo226) (joins:=[]) (n:=100000) (args:=[(63,.ptr (some (p0,0))),(47,x1)]) rfl rfl rfl rfl ⟨tyPtr rfl,h1,trivial⟩ (by kernel_rfl) h
theorem w226_1{p0:Nat}{x6:Dat}{n7:Int}{n8:Int}{g:Glob}{Qf:OGP}
 (h:Br (decide (n8<n7)) (InB n8 (elsOf x6).length∧∃x,HasTy TT 64 x∧GOk TT 64 g p0 0 x∧Fits ((elsOf x).length+(bytesUp (strOf (fld (getE (elsOf x6) n8) 0))).length) 1∧∃r g',gapp 1 x (bytesUp (strOf (fld (getE (elsOf x6) n8) 0))) g=some (r,g')∧GPut g' p0 0 1∧L226_1 p0 x6 n7 (IntKind.i64.wrap (n8+1)) (gput g' p0 0 r) Qf) (Qf (.val (.tuple [])) g)):
 L226_1 p0 x6 n7 n8 g Qf:=sx_cut (rk:=rk) (loops:=lo226) (joins:=[]) (n:=100000) (by kernel_rfl) h
def lo227:List CutI:=[]
theorem w227{p0:Nat}{g:Glob}{Qf:OGP}
 (h:∃x,HasTy TT 64 x∧GOk TT 64 g p0 0 x∧Qf (.val (.d (.str (bytesD (elsOf x))))) g):
 EvF TT 227 [.ptr (some (p0,0))] g Qf:=
 sx_fun (rk:=rk) (fn:=Tryz.f227) (loops:=lo227) (joins:=[]) (n:=100000) (args:=[(63,.ptr (some (p0,0)))]) rfl rfl rfl rfl ⟨tyPtr rfl,trivial⟩ (by kernel_rfl) h
end Go.Proofs.YtmlghadphdpbjaaGreatDoor.Pa
namespace Go.Proofs.YtmlghadphdpbjaaGreatDoor.Pa
open Go Go.Proofs.YtmlghadphdpbjaaGreatDoor.Am
def catD:List Dat→Str
 |[]=>[]
 |d::l=>strOf d++catD l
def strsD:List Dat→Bool
 |[]=>true
 |.str _::l=>strsD l
 |_=>false
theorem strsD_get:∀{ds:List Dat},strsD ds=true→∀(i:Nat) (h:i<ds.length),∃s,ds[i]=.str s
 |.str s::l,h,0,_=>⟨s,rfl⟩
 |.str s::l,h,i+1,hi=>strsD_get (ds:=l) h i (by simpa using hi)
theorem strsD_len:∀{ds:List Dat} {n:Nat},strsD ds=true→(catD ds).length≤n→∀d∈ds,∃s,d=.str s∧s.length≤n
 |.str s::l,n,h,hn,d,hd=>by
  simp only[catD,strOf,List.length_append] at hn
  rcases List.mem_cons.1 hd with rfl|hd
  ·exact⟨s,rfl,by omega⟩
  ·exact strsD_len (ds:=l) h (by omega) d hd
theorem strs_ty{ds:List Dat}{n:Nat}(hs:strsD ds=true)(hl:(catD ds).length≤n)(h40:n≤2^40)(hn:ds.length≤64):HasTy TT 47 (.sl 1 ds):=
 .sl _ _ _ _ undStrs szStr (fitOf' byStr hn) λd hd=>by
  obtain⟨s,rfl,h⟩:=strsD_len hs hl d hd
  exact ty_str (by omega)
where
 fitOf' {e:TypeId} {n:Nat} (he:TT.bytes e=some 16) (h:n≤64):SlFit TT e n:=⟨by omega,λb' hb'=>by
  rw[he] at hb'
  cases hb'
  omega⟩
theorem undBytes:TT.und 64=some (.slice 5):=by kernel_rfl
theorem sizeBytes:TT.size 64=some 1:=by kernel_rfl
theorem sizeByte:TT.size 5=some 1:=by kernel_rfl
theorem byByte:TT.bytes 5=some 1:=by kernel_rfl
theorem gokD{g:Glob}{i o n:Nat}{cs:List GVal}{x:Dat}{t:TypeId}{d:TypeDesc}(hu:TT.und t=some d)(hs:TT.size t=some n)(ha:isAggD d=false)(hb:g.boxes[i]?=some (.cells cs))(hc:cs[o]?=some (.d x)):GOk TT t g i o x:=by
 refine⟨.d x,?_,rfl,rfl⟩
 simp only[gload,hb,loadV,hu,hs,ha,Bool.false_eq_true,if_false,List.head?_map,List.head?_drop,hc]
 rfl
theorem bytes_ty{k:Nat}{b:Str}(hl:b.length≤2^40):HasTy TT 64 (.gsl k 1 (bytesUp b)):=
 .gsl _ _ _ _ _ undBytes sizeByte ⟨by rw[bytesUp_len];exact hl,λb' hb'=>by rw[byByte] at hb';cases hb';rw[bytesUp_len];omega⟩ λd hd=>by
  obtain⟨c,_,rfl⟩:=List.mem_map.1 hd
  exact tyInt (by kernel_rfl)
theorem PageIs.read{g:Glob}{q:Nat}{b:Str}(h:PageIs g q b)(hl:b.length≤2^40):∃B,g.boxes[q]?=some (.cells [.d B])∧HasTy TT 64 B∧GOk TT 64 g q 0 B∧elsOf B=bytesUp b:=by
 obtain⟨B,h1,h2⟩:=h
 refine⟨B,h1,?_,gokD undBytes sizeBytes rfl h1 rfl,?_⟩
 ·rcases h2 with ⟨rfl,rfl⟩|⟨k,rfl,_⟩
  ·exact .nil _ (by rw[undBytes];rfl)
  ·exact bytes_ty hl
 ·rcases h2 with ⟨rfl,rfl⟩|⟨k,rfl,_⟩<;>rfl
theorem bytesD_up:∀(b:Str),bytesD (bytesUp b)=b
 |[]=>rfl
 |c::l=>by
  show UInt8.ofNat (intOf (.int .u8 (c.toNat:Int))).toNat::bytesD (bytesUp l)=c::l
  rw[bytesD_up l]
  simp[intOf]
theorem fits1{n:Nat}(h:n≤2^40):Fits n 1:=⟨h,by omega⟩
section
variable{g:Glob}{q w:Nat}{b full:Str}{Qf:OGP}{ds:List Dat}
theorem pagePut_ok(hp:PageIs g q b)(hs:strsD ds=true)(hn:ds.length≤64)(hl:b.length+(catD ds).length≤2^40)
 (hQ:∀g',PageIs g' q (b++catD ds)→Oth q g g'→Qf (.val (.tuple [])) g'):EvF TT 226 [.ptr (some (q,0)),.sl 1 ds] g Qf:=by
 refine w226 (strs_ty hs (Nat.le_refl _) (by omega) hn) ?_
 show L226_1 q (.sl 1 ds) (ds.length:Int) 0 g Qf
 refine loopUp (len:=ds.length) (λi=>∀g1 b1,PageIs g1 q b1→Oth q g g1→b1++catD (ds.drop i)=b++catD ds→L226_1 q (.sl 1 ds) (ds.length:Int) (i:Int) g1 Qf) ?_ ?_ 0 (Nat.zero_le _) g b hp (.refl _ _) rfl
 ·intro g1 b1 h1 h2 h3
  refine w226_1 ?_
  rw[Br_ge]
  rw[List.drop_length,catD,List.append_nil] at h3
  exact hQ _ (h3▸h1) h2
 ·intro i hi ih g1 b1 h1 h2 h3
  refine w226_1 ?_
  rw[Br_lt hi]
  have hd:ds.drop i=ds[i]::ds.drop (i+1):=List.drop_eq_getElem_cons hi
  obtain⟨s,hsi⟩:=strsD_get hs i hi
  rw[hd,catD,hsi] at h3
  have hlen:=congrArg List.length h3
  simp only[List.length_append,strOf] at hlen
  have he:getE (elsOf (.sl 1 ds)) (i:Int)=.str s:=(getE_nat hi).trans hsi
  obtain⟨B,r,g2,p1,p2,p3,p4,p5,p6⟩:=page_put h1 s
  obtain⟨B',r1,r2,r3,r4⟩:=h1.read (by omega)
  obtain rfl:B=B':=by rw[p1] at r1;cases r1;rfl
  rw[he]
  refine⟨inB hi,B,r2,r3,?_,r,g2,p3,p4,?_⟩
  ·rw[r4]
   simp only[fld,strOf,bytesUp_len]
   exact fits1 (by omega)
  ·rw[wrap_nat (by omega)]
   exact ih _ _ p5 (h2.trans p6) (by rw[List.append_assoc];exact h3)
theorem pageText_ok(hp:PageIs g q b)(hl:b.length≤2^40)(hQ:Qf (.val (.d (.str b))) g):EvF TT 227 [.ptr (some (q,0))] g Qf:=by
 obtain⟨B,h1,h2,h3,h4⟩:=hp.read hl
 refine w227 ⟨B,h2,h3,?_⟩
 rw[h4,bytesD_up]
 exact hQ
def Wr(g:Glob)(w q:Nat)(b:Str):Prop:=g.boxes[w]?=some (.cells [.d (.iface 63 (.ptr (some (q,0))))])∧PageIs g q b∧w≠q
theorem undSheet:∃l,TT.und 68=some (.interface l):=by
 have h:isI (TT.und 68)=true:=by kernel_rfl
 unfold isI at h
 split at h
 ·exact⟨_,‹_›⟩
 ·cases h
theorem sizeSheet:TT.size 68=some 1:=by kernel_rfl
theorem Wr.sheet(h:Wr g w q b):HasTy TT 68 (.iface 63 (.ptr (some (q,0))))∧GOk TT 68 g w 0 (.iface 63 (.ptr (some (q,0)))):=by
 obtain⟨l,hu⟩:=undSheet
 exact⟨.iface _ _ _ (by rw[hu];rfl) (tyPtr (by kernel_rfl)),gokD hu sizeSheet rfl h.1 rfl⟩
theorem methPut:Meth TT 63 "athanor/show.put" 226:=by unfold Meth;kernel_rfl
theorem methText:Meth TT 63 "athanor/show.text" 227:=by unfold Meth;kernel_rfl
theorem put_ok{P:Dat→Glob→Prop}{K:Glob→Prop}(hw:Wr g w q b)(hs:strsD ds=true)(hn:ds.length≤64)(hl:b.length+(catD ds).length≤2^40)(hK:∀g',Wr g' w q (b++catD ds)→K g'):
 ∃x,HasTy TT 68 x∧GOk TT 68 g w 0 x∧∃t v fn,x=Dat.iface t v∧Meth TT t "athanor/show.put" fn∧EvF TT fn [v,Dat.sl 1 ds] g λout g'=>Outc (λx=>P x g') (λv=>RetT v []∧K g') out:=
 ⟨_,hw.sheet.1,hw.sheet.2,_,_,_,rfl,methPut,pagePut_ok hw.2.1 hs hn hl λg' h1 h2=>⟨trivial,hK g' ⟨h2.at hw.1 hw.2.2,h1,hw.2.2⟩⟩⟩
def cut:Str→List Dat:=λs=>bif Nat.blt 8192 s.length then[.str [],.int .i64 2] else[.str s,.int .i64 0]
theorem done_ok(hw:Wr g w q b)(hl:b.length≤2^40)(hQ:Qf (.val (.tuple ((cut b).map .d))) g):EvF TT 28 [.ptr (some (w,0))] g Qf:=by
 refine w28 ⟨_,hw.sheet.1,hw.sheet.2,_,_,_,rfl,methText,pageText_ok hw.2.1 hl ⟨b,(by omega:b.length≤1099511627776),rfl,Br_iff.2 ⟨λh=>?_,λh=>?_⟩⟩⟩
 ·rw[cut,show Nat.blt 8192 b.length=true by have:=of_decide_eq_true h;exact Nat.ble_eq_true_of_le (by omega)] at hQ
  exact hQ
 ·rw[cut,show Nat.blt 8192 b.length=false by have:=of_decide_eq_false h;exact Bool.eq_false_iff.2 λe=>by have:=Nat.le_of_ble_eq_true e;omega] at hQ
  exact hQ
end
end Go.Proofs.YtmlghadphdpbjaaGreatDoor.Pa
