/- What functions of the program do, printed by wip/tools/sx/sx.py. The document's parser: programs. The program's parser: programs; its deferred call. The program's parser: what it answers. -/
import Derived.Test.YtmlghadphdpbjaaGreatDoorRN
set_option linter.all false
set_option autoImplicit false
set_option maxRecDepth 100000
namespace Go.Proofs.YtmlghadphdpbjaaGreatDoor.Pa
open Go Go.Proofs.YtmlghadphdpbjaaGreatDoor.Am
def lo17:List CutI:=[]
theorem w17{s0:List UInt8}{g:Glob}{Qf:OGP}(h0:s0.length≤2^40)
 (h:EvF TT 36 [.str s0] g (KQ Qf λv g'=>∃x,HasTy TT 80 x∧∃n n_1,RetT v [x,.int .i64 n,.int .i64 n_1]∧Br (n_1 !=0) (Qf (.val (.tuple [.d (.agg [.nil,.int .i64 0,.str [],.str [],.int .i64 0,.nil,.nil,.int .i64 0]),.d (.int .i64 n),.d (.int .i64 n_1)])) g') (EvF TT 37 [x,.int .i64 (↑s0.length:Int)] g' (KQ Qf λv g'=>∃x,HasTy TT 44 x∧∃n n_2,RetT v [x,.int .i64 n,.int .i64 n_2]∧Br (n_2==0) (EvF TT 38 [x] g' (KQ Qf λv g'=>∃n,v=.d (.int .i64 n)∧Br (n !=0) (Qf (.val (.tuple [.d (.agg [.nil,.int .i64 0,.str [],.str [],.int .i64 0,.nil,.nil,.int .i64 0]),.d (.int .i64 0),.d (.int .i64 n)])) g') (Qf (.val (.tuple [.d (.agg [fld x 0,.int .i64 (intOf (fld x 1)),.str (strOf (fld x 2)),.str (strOf (fld x 3)),.int .i64 (intOf (fld x 4)),fld x 5,fld x 6,.int .i64 (intOf (fld x 7))]),.d (.int .i64 0),.d (.int .i64 0)])) g'))) (Br (n_2 !=0) (Qf (.val (.tuple [.d (.agg [.nil,.int .i64 0,.str [],.str [],.int .i64 0,.nil,.nil,.int .i64 0]),.d (.int .i64 n),.d (.int .i64 n_2)])) g') (Qf (.val (.tuple [.d (.agg [fld x 0,.int .i64 (intOf (fld x 1)),.str (strOf (fld x 2)),.str (strOf (fld x 3)),.int .i64 (intOf (fld x 4)),fld x 5,fld x 6,.int .i64 (intOf (fld x 7))]),.d (.int .i64 0),.d (.int .i64 0)])) g')))))):
 EvF TT 17 [.str s0] g Qf:=
 sx_fun (rk:=rk) (fn:=Tryz.f17) (loops:=lo17) (joins:=[]) (n:=100000) (args:=[(9,.str s0)]) rfl rfl rfl rfl ⟨tyStr rfl h0,trivial⟩ (by kernel_rfl) h
def L37_3(p4:Nat)(p5:Nat)(p6:Nat)(p7:Nat)(g:Glob)(Qf:OGP):Prop:=CutP TT Tryz.f37 [1,1,1,0,0] Qf ({mkC TT 37 Tryz.f37 2 [(4,.v 0 (.ptr (some (p4,0)))),(5,.v 0 (.ptr (some (p5,0)))),(6,.v 0 (.ptr (some (p6,0)))),(7,.v 114 (.ptr (some (p7,0))))] [] g with defs:=[(76,[.ptr (some (p4,0)),.ptr (some (p5,0)),.ptr (some (p6,0))])],pin:=[(4,p4,0),(5,p5,0),(6,p6,0)]})
def lo37:List CutI:=[⟨3,[(4,.keep),(5,.keep),(6,.keep),(7,.keep)],[]⟩]
theorem w37{x0:Dat}{n1:Int}{g:Glob}{Qf:OGP}(h0:HasTy TT 80 x0)
 (h:L37_3 g.boxes.length (gnew g [.nil,.int .i64 0,.str [],.str [],.int .i64 0,.nil,.nil,.int .i64 0]).boxes.length (gnew (gnew g [.nil,.int .i64 0,.str [],.str [],.int .i64 0,.nil,.nil,.int .i64 0]) [.int .i64 0]).boxes.length (gnew (gnew (gnew g [.nil,.int .i64 0,.str [],.str [],.int .i64 0,.nil,.nil,.int .i64 0]) [.int .i64 0]) [.int .i64 0]).boxes.length (gnew (gnew (gnew (gnew g [.nil,.int .i64 0,.str [],.str [],.int .i64 0,.nil,.nil,.int .i64 0]) [.int .i64 0]) [.int .i64 0]) [x0,.int .i64 (intOf (.int .i64 0)),.int .i64 (intOf (.int .i64 n1))]) Qf):
 EvF TT 37 [x0,.int .i64 n1] g Qf:=
 sx_fun (rk:=rk) (fn:=Tryz.f37) (loops:=lo37) (joins:=[]) (n:=100000) (args:=[(80,x0),(3,.int .i64 n1)]) rfl rfl rfl rfl ⟨h0,tyInt rfl,trivial⟩ (by kernel_rfl) h
theorem w37_3{p4:Nat}{p5:Nat}{p6:Nat}{p7:Nat}{g:Glob}{Qf:OGP}
 (h:EvF TT 77 [.ptr (some (p7,0)),.str [116,121,112,101]] g λout g'=>Outc (λx=>DefQ TT [(76,[.ptr (some (p4,0)),.ptr (some (p5,0)),.ptr (some (p6,0))])] [(44,p4,0),(3,p5,0),(32,p6,0)] (some x) g' Qf) (λv=>∃b,v=.d (.bool b)∧Br b (∃x,HasTy TT 42 x∧GOk TT 42 g' p4 0 x∧EvF TT 78 [.ptr (some (p7,0))] g' λout g'_1=>Outc (λx=>GSame TT 42 p4 0 g' g'∧DefQ TT [(76,[.ptr (some (p4,0)),.ptr (some (p5,0)),.ptr (some (p6,0))])] [(44,p4,0),(3,p5,0),(32,p6,0)] (some x) g'_1 Qf) (λv=>∃x_1,HasTy TT 50 x_1∧v=.d x_1∧GSame TT 42 p4 0 g' g'_1∧GSame TT 42 p4 0 g'_1 (gtok g'_1 4 1)∧Fits ((elsOf x).length+[x_1].length) 72∧∃r g',gapp 4 x [x_1] (gtok g'_1 4 1)=some (r,g')∧GPut g' p4 0 1∧L37_3 p4 p5 p6 p7 (gput g' p4 0 r) Qf) out) (EvF TT 79 [.ptr (some (p7,0))] g' λout g'=>Outc (λx=>DefQ TT [(76,[.ptr (some (p4,0)),.ptr (some (p5,0)),.ptr (some (p6,0))])] [(44,p4,0),(3,p5,0),(32,p6,0)] (some x) g' Qf) (λv=>∃x,HasTy TT 25 x∧v=.d x∧GPut g' p4 1 7∧∃n,GOk TT 3 (gput g' p4 1 x) p7 1 (.int .i64 n)∧∃x_1,HasTy TT 80 x_1∧GOk TT 80 (gput g' p4 1 x) p7 0 x_1∧EvF TT 80 [.ptr (some (p7,0)),.bool (n==(↑(elsOf x_1).length:Int))] (gput g' p4 1 x) λout g'=>Outc (λx=>DefQ TT [(76,[.ptr (some (p4,0)),.ptr (some (p5,0)),.ptr (some (p6,0))])] [(44,p4,0),(3,p5,0),(32,p6,0)] (some x) g' Qf) (λv=>RetT v []∧∃x,HasTy TT 44 x∧GOk TT 44 g' p4 0 x∧GPut g' p4 0 8∧GPut (gput g' p4 0 x) p5 0 1∧GPut (gput (gput g' p4 0 x) p5 0 (.int .i64 0)) p6 0 1∧DefQ TT [(76,[.ptr (some (p4,0)),.ptr (some (p5,0)),.ptr (some (p6,0))])] [(44,p4,0),(3,p5,0),(32,p6,0)] none (gput (gput (gput g' p4 0 x) p5 0 (.int .i64 0)) p6 0 (.int .i64 0)) Qf) out) out)) out):
 L37_3 p4 p5 p6 p7 g Qf:=sx_cut (rk:=rk) (loops:=lo37) (joins:=[]) (n:=100000) (by kernel_rfl) h
end Go.Proofs.YtmlghadphdpbjaaGreatDoor.Pa
namespace Go.Proofs.YtmlghadphdpbjaaGreatDoor.Pa
open Go Go.Proofs.YtmlghadphdpbjaaGreatDoor.Am
variable{V:Env}{g g0 g1:Glob}{r:List Pk}{Qf Qi:Out→Glob→Prop}{α β γ:Type}{f:Option Int}{p:Int}
def pgD(d e:Dat):Dat:=.agg [d,.int .i64 (intOf (fld e 0)),.str (strOf (fld e 1)),.str (strOf (fld e 2)),.int .i64 (intOf (fld e 3)),fld e 4,fld e 5,.int .i64 (intOf (fld e 6))]
def zPg:Dat:=.agg [.nil,.int .i64 0,.str [],.str [],.int .i64 0,.nil,.nil,.int .i64 0]
theorem pgD_ty{d e:Dat}(hd:HasTy TT 42 d)(he:HasTy TT 25 e):HasTy TT 44 (pgD d e):=by
 obtain⟨k,s,u,n,a,b,p,rfl,hs,hu,ha,hb⟩:=ex_inv he
 exact ty_prog hd he
theorem pgD_abs{d e:Dat}(he:HasTy TT 25 e):absPg (pgD d e)=⟨(elsOf d).map absDc,absEx e⟩:=by
 obtain⟨k,s,u,n,a,b,p,rfl,hs,hu,ha,hb⟩:=ex_inv he
 rfl
theorem zPg_ty:HasTy TT 44 zPg:=ty_prog nil_decls zExD
def ansT(d:Dat)(p e:Int):Val:=.tuple [.d d,.d (.int .i64 p),.d (.int .i64 e)]
end Go.Proofs.YtmlghadphdpbjaaGreatDoor.Pa
namespace Go.Proofs.YtmlghadphdpbjaaGreatDoor.Pa
open Go Go.Proofs.YtmlghadphdpbjaaGreatDoor.Am
variable{V:Env}{g g0 g1:Glob}{r:List Pk}{Qf Qi:Out→Glob→Prop}{α β γ:Type}{p:Int}
noncomputable def c98:Code:=match recovers (bodyOf Tryz.f76) with|some (_,c)=>c|none=>.skip
theorem dfNone{p0 p1 p2:Nat}{g:Glob}{K:Option Dat→Glob→Prop}(h:K none g):EvL TT [(76,[.ptr (some (p0,0)),.ptr (some (p1,0)),.ptr (some (p2,0))])] none g K:=
 sx_def (rk:=rk) (fn:=Tryz.f76) (c':=c98) (loops:=[]) (joins:=[]) (n:=100000) (d:=6) (t:=20) (args:=[(0,.ptr (some (p0,0))),(0,.ptr (some (p1,0))),(0,.ptr (some (p2,0)))]) rfl rfl (by kernel_rfl) (Nat.le_of_ble_eq_true (by kernel_rfl)) (by kernel_rfl) rfl
  ⟨.ptr _ _ (by kernel_rfl),.ptr _ _ (by kernel_rfl),.ptr _ _ (by kernel_rfl),trivial⟩ (.nilIface _ (by kernel_rfl)) (cast (by kernel_rfl) h)
theorem faultTy{n:Int}:HasTy TT 113 (.agg [.int .i64 n]):=struct_of (tys:=[3]) (by kernel_rfl) (by kernel_rfl) (by kernel_rfl) ⟨ty_int,trivial⟩
theorem dfSome{p0 p1 p2:Nat}{n:Int}{g:Glob}{K:Option Dat→Glob→Prop}
 (h:GPut g p0 0 8∧GPut (gput g p0 0 zPg) p1 0 1∧GPut (gput (gput g p0 0 zPg) p1 0 (Dat.int IntKind.i64 n)) p2 0 1∧K none (gput (gput (gput g p0 0 zPg) p1 0 (Dat.int IntKind.i64 n)) p2 0 (Dat.int IntKind.i64 120))):
 EvL TT [(76,[.ptr (some (p0,0)),.ptr (some (p1,0)),.ptr (some (p2,0))])] (some (faultD n)) g K:=
 sx_def (rk:=rk) (fn:=Tryz.f76) (c':=c98) (loops:=[]) (joins:=[]) (n:=100000) (d:=6) (t:=20) (args:=[(0,.ptr (some (p0,0))),(0,.ptr (some (p1,0))),(0,.ptr (some (p2,0)))]) rfl rfl (by kernel_rfl) (Nat.le_of_ble_eq_true (by kernel_rfl)) (by kernel_rfl) rfl
  ⟨.ptr _ _ (by kernel_rfl),.ptr _ _ (by kernel_rfl),.ptr _ _ (by kernel_rfl),trivial⟩ (.iface _ _ _ (by kernel_rfl) faultTy) (cast (by kernel_rfl) h)
end Go.Proofs.YtmlghadphdpbjaaGreatDoor.Pa
namespace Go.Proofs.YtmlghadphdpbjaaGreatDoor.Pa
open Go Go.Proofs.YtmlghadphdpbjaaGreatDoor.Am
variable{V:Env}{g g0 g1:Glob}{r:List Pk}{Qf Qi:Out→Glob→Prop}{α β γ:Type}{p:Int}{p4 p5 p6:Nat}
theorem progUnd:∃D,TT.und 44=some D∧isAggD D=true:=by
 have h:isAgg? (TT.und 44)=true:=by kernel_rfl
 cases e:TT.und 44 with
 |none=>rw[e] at h;cases h
 |some D=>exact⟨D,rfl,by rw[e] at h;cases D<;>first|rfl|cases h⟩
theorem progSize:TT.size 44=some 8:=by kernel_rfl
theorem undErrno:TT.und 32=some (.int .i64):=by kernel_rfl
theorem sizeErrno:TT.size 32=some 1:=by kernel_rfl
theorem gload8{i:Nat}{d0 d1 d2 d3 d4 d5 d6 d7:Dat}(hb:g.boxes[i]?=some (.cells [.d d0,.d d1,.d d2,.d d3,.d d4,.d d5,.d d6,.d d7])):gload TT 44 g i 0=some (.d (.agg [d0,d1,d2,d3,d4,d5,d6,d7])):=by
 obtain⟨D,hu,ha⟩:=progUnd
 simp only[gload,hb,loadV,hu,progSize,ha,if_true]
 rfl
theorem gload1{i o n:Nat}{cs:List GVal}{x:Dat}{t:TypeId}{d:TypeDesc}(hu:TT.und t=some d)(hs:TT.size t=some n)(ha:isAggD d=false)(hb:g.boxes[i]?=some (.cells cs))(hc:cs[o]?=some (.d x)):gload TT t g i o=some (.d x):=by
 simp only[gload,hb,loadV,hu,hs,ha,Bool.false_eq_true,if_false,List.head?_map,List.head?_drop,hc]
 rfl
abbrev ds98(p4 p5 p6:Nat):List (FuncId×List Dat):=[(76,[.ptr (some (p4,0)),.ptr (some (p5,0)),.ptr (some (p6,0))])]
abbrev pl98(p4 p5 p6:Nat):List (TypeId×Nat×Nat):=[(44,p4,0),(3,p5,0),(32,p6,0)]
structure R3(g:Glob)(p4 p5 p6:Nat)(d:List Dat)(a b:Int):Prop where
 b4:g.boxes[p4]?=some (.cells (d.map .d))
 b5:g.boxes[p5]?=some (.cells [.d (.int .i64 a)])
 b6:g.boxes[p6]?=some (.cells [.d (.int .i64 b)])
 n45:p4≠p5
 n46:p4≠p6
 n56:p5≠p6
theorem R3.pin{d0 d1 d2 d3 d4 d5 d6 d7:Dat}{a b:Int}(h:R3 g p4 p5 p6 [d0,d1,d2,d3,d4,d5,d6,d7] a b):pinVal TT (pl98 p4 p5 p6) g=some (ansT (.agg [d0,d1,d2,d3,d4,d5,d6,d7]) a b):=by
 simp only[pinVal,pl98,List.map_cons,List.map_nil,gload8 h.b4,gload1 (o:=0) (x:=.int .i64 a) undInt sizeInt rfl h.b5 rfl,gload1 (o:=0) (x:=.int .i64 b) undErrno sizeErrno rfl h.b6 rfl,optAll,Val.toD,Option.map_some,ansT]
theorem putLt{i:Nat}{b c:GBox}(h:g.boxes[i]?=some b):(g.boxes.set i c)[i]?=some c:=List.getElem?_set_self (List.getElem?_eq_some_iff.1 h).1
theorem R3.put{d:List Dat}{a b:Int}{d0 d1 d2 d3 d4 d5 d6 d7:Dat}(hd:d.length=8)(h:R3 g p4 p5 p6 d a b)(a' b':Int):
 GPut g p4 0 8∧GPut (gput g p4 0 (.agg [d0,d1,d2,d3,d4,d5,d6,d7])) p5 0 1∧GPut (gput (gput g p4 0 (.agg [d0,d1,d2,d3,d4,d5,d6,d7])) p5 0 (.int .i64 a')) p6 0 1∧
  R3 (gput (gput (gput g p4 0 (.agg [d0,d1,d2,d3,d4,d5,d6,d7])) p5 0 (.int .i64 a')) p6 0 (.int .i64 b')) p4 p5 p6 [d0,d1,d2,d3,d4,d5,d6,d7] a' b':=by
 match d,hd,h with
 |[x0,x1,x2,x3,x4,x5,x6,x7],_,h=>
  have e1:gput g p4 0 (.agg [d0,d1,d2,d3,d4,d5,d6,d7])={g with boxes:=g.boxes.set p4 (.cells [.d d0,.d d1,.d d2,.d d3,.d d4,.d d5,.d d6,.d d7])}:=by
   simp only[gput,h.b4]
   rfl
  rw[e1]
  have h5:({g with boxes:=g.boxes.set p4 (.cells [.d d0,.d d1,.d d2,.d d3,.d d4,.d d5,.d d6,.d d7])}:Glob).boxes[p5]?=some (.cells [.d (.int .i64 a)]):=by
   simp only[List.getElem?_set_ne h.n45]
   exact h.b5
  have e2:=gput1 (o:=0) (k:=.i64) (n:=a') h5
  rw[e2]
  have h6:({boxes:=(g.boxes.set p4 (.cells [.d d0,.d d1,.d d2,.d d3,.d d4,.d d5,.d d6,.d d7])).set p5 (.cells (([.d (.int .i64 a)]:List GVal).set 0 (.d (.int .i64 a')))),toks:=g.toks}:Glob).boxes[p6]?=some (.cells [.d (.int .i64 b)]):=by
   simp only[List.getElem?_set_ne h.n56,List.getElem?_set_ne h.n46]
   exact h.b6
  have e3:=gput1 (o:=0) (k:=.i64) (n:=b') h6
  refine⟨⟨_,h.b4,by simp⟩,⟨_,h5,by simp⟩,⟨_,h6,by simp⟩,?_⟩
  rw[e3]
  refine⟨?_,?_,?_,h.n45,h.n46,h.n56⟩
  ·simp only[List.getElem?_set_ne (Ne.symm h.n46),List.getElem?_set_ne (Ne.symm h.n45)]
   exact putLt h.b4
  ·simp only[List.getElem?_set_ne (Ne.symm h.n56)]
   exact putLt h5
  ·exact putLt h6
theorem defBad{d:List Dat}{a b n:Int}(hd:d.length=8)(h:R3 g p4 p5 p6 d a b)(hQ:∀g',Qf (.val (ansT zPg n 120)) g'):DefQ TT (ds98 p4 p5 p6) (pl98 p4 p5 p6) (some (faultD n)) g Qf:=by
 obtain⟨h1,h2,h3,h4⟩:=h.put (d0:=.nil) (d1:=.int .i64 0) (d2:=.str []) (d3:=.str []) (d4:=.int .i64 0) (d5:=.nil) (d6:=.nil) (d7:=.int .i64 0) hd n 120
 exact dfSome ⟨h1,h2,h3,_,h4.pin,hQ _⟩
theorem defOk{d0 d1 d2 d3 d4 d5 d6 d7:Dat}{a b:Int}(h:R3 g p4 p5 p6 [d0,d1,d2,d3,d4,d5,d6,d7] a b)(hQ:Qf (.val (ansT (.agg [d0,d1,d2,d3,d4,d5,d6,d7]) a b)) g):DefQ TT (ds98 p4 p5 p6) (pl98 p4 p5 p6) none g Qf:=
 dfNone ⟨_,h.pin,hQ⟩
def PrEnd(Qf:OGP):Res Pg→Prop
 |.ok v _=>∀d g',absPg d=v→HasTy TT 44 d→Qf (.val (ansT d 0 0)) g'
 |.bad p=>∀g',Qf (.val (ansT zPg p 120)) g'
 |.oof=>False
theorem R3.nx{d:List Dat}{a b:Int}(h:R3 g p4 p5 p6 d a b)(k4:p4≠V.p)(k5:p5≠V.p)(k6:p6≠V.p)(hn:Nx V g g1):R3 g1 p4 p5 p6 d a b:=
 ⟨(hn.1 _ k4).trans h.b4,(hn.1 _ k5).trans h.b5,(hn.1 _ k6).trans h.b6,h.n45,h.n46,h.n56⟩
theorem R3.bx{d:List Dat}{a b:Int}(h:R3 g p4 p5 p6 d a b)(e:g1.boxes=g.boxes):R3 g1 p4 p5 p6 d a b:=
 ⟨by rw[e];exact h.b4,by rw[e];exact h.b5,by rw[e];exact h.b6,h.n45,h.n46,h.n56⟩
theorem undDeclsSize:TT.size 42=some 1:=by kernel_rfl
theorem gsame{i:Nat}{x:Dat}{d:List Dat}{g':Glob}(h:g.boxes[i]?=some (.cells ((x::d).map .d)))(h':g'.boxes[i]?=some (.cells ((x::d).map .d))):GSame TT 42 i 0 g g':=
 ⟨.d x,.d x,gload1 undDecls undDeclsSize rfl h rfl,gload1 undDecls undDeclsSize rfl h' rfl,Dat.beq_refl x⟩
def z7:List Dat:=[.int .i64 0,.str [],.str [],.int .i64 0,.nil,.nil,.int .i64 0]
theorem pprog(hV:V.Ok)(k4:p4≠V.p)(k5:p5≠V.p)(k6:p6≠V.p):∀(n:Nat) {g:Glob} {r:List Pk} {x:Dat},PSt V g r→R3 g p4 p5 p6 (x::z7) 0 0→HasTy TT 42 x→Lv 0 g 4 x→(elsOf x).length+r.length≤5000→
 PrEnd Qf (gProg V.en n ((elsOf x).map absDc) r)→L37_3 p4 p5 p6 V.p g Qf
 |0,g,r,x,_,_,_,_,_,hQ=>by simp[gProg,PrEnd] at hQ
 |n+1,g,r,x,hst,hR,hx,hl,hlen,hQ=>by
  rw[gProg] at hQ
  refine w37_3 (pkey hV hst (by decide) ⟨_,rfl,?_⟩)
  cases q:isK' 5 kType r with
  |true=>
   rw[if_pos q] at hQ
   refine Br_of q ⟨x,hx,gok undDecls undDeclsSize rfl hR.b4 rfl,pdecl hV (n:=n) hst ?_⟩
   cases hres:gDecl V.en n r with
   |oof=>rw[hres] at hQ;exact hQ
   |bad p=>
    rw[hres] at hQ
    exact λg' h1=>⟨gsame hR.b4 hR.b4,defBad rfl (hR.nx k4 k5 k6 h1) hQ⟩
   |ok v r'=>
    rw[hres] at hQ
    have l1:=gDecl_len hres
    refine λd g' hd ht h1 h2=>?_
    have hR1:=hR.nx k4 k5 k6 h2
    obtain⟨d2,g3,e1,e2,⟨k2,e3⟩,hl2,hn2,hbx,_⟩:=papp0 (V:=V) (g0:={g with toks:=[]}) (g:=g') (m:=4) (x:=x) (y:=d) ⟨λi hi=>h2.1 i hi,g'.toks,rfl⟩ (hl.nx h2)
    have hR2:=hR1.bx hbx
    have ht2:HasTy TT 42 d2:=by
     rw[e3]
     exact ty_gsl undDecls zDc bDc (by decide) (by rw[List.length_append,List.length_singleton];omega) (all_snoc (dc_els hx) ht)
    refine⟨d,ht,rfl,gsame hR.b4 hR1.b4,gsame hR1.b4 (g':=gtok g' 4 1) hR1.b4,fit20 (by decide) (by show(elsOf x).length+1≤_;omega),d2,g3,e1,⟨_,hR2.b4,by simp⟩,?_⟩
    have hone:d2.cells=[d2]:=by rw[e3];rfl
    have e4:gput g3 p4 0 d2={g3 with boxes:=g3.boxes.set p4 (.cells ((d2::z7).map .d))}:=by
     simp only[gput,hR2.b4,hone]
     rfl
    rw[e4]
    refine pprog (r:=r') hV k4 k5 k6 n ?_ ⟨putLt hR2.b4,?_,?_,hR.n45,hR.n46,hR.n56⟩ ht2 hl2 ?_ ?_
    ·obtain⟨pre,x1,x2⟩:=h1
     exact⟨pre,x1,by simp only[List.getElem?_set_ne k4,hbx];exact x2⟩
    ·simp only[List.getElem?_set_ne hR.n45];exact hR2.b5
    ·simp only[List.getElem?_set_ne hR.n46];exact hR2.b6
    ·rw[e2,List.length_append,List.length_singleton]
     omega
    ·rw[e2,List.map_append,List.map_cons,List.map_nil,hd]
     exact hQ
  |false=>
   rw[if_neg (by rw[q];simp)] at hQ
   refine Br_no q ((exP hV n).ex hst ?_)
   cases hres:gEx V.en n r with
   |oof=>rw[hres] at hQ;exact hQ
   |bad p=>
    rw[hres] at hQ
    exact λg' h1=>defBad rfl (hR.nx k4 k5 k6 h1) hQ
   |ok v r'=>
    rw[hres] at hQ
    have hQ:PrEnd Qf (if r'.isEmpty then .ok ⟨(elsOf x).map absDc,v⟩ r' else .bad (plK V.en r')):=hQ
    refine λd g' hd ht h1 h2=>⟨d,ht,rfl,?_⟩
    have hR1:=hR.nx k4 k5 k6 h2
    have hp:=pgD_ty hx ht
    have ha:=pgD_abs (d:=x) ht
    obtain⟨k,s,u,m,a,b,q,rfl,hs,hu,ta,tb⟩:=ex_inv ht
    have e4:gput g' p4 1 (exD k s u m a b q)={g' with boxes:=g'.boxes.set p4 (.cells (([x,.int .i64 k,.str s,.str u,.int .i64 m,a,b,.int .i64 q]:List Dat).map .d))}:=by
     simp only[gput,hR1.b4]
     rfl
    rw[e4]
    obtain⟨pre,x1,x2⟩:=h1
    have hst2:({g' with boxes:=g'.boxes.set p4 (.cells (([x,.int .i64 k,.str s,.str u,.int .i64 m,a,b,.int .i64 q]:List Dat).map .d))}:Glob).boxes[V.p]?=some (pBox V pre.length):=by
     simp only[List.getElem?_set_ne k4];exact x2
    have hR2:R3 {g' with boxes:=g'.boxes.set p4 (.cells (([x,.int .i64 k,.str s,.str u,.int .i64 m,a,b,.int .i64 q]:List Dat).map .d))} p4 p5 p6 [x,.int .i64 k,.str s,.str u,.int .i64 m,a,b,.int .i64 q] 0 0:=
     ⟨putLt hR1.b4,by simp only[List.getElem?_set_ne hR.n45];exact hR1.b5,by simp only[List.getElem?_set_ne hR.n46];exact hR1.b6,hR.n45,hR.n46,hR.n56⟩
    have hlx:(elsOf V.x).length=pre.length+r'.length:=by rw[hV.els,List.length_map,x1,List.length_append]
    refine⟨⟨_,hR1.b4,by simp[z7]⟩,pre.length,gokInt hst2 rfl,V.x,hV.ty,gok undToks sizeToks rfl hst2 rfl,?_⟩
    rw[hlx]
    refine pwant hV ⟨pre,x1,hst2⟩ (λhw=>⟨trivial,?_⟩) (λhw=>?_)
    ·have hr0:r'=[]:=by
      have:pre.length+r'.length=pre.length:=by
       have:=(beq_iff_eq.1 hw)
       omega
      exact List.eq_nil_of_length_eq_zero (by omega)
     subst hr0
     obtain⟨w1,w2,w3,w4⟩:=hR2.put (d0:=x) (d1:=.int .i64 k) (d2:=.str s) (d3:=.str u) (d4:=.int .i64 m) (d5:=a) (d6:=b) (d7:=.int .i64 q) rfl 0 0
     exact⟨_,hp,⟨_,gload8 hR2.b4,rfl,rfl⟩,w1,w2,w3,defOk w4 (hQ _ _ (by rw[←hd];exact ha) hp)⟩
    ·have hr0:r'≠[]:=by
      rintro rfl
      simp at hw
     have hQ:PrEnd Qf (.bad (plK V.en r')):=by
      cases r' with
      |nil=>exact absurd rfl hr0
      |cons t r'=>exact hQ
     exact defBad rfl hR2 hQ
theorem parsed_ok{x:Dat}{ts:List Pk}{en:Int}(hx:elsOf x=ts.map pkD)(ht:HasTy TT 80 x)(hlen:ts.length≤4096)(hg:∀t∈ts,GoodTk t)(he:0≤en){n:Nat}(hQ:PrEnd Qf (gProg en n [] ts)):EvF TT 37 [x,.int .i64 en] g Qf:=by
 refine w37 ht ?_
 try simp only[gnew,List.map_cons,List.map_nil]
 have hl1:(g.boxes++[GBox.cells [GVal.d Dat.nil,GVal.d (Dat.int IntKind.i64 0),GVal.d (Dat.str []),GVal.d (Dat.str []),GVal.d (Dat.int IntKind.i64 0),GVal.d Dat.nil,GVal.d Dat.nil,GVal.d (Dat.int IntKind.i64 0)]]).length=g.boxes.length+1:=by simp
 have hl2:(g.boxes++[GBox.cells [GVal.d Dat.nil,GVal.d (Dat.int IntKind.i64 0),GVal.d (Dat.str []),GVal.d (Dat.str []),GVal.d (Dat.int IntKind.i64 0),GVal.d Dat.nil,GVal.d Dat.nil,GVal.d (Dat.int IntKind.i64 0)]]++[GBox.cells [GVal.d (Dat.int IntKind.i64 0)]]).length=g.boxes.length+2:=by simp
 have hl3:(g.boxes++[GBox.cells [GVal.d Dat.nil,GVal.d (Dat.int IntKind.i64 0),GVal.d (Dat.str []),GVal.d (Dat.str []),GVal.d (Dat.int IntKind.i64 0),GVal.d Dat.nil,GVal.d Dat.nil,GVal.d (Dat.int IntKind.i64 0)]]++[GBox.cells [GVal.d (Dat.int IntKind.i64 0)]]++[GBox.cells [GVal.d (Dat.int IntKind.i64 0)]]).length=g.boxes.length+3:=by simp
 rw[hl1,hl2,hl3]
 refine pprog (V:=⟨g.boxes.length+3,x,ts,en⟩) ⟨hx,ht,hlen,hg,he⟩ (by show g.boxes.length≠_+3;omega) (by show g.boxes.length+1≠_+3;omega) (by show g.boxes.length+2≠_+3;omega) n (x:=.nil) (r:=ts) ⟨[],rfl,?_⟩ ⟨?_,?_,?_,by omega,by omega,by omega⟩ nil_decls (.inl rfl) (by show 0+_≤_;omega) hQ
 ·simp only[List.append_assoc,List.cons_append,List.nil_append]
  rw[List.getElem?_append_right (by omega)]
  simp only[Nat.add_sub_cancel_left]
  rfl
 ·simp only[List.append_assoc,List.cons_append,List.nil_append]
  rw[List.getElem?_append_right (by omega)]
  simp only[Nat.sub_self]
  rfl
 ·simp only[List.append_assoc,List.cons_append,List.nil_append]
  rw[List.getElem?_append_right (by omega)]
  simp only[Nat.add_sub_cancel_left]
  rfl
 ·simp only[List.append_assoc,List.cons_append,List.nil_append]
  rw[List.getElem?_append_right (by omega)]
  simp only[Nat.add_sub_cancel_left]
  rfl
end Go.Proofs.YtmlghadphdpbjaaGreatDoor.Pa
