/- What functions of the program do, printed by wip/tools/sx/sx.py. Useful: the document's asking: how rows are turned, which constructors there are. Useful: the document's asking. -/
import Derived.Test.YtiheejdkkjfenaaGreatDoorSH
set_option linter.all false
set_option autoImplicit false
set_option maxRecDepth 100000
namespace Go.Proofs.YtiheejdkkjfenaaGreatDoor.Pa
open Go Go.Proofs.YtiheejdkkjfenaaGreatDoor.Am
variable{x0 x1 x2 x8 y3 y5:Dat}{g:Glob}{Qf:OGP}{n0 n10 n11 n12 n2 n3 n4 n6 n7 n8 n9:Int}{l3 l5 l7:List Dat}{s1:List UInt8}{b1 b10 b16:Bool}{p0:Nat}
theorem w234(h0:Ha TT 52 x0)
 (h:Br (intOf (fld x0 0)==1) (Qf (.val (.d (.bool true))) g) (Qf (.val (.d (.bool (intOf (fld x0 0)==2)))) g)):
 EvF TT 234 [x0] g Qf:=
 sF Tryz.f234 [] [(52,x0)] ⟨h0,trivial⟩ h
def L219_3(n0:Int)(x1:Dat)(l5:List Dat)(n6:Int)(g:Glob)(Qf:OGP):=LC 219 Tryz.f219 [1,1,0,1,0] Qf 2 [(0,iv n0),(1,.v 24 (x1)),(5,.acc [(15,0)] 24 5 l5),(6,iv n6)] [] g
def lo219:List CuI:=[⟨3,[K 0,K 1,(5,.acc [15]),K 6],[]⟩]
theorem w219(h1:Ha TT 24 x1)
 (h:L219_3 n0 x1 [] 0 g Qf):
 EvF TT 219 [.int .i64 n0,x1] g Qf:=
 sF Tryz.f219 lo219 [(3,.int .i64 n0),(24,x1)] ⟨tyI rfl,h1,trivial⟩ h
theorem w219_3
 (h:Br (decide (n6<n0)) (Fits (l5.length+1) 64∧L219_3 n0 x1 (l5++[Dat.agg [.int .i64 1,.str [],.int .i64 0,.nil,.int .i64 0]]) (IntKind.i64.wrap (n6+1)) g Qf) (Fits (l5.length+(elO x1).length) 64∧Qf (.val (rf 5 (l5++elO x1))) g)):
 L219_3 n0 x1 l5 n6 g Qf:=sC lo219 h
def L216_3(x0:Dat)(s1:List UInt8)(n2:Int)(l7:List Dat)(n8:Int)(g:Glob)(Qf:OGP):=LC 216 Tryz.f216 [1,1,0,1,0] Qf 3 [(0,.v 86 (x0)),(1,.v 9 (.str s1)),(2,iv n2),(7,.acc [(51,0),(64,0)] 86 1 l7),(8,iv n8)] [] g
def lo216:List CuI:=[⟨3,[K 0,K 1,K 2,(7,.acc [51,64]),K 8],[]⟩]
theorem w216(h0:Ha TT 86 x0)(h1:s1.length≤2^40)
 (h:L216_3 x0 s1 n2 [] 0 g Qf):
 EvF TT 216 [x0,.str s1,.int .i64 n2] g Qf:=
 sF Tryz.f216 lo216 [(86,x0),(9,.str s1),(3,.int .i64 n2)] ⟨h0,tyt rfl h1,tyI rfl,trivial⟩ h
theorem w216_3
 (h:Br (decide (n8<((elO x0).length:Int))) (InB n8 (elO x0).length∧InB 0 (elO (fld (gtE (elO x0) n8) 0)).length∧Br (intOf (fld (gtE (elO (fld (gtE (elO x0) n8) 0)) 0) 0)==4) (Br (strOf (fld (gtE (elO (fld (gtE (elO x0) n8) 0)) 0) 1)==s1) (Br (((elO (fld (gtE (elO (fld (gtE (elO x0) n8) 0)) 0) 3)).length:Int)==n2) (Fits (0+(elO (fld (gtE (elO (fld (gtE (elO x0) n8) 0)) 0) 3)).length) 64∧InB n8 (elO x0).length∧InS 1 ((elO (fld (gtE (elO x0) n8) 0)).length:Int) (elO (fld (gtE (elO x0) n8) 0)).length∧Fits (([]++elO (fld (gtE (elO (fld (gtE (elO x0) n8) 0)) 0) 3)).length+(elO (.sl 5 (List.drop 1 (List.take ((elO (fld (gtE (elO x0) n8) 0)).length:Int).toNat (elO (fld (gtE (elO x0) n8) 0)))))).length) 64∧Fits (l7.length+[Dat.sl 5 ([]++elO (fld (gtE (elO (fld (gtE (elO x0) n8) 0)) 0) 3)++elO (.sl 5 (List.drop 1 (List.take ((elO (fld (gtE (elO x0) n8) 0)).length:Int).toNat (elO (fld (gtE (elO x0) n8) 0))))))].length) 24∧L216_3 x0 s1 n2 (l7++[Dat.sl 5 ([]++elO (fld (gtE (elO (fld (gtE (elO x0) n8) 0)) 0) 3)++elO (.sl 5 (List.drop 1 (List.take ((elO (fld (gtE (elO x0) n8) 0)).length:Int).toNat (elO (fld (gtE (elO x0) n8) 0))))))]) (IntKind.i64.wrap (n8+1)) g Qf) (EvF TT 234 [gtE (elO (fld (gtE (elO x0) n8) 0)) 0] g (KQ Qf λv g'=>∃b,v=.d (.bool b)∧Br b (InB n8 (elO x0).length∧InS 1 ((elO (fld (gtE (elO x0) n8) 0)).length:Int) (elO (fld (gtE (elO x0) n8) 0)).length∧EvF TT 219 [.int .i64 n2,.sl 5 (List.drop 1 (List.take ((elO (fld (gtE (elO x0) n8) 0)).length:Int).toNat (elO (fld (gtE (elO x0) n8) 0))))] g' (KQ Qf λv g'=>∃x,Ha TT 24 x∧Rt v x∧Fits (l7.length+[x].length) 24∧L216_3 x0 s1 n2 (l7++[x]) (IntKind.i64.wrap (n8+1)) g' Qf)) (L216_3 x0 s1 n2 l7 (IntKind.i64.wrap (n8+1)) g' Qf)))) (EvF TT 234 [gtE (elO (fld (gtE (elO x0) n8) 0)) 0] g (KQ Qf λv g'=>∃b,v=.d (.bool b)∧Br b (InB n8 (elO x0).length∧InS 1 ((elO (fld (gtE (elO x0) n8) 0)).length:Int) (elO (fld (gtE (elO x0) n8) 0)).length∧EvF TT 219 [.int .i64 n2,.sl 5 (List.drop 1 (List.take ((elO (fld (gtE (elO x0) n8) 0)).length:Int).toNat (elO (fld (gtE (elO x0) n8) 0))))] g' (KQ Qf λv g'=>∃x,Ha TT 24 x∧Rt v x∧Fits (l7.length+[x].length) 24∧L216_3 x0 s1 n2 (l7++[x]) (IntKind.i64.wrap (n8+1)) g' Qf)) (L216_3 x0 s1 n2 l7 (IntKind.i64.wrap (n8+1)) g' Qf)))) (EvF TT 234 [gtE (elO (fld (gtE (elO x0) n8) 0)) 0] g (KQ Qf λv g'=>∃b,v=.d (.bool b)∧Br b (InB n8 (elO x0).length∧InS 1 ((elO (fld (gtE (elO x0) n8) 0)).length:Int) (elO (fld (gtE (elO x0) n8) 0)).length∧EvF TT 219 [.int .i64 n2,.sl 5 (List.drop 1 (List.take ((elO (fld (gtE (elO x0) n8) 0)).length:Int).toNat (elO (fld (gtE (elO x0) n8) 0))))] g' (KQ Qf λv g'=>∃x,Ha TT 24 x∧Rt v x∧Fits (l7.length+[x].length) 24∧L216_3 x0 s1 n2 (l7++[x]) (IntKind.i64.wrap (n8+1)) g' Qf)) (L216_3 x0 s1 n2 l7 (IntKind.i64.wrap (n8+1)) g' Qf)))) (Qf (.val (rf 1 l7)) g)):
 L216_3 x0 s1 n2 l7 n8 g Qf:=sC lo216 h
def L217_3(x0:Dat)(b1:Bool)(n2:Int)(l7:List Dat)(n8:Int)(g:Glob)(Qf:OGP):=LC 217 Tryz.f217 [1,1,0,1,0] Qf 3 [(0,.v 86 (x0)),(1,.v 4 (.bool b1)),(2,iv n2),(7,.acc [(45,0)] 86 1 l7),(8,iv n8)] [] g
def lo217:List CuI:=[⟨3,[K 0,K 1,K 2,(7,.acc [45]),K 8],[]⟩]
theorem w217(h0:Ha TT 86 x0)
 (h:L217_3 x0 b1 n2 [] 0 g Qf):
 EvF TT 217 [x0,.bool b1,.int .i64 n2] g Qf:=
 sF Tryz.f217 lo217 [(86,x0),(4,.bool b1),(3,.int .i64 n2)] ⟨h0,tyl rfl,tyI rfl,trivial⟩ h
theorem w217_3
 (h:Br (decide (n8<((elO x0).length:Int))) (InB n8 (elO x0).length∧InB 0 (elO (fld (gtE (elO x0) n8) 0)).length∧EvF TT 234 [gtE (elO (fld (gtE (elO x0) n8) 0)) 0] g (KQ Qf λv g'=>∃b,v=.d (.bool b)∧Br b (InB n8 (elO x0).length∧InS 1 ((elO (fld (gtE (elO x0) n8) 0)).length:Int) (elO (fld (gtE (elO x0) n8) 0)).length∧Fits (l7.length+[Dat.sl 5 (List.drop 1 (List.take ((elO (fld (gtE (elO x0) n8) 0)).length:Int).toNat (elO (fld (gtE (elO x0) n8) 0))))].length) 24∧L217_3 x0 b1 n2 (l7++[Dat.sl 5 (List.drop 1 (List.take ((elO (fld (gtE (elO x0) n8) 0)).length:Int).toNat (elO (fld (gtE (elO x0) n8) 0))))]) (IntKind.i64.wrap (n8+1)) g' Qf) (Br b1 (Br (intOf (fld (gtE (elO (fld (gtE (elO x0) n8) 0)) 0) 0)==3) (Br (intOf (fld (gtE (elO (fld (gtE (elO x0) n8) 0)) 0) 2)==n2) (InB n8 (elO x0).length∧InS 1 ((elO (fld (gtE (elO x0) n8) 0)).length:Int) (elO (fld (gtE (elO x0) n8) 0)).length∧Fits (l7.length+[Dat.sl 5 (List.drop 1 (List.take ((elO (fld (gtE (elO x0) n8) 0)).length:Int).toNat (elO (fld (gtE (elO x0) n8) 0))))].length) 24∧L217_3 x0 b1 n2 (l7++[Dat.sl 5 (List.drop 1 (List.take ((elO (fld (gtE (elO x0) n8) 0)).length:Int).toNat (elO (fld (gtE (elO x0) n8) 0))))]) (IntKind.i64.wrap (n8+1)) g' Qf) (L217_3 x0 b1 n2 l7 (IntKind.i64.wrap (n8+1)) g' Qf)) (L217_3 x0 b1 n2 l7 (IntKind.i64.wrap (n8+1)) g' Qf)) (L217_3 x0 b1 n2 l7 (IntKind.i64.wrap (n8+1)) g' Qf)))) (Qf (.val (rf 1 l7)) g)):
 L217_3 x0 b1 n2 l7 n8 g Qf:=sC lo217 h
def L218_3(p0:Nat)(x1:Dat)(n6 n7:Int)(g:Glob)(Qf:OGP):=LC 218 Tryz.f218 [1,1,0,1,0] Qf 2 [(0,.v 211 (.ptr (some (p0,0)))),(1,.v 86 (x1)),(6,iv n6),(7,iv n7)] [] g
def L218_11(x1 x8:Dat)(n9:Int)(g:Glob)(Qf:OGP):=LC 218 Tryz.f218 [1,1,1,1,1,0,1,0] Qf 2 [(1,.v 86 (x1)),(8,.v 81 (x8)),(9,iv n9)] [] g
def L218_15(x1 x8:Dat)(n9:Int)(b10:Bool)(n11:Int)(g:Glob)(Qf:OGP):=LC 218 Tryz.f218 [1,1,1,1,1,0,1,0,0,1,0,0,1,0,1,0] Qf 2 [(1,.v 86 (x1)),(8,.v 81 (x8)),(9,iv n9),(10,.v 4 (.bool b10)),(11,iv n11)] [] g
def lo218:List CuI:=[⟨3,[K 0,K 1,K 6,K 7],[]⟩,⟨11,[K 1,K 8,K 9],[]⟩,⟨15,[K 1,K 8,K 9,K 10,K 11],[]⟩]
theorem w218(h1:Ha TT 86 x1)
 (h:L218_3 p0 x1 (-1) 0 g Qf):
 EvF TT 218 [.ptr (some (p0,0)),x1] g Qf:=
 sF Tryz.f218 lo218 [(211,.ptr (some (p0,0))),(86,x1)] ⟨tPt rfl,h1,trivial⟩ h
theorem w218_3
 (h:Br (decide (n7<((elO x1).length:Int))) (Br (decide (n6<0)) (InB n7 (elO x1).length∧InB 0 (elO (fld (gtE (elO x1) n7) 0)).length∧Br (intOf (fld (gtE (elO (fld (gtE (elO x1) n7) 0)) 0) 0)==4) (∃x,Ha TT 22 x∧GOk TT 22 g p0 0 x∧InB n7 (elO x1).length∧InB 0 (elO (fld (gtE (elO x1) n7) 0)).length∧EvF TT 50 [x,.str (strOf (fld (gtE (elO (fld (gtE (elO x1) n7) 0)) 0) 1))] g (KQ Qf λv g'=>∃n n_1 b,Ret v [.int .i64 n,.int .i64 n_1,.bool b]∧L218_3 p0 x1 n (IntKind.i64.wrap (n7+1)) g' Qf)) (L218_3 p0 x1 n6 (IntKind.i64.wrap (n7+1)) g Qf)) (Br (decide (n6<0)) (∀(us:List Val),RtL us [.nil,.bool false]→Qf (.val (.tuple us)) g) (∃x,Ha TT 22 x∧GOk TT 22 g p0 0 x∧InB n6 (elO x).length∧L218_11 x1 (fld (gtE (elO x) n6) 2) 0 g Qf))) (Br (decide (n6<0)) (∀(us:List Val),RtL us [.nil,.bool false]→Qf (.val (.tuple us)) g) (∃x,Ha TT 22 x∧GOk TT 22 g p0 0 x∧InB n6 (elO x).length∧L218_11 x1 (fld (gtE (elO x) n6) 2) 0 g Qf))):
 L218_3 p0 x1 n6 n7 g Qf:=sC lo218 h
theorem w218_11
 (h:Br (decide (n9<((elO x8).length:Int))) (L218_15 x1 x8 n9 false 0 g Qf) (∀(us:List Val),RtL us [x8,.bool true]→Qf (.val (.tuple us)) g)):
 L218_11 x1 x8 n9 g Qf:=sC lo218 h
theorem w218_15
 (h:Br (decide (n11<((elO x1).length:Int))) (Br b10 (L218_15 x1 x8 n9 true (IntKind.i64.wrap (n11+1)) g Qf) (InB n11 (elO x1).length∧InB 0 (elO (fld (gtE (elO x1) n11) 0)).length∧Br (intOf (fld (gtE (elO (fld (gtE (elO x1) n11) 0)) 0) 0)==4) (InB n11 (elO x1).length∧InB 0 (elO (fld (gtE (elO x1) n11) 0)).length∧InB n9 (elO x8).length∧L218_15 x1 x8 n9 (strOf (fld (gtE (elO (fld (gtE (elO x1) n11) 0)) 0) 1)==strOf (fld (gtE (elO x8) n9) 0)) (IntKind.i64.wrap (n11+1)) g Qf) (L218_15 x1 x8 n9 false (IntKind.i64.wrap (n11+1)) g Qf))) (Br (!b10) (∀(us:List Val),RtL us [.nil,.bool false]→Qf (.val (.tuple us)) g) (L218_11 x1 x8 (IntKind.i64.wrap (n9+1)) g Qf))):
 L218_15 x1 x8 n9 b10 n11 g Qf:=sC lo218 h
def L185_18(p0:Nat)(x1 x2 x8:Dat)(n10:Int)(g:Glob)(Qf:OGP):=LC 185 Tryz.f185 [1,1,1,1,1,1,1,1,1,0,1,0] Qf 3 [(0,.v 211 (.ptr (some (p0,0)))),(1,.v 86 (x1)),(2,.v 24 (x2)),(8,.v 81 (x8)),(10,iv n10)] [] g
def L185_2(p0:Nat)(x1 x2:Dat)(b16:Bool)(g:Glob)(Qf:OGP):=LC 185 Tryz.f185 [1,0,1] Qf 3 [(0,.v 211 (.ptr (some (p0,0)))),(1,.v 86 (x1)),(2,.v 24 (x2)),(16,.v 4 (.bool b16))] [] g
def L185_5(p0:Nat)(x1 x2:Dat)(g:Glob)(Qf:OGP):=LC 185 Tryz.f185 [1,1,1] Qf 3 [(0,.v 211 (.ptr (some (p0,0)))),(1,.v 86 (x1)),(2,.v 24 (x2))] [] g
def L185_8(p0:Nat)(x1 x2:Dat)(g:Glob)(Qf:OGP):=LC 185 Tryz.f185 [1,1,1,1,1] Qf 3 [(0,.v 211 (.ptr (some (p0,0)))),(1,.v 86 (x1)),(2,.v 24 (x2))] [] g
def L185_14(p0:Nat)(x1 x2:Dat)(g:Glob)(Qf:OGP):=LC 185 Tryz.f185 [1,1,1,1,1,1,1] Qf 3 [(0,.v 211 (.ptr (some (p0,0)))),(1,.v 86 (x1)),(2,.v 24 (x2))] [] g
def lo185:List CuI:=[⟨18,[K 0,K 1,K 2,K 8,K 10],[]⟩]
def jo:List CuI:=[⟨2,[K 0,K 1,K 2,K 16],[]⟩,⟨5,[K 0,K 1,K 2],[]⟩,⟨8,[K 0,K 1,K 2],[]⟩,⟨14,[K 0,K 1,K 2],[]⟩]
theorem w185(h1:Ha TT 86 x1)(h2:Ha TT 24 x2)
 (h:∃n,GOk TT 3 g p0 1 (.int .i64 n)∧L185_2 p0 x1 x2 (n==65536) g Qf):
 EvF TT 185 [.ptr (some (p0,0)),x1,x2] g Qf:=
 sxf (rk:=rk) (fn:=Tryz.f185) (loops:=lo185) (joins:=jo) (n:=100000) (args:=[(211,.ptr (some (p0,0))),(86,x1),(24,x2)]) rfl rfl rfl rfl ⟨tPt rfl,h1,h2,trivial⟩ (by kernel_rfl) h
theorem w185_18
 (h:Br (decide (n10<((elO x8).length:Int))) (∃b,GOk TT 4 g p0 2 (.bool b)∧Br (!b) (InB n10 (elO x8).length∧InB n10 (elO x8).length∧EvF TT 216 [x1,.str (strOf (fld (gtE (elO x8) n10) 0)),.int .i64 ((elO (fld (gtE (elO x8) n10) 1)).length:Int)] g λout g'=>Ou (λx=>InS 1 ((elO x2).length:Int) (elO x2).length∧Qf (.panic x) g') (λv=>∃x,Ha TT 86 x∧Rt v x∧InS 1 ((elO x2).length:Int) (elO x2).length∧EvF TT 219 [.int .i64 ((elO (fld (gtE (elO x8) n10) 1)).length:Int),.sl 5 (List.drop 1 (List.take ((elO x2).length:Int).toNat (elO x2)))] g' (KQ Qf λv g'=>∃x_1,Ha TT 24 x_1∧Rt v x_1∧EvF TT 185 [.ptr (some (p0,0)),x,x_1] g' (KQ Qf λv g'=>∃b,v=.d (.bool b)∧Br b (Qf (.val (.d (.bool true))) g') (L185_18 p0 x1 x2 x8 (IntKind.i64.wrap (n10+1)) g' Qf)))) out) (Qf (.val (.d (.bool false))) g)) (Qf (.val (.d (.bool false))) g)):
 L185_18 p0 x1 x2 x8 n10 g Qf:=sxc (rk:=rk) (loops:=lo185) (joins:=jo) (n:=100000) (by kernel_rfl) h
theorem w185_2
 (h:Br b16 (Gu g p0 2 1∧∃b,GOk TT 4 (gp g p0 2 (.bool true)) p0 2 (.bool b)∧Br b (Qf (.val (.d (.bool false))) (gp g p0 2 (.bool true))) (L185_5 p0 x1 x2 (gp g p0 2 (.bool true)) Qf)) (∃b,GOk TT 4 g p0 2 (.bool b)∧Br b (Qf (.val (.d (.bool false))) g) (L185_5 p0 x1 x2 g Qf))):
 L185_2 p0 x1 x2 b16 g Qf:=sxc (rk:=rk) (loops:=lo185) (joins:=jo) (n:=100000) (by kernel_rfl) h
theorem w185_5
 (h:∃n,GOk TT 3 g p0 1 (.int .i64 n)∧Gu g p0 1 1∧Br (((elO x2).length:Int)==0) (Qf (.val (.d (.bool (((elO x1).length:Int)==0)))) (gp g p0 1 (.int .i64 (IntKind.i64.wrap (n+1))))) (L185_8 p0 x1 x2 (gp g p0 1 (.int .i64 (IntKind.i64.wrap (n+1)))) Qf)):
 L185_5 p0 x1 x2 g Qf:=sxc (rk:=rk) (loops:=lo185) (joins:=jo) (n:=100000) (by kernel_rfl) h
theorem w185_8
 (h:InB 0 (elO x2).length∧Br (intOf (fld (gtE (elO x2) 0) 0)==4) (EvF TT 216 [x1,.str (strOf (fld (gtE (elO x2) 0) 1)),.int .i64 ((elO (fld (gtE (elO x2) 0) 3)).length:Int)] g λout g'=>Ou (λx=>InS 1 ((elO x2).length:Int) (elO x2).length∧Qf (.panic x) g') (λv=>∃x,Ha TT 86 x∧Rt v x∧Fits (0+(elO (fld (gtE (elO x2) 0) 3)).length) 64∧InS 1 ((elO x2).length:Int) (elO x2).length∧Fits (([]++elO (fld (gtE (elO x2) 0) 3)).length+(elO (.sl 5 (List.drop 1 (List.take ((elO x2).length:Int).toNat (elO x2))))).length) 64∧EvF TT 185 [.ptr (some (p0,0)),x,.sl 5 ([]++elO (fld (gtE (elO x2) 0) 3)++elO (.sl 5 (List.drop 1 (List.take ((elO x2).length:Int).toNat (elO x2)))))] g' (KQ Qf λv g'=>∃b,v=.d (.bool b)∧Qf (.val (.d (.bool b))) g')) out) (Br (intOf (fld (gtE (elO x2) 0) 0)==3) (EvF TT 217 [x1,.bool true,.int .i64 (intOf (fld (gtE (elO x2) 0) 2))] g λout g'=>Ou (λx=>InS 1 ((elO x2).length:Int) (elO x2).length∧Qf (.panic x) g') (λv=>∃x,Ha TT 86 x∧Rt v x∧InS 1 ((elO x2).length:Int) (elO x2).length∧EvF TT 185 [.ptr (some (p0,0)),x,.sl 5 (List.drop 1 (List.take ((elO x2).length:Int).toNat (elO x2)))] g' (KQ Qf λv g'=>∃b,v=.d (.bool b)∧Qf (.val (.d (.bool b))) g')) out) (L185_14 p0 x1 x2 g Qf))):
 L185_8 p0 x1 x2 g Qf:=sxc (rk:=rk) (loops:=lo185) (joins:=jo) (n:=100000) (by kernel_rfl) h
theorem w185_14
 (h:EvF TT 218 [.ptr (some (p0,0)),x1] g (KQ Qf λv g'=>∃x,Ha TT 81 x∧∃b,Ret v [x,.bool b]∧Br (!b) (EvF TT 217 [x1,.bool false,.int .i64 0] g' λout g'=>Ou (λx=>InS 1 ((elO x2).length:Int) (elO x2).length∧Qf (.panic x) g') (λv=>∃x,Ha TT 86 x∧Rt v x∧InS 1 ((elO x2).length:Int) (elO x2).length∧EvF TT 185 [.ptr (some (p0,0)),x,.sl 5 (List.drop 1 (List.take ((elO x2).length:Int).toNat (elO x2)))] g' (KQ Qf λv g'=>∃b,v=.d (.bool b)∧Qf (.val (.d (.bool b))) g')) out) (L185_18 p0 x1 x2 x 0 g' Qf))):
 L185_14 p0 x1 x2 g Qf:=sxc (rk:=rk) (loops:=lo185) (joins:=jo) (n:=100000) (by kernel_rfl) h
def L215_9(x0:Dat)(n2 n3 n12:Int)(y5:Dat)(g:Glob)(Qf:OGP):=LC 215 Tryz.f215 [1,1,1,1,0,1,0] Qf 4 [(0,.v 22 (x0)),(2,iv n2),(3,iv n3),(5,.loc 5 0 0),(12,iv n12)] [(5,.whole 52 y5)] g
def lo215:List CuI:=[⟨9,[K 0,K 2,K 3,K 5,K 12],[(5,.whole 52)]⟩]
theorem w215(h0:Ha TT 22 x0)(h1:Ha TT 52 x1)
 (h:Br (decide (2048<IntKind.i64.wrap (n3+1))) (Qf (.val (.d (.int .i64 (-1)))) g) (Br (decide (256<n2)) (Qf (.val (.d (.int .i64 (-1)))) g) (Br (decide (intOf (fld x1 0)<1)) (Qf (.val (.d (.int .i64 (-1)))) g) (Br (decide (4<intOf (fld x1 0))) (Qf (.val (.d (.int .i64 (-1)))) g) (Br (intOf (fld x1 0)==4) (EvF TT 50 [x0,.str (strOf (fld x1 1))] g (KQ Qf λv g'=>∃n n_1 b,Ret v [.int .i64 n,.int .i64 n_1,.bool b]∧Br (!b) (Qf (.val (.d (.int .i64 (-1)))) g') (InB n (elO x0).length∧InB n_1 (elO (fld (gtE (elO x0) n) 2)).length∧Br (((elO (fld (gtE (elO (fld (gtE (elO x0) n) 2)) n_1) 1)).length:Int)!=((elO (fld x1 3)).length:Int)) (Qf (.val (.d (.int .i64 (-1)))) g') (L215_9 x0 n2 (IntKind.i64.wrap (n3+1)) 0 x1 g' Qf)))) (L215_9 x0 n2 (IntKind.i64.wrap (n3+1)) 0 x1 g Qf)))))):
 EvF TT 215 [x0,x1,.int .i64 n2,.int .i64 n3] g Qf:=
 sF Tryz.f215 lo215 [(22,x0),(52,x1),(3,.int .i64 n2),(3,.int .i64 n3)] ⟨h0,h1,tyI rfl,tyI rfl,trivial⟩ h
theorem w215_9
 (h:Br (decide (n12<((elO (fld y5 3)).length:Int))) (Br (decide (0≤n3)) (InB n12 (elO (fld y5 3)).length∧EvF TT 215 [x0,gtE (elO (fld y5 3)) n12,.int .i64 (IntKind.i64.wrap (n2+1)),.int .i64 n3] g (KQ Qf λv g'=>∃n,v=.d (.int .i64 n)∧L215_9 x0 n2 n (IntKind.i64.wrap (n12+1)) y5 g' Qf)) (Qf (.val (.d (.int .i64 n3))) g)) (Qf (.val (.d (.int .i64 n3))) g)):
 L215_9 x0 n2 n3 n12 y5 g Qf:=sC lo215 h
def L184_3(x0 x1 x2:Dat)(n7 n8:Int)(g:Glob)(Qf:OGP):=LC 184 Tryz.f184 [1,1,0,1,0] Qf 3 [(0,.v 22 (x0)),(1,.v 86 (x1)),(2,.v 24 (x2)),(7,iv n7),(8,iv n8)] [] g
def L184_7(x0 x1 x2:Dat)(n7 n9:Int)(g:Glob)(Qf:OGP):=LC 184 Tryz.f184 [1,1,1,0,1,0] Qf 3 [(0,.v 22 (x0)),(1,.v 86 (x1)),(2,.v 24 (x2)),(7,iv n7),(9,iv n9)] [] g
def L184_12(x0 x1 x2:Dat)(n7 n9 n10:Int)(g:Glob)(Qf:OGP):=LC 184 Tryz.f184 [1,1,1,0,1,0,0,1,0,0,1,1,0] Qf 3 [(0,.v 22 (x0)),(1,.v 86 (x1)),(2,.v 24 (x2)),(7,iv n7),(9,iv n9),(10,iv n10)] [] g
def lo184:List CuI:=[⟨3,[K 0,K 1,K 2,K 7,K 8],[]⟩,⟨7,[K 0,K 1,K 2,K 7,K 9],[]⟩,⟨12,[K 0,K 1,K 2,K 7,K 9,K 10],[]⟩]
theorem w184(h0:Ha TT 22 x0)(h1:Ha TT 86 x1)(h2:Ha TT 24 x2)
 (h:L184_3 x0 x1 x2 0 0 g Qf):
 EvF TT 184 [x0,x1,x2] g Qf:=
 sF Tryz.f184 lo184 [(22,x0),(86,x1),(24,x2)] ⟨h0,h1,h2,trivial⟩ h
theorem w184_3
 (h:Br (decide (n8<((elO x2).length:Int))) (Br (decide (0≤n7)) (InB n8 (elO x2).length∧EvF TT 215 [x0,gtE (elO x2) n8,.int .i64 1,.int .i64 n7] g (KQ Qf λv g'=>∃n,v=.d (.int .i64 n)∧L184_3 x0 x1 x2 n (IntKind.i64.wrap (n8+1)) g' Qf)) (L184_7 x0 x1 x2 n7 0 g Qf)) (L184_7 x0 x1 x2 n7 0 g Qf)):
 L184_3 x0 x1 x2 n7 n8 g Qf:=sC lo184 h
theorem w184_7
 (h:Br (decide (n9<((elO x1).length:Int))) (Br (decide (0≤n7)) (InB n9 (elO x1).length∧Br (((elO (fld (gtE (elO x1) n9) 0)).length:Int)!=((elO x2).length:Int)) (Qf (.val (.d (.bool false))) g) (L184_12 x0 x1 x2 n7 n9 0 g Qf)) (Qf (.val (.d (.bool (decide (0≤n7))))) g)) (Qf (.val (.d (.bool (decide (0≤n7))))) g)):
 L184_7 x0 x1 x2 n7 n9 g Qf:=sC lo184 h
theorem w184_12
 (h:InB n9 (elO x1).length∧Br (decide (n10<((elO (fld (gtE (elO x1) n9) 0)).length:Int))) (Br (decide (0≤n7)) (InB n9 (elO x1).length∧InB n10 (elO (fld (gtE (elO x1) n9) 0)).length∧EvF TT 215 [x0,gtE (elO (fld (gtE (elO x1) n9) 0)) n10,.int .i64 1,.int .i64 n7] g (KQ Qf λv g'=>∃n,v=.d (.int .i64 n)∧L184_12 x0 x1 x2 n n9 (IntKind.i64.wrap (n10+1)) g' Qf)) (L184_7 x0 x1 x2 n7 (IntKind.i64.wrap (n9+1)) g Qf)) (L184_7 x0 x1 x2 n7 (IntKind.i64.wrap (n9+1)) g Qf)):
 L184_12 x0 x1 x2 n7 n9 n10 g Qf:=sC lo184 h
def L120_3(x0:Dat)(l3:List Dat)(n4:Int)(g:Glob)(Qf:OGP):=LC 120 Tryz.f120 [1,1,0,1,0] Qf 1 [(0,.v 24 (x0)),(3,.acc [(18,0)] 86 1 l3),(4,iv n4)] [] g
def lo120:List CuI:=[⟨3,[K 0,(3,.acc [18]),K 4],[]⟩]
theorem w120(h0:Ha TT 24 x0)
 (h:L120_3 x0 [] 0 g Qf):
 EvF TT 120 [x0] g Qf:=
 sF Tryz.f120 lo120 [(24,x0)] ⟨h0,trivial⟩ h
theorem w120_3
 (h:Br (decide (n4<((elO x0).length:Int))) (InB n4 (elO x0).length∧Fits (l3.length+[Dat.sl 5 [gtE (elO x0) n4]].length) 24∧L120_3 x0 (l3++[Dat.sl 5 [gtE (elO x0) n4]]) (IntKind.i64.wrap (n4+1)) g Qf) (Qf (.val (rf 1 l3)) g)):
 L120_3 x0 l3 n4 g Qf:=sC lo120 h
theorem w119(h0:Ha TT 22 x0)(h1:Ha TT 86 x1)(h2:Ha TT 24 x2)
 (h:EvF TT 184 [x0,x1,x2] g (KQ Qf λv g'=>∃b,v=.d (.bool b)∧Br (!b) (Qf (.val (.tuple [.d (.bool false),.d (.int .i64 1)])) g') (EvF TT 185 [.ptr (some (g'.boxes.length,0)),x1,x2] (gne g' [x0,.int .i64 (intOf (.int .i64 0)),.bool false]) λout g'_1=>Ou (λx=>Qf (.panic x) g'_1) (λv=>∃b,v=.d (.bool b)∧∃b_1,GOk TT 4 g'_1 g'.boxes.length 2 (.bool b_1)∧Br b_1 (Qf (.val (.tuple [.d (.bool false),.d (.int .i64 3)])) g'_1) (Qf (.val (.tuple [.d (.bool b),.d (.int .i64 0)])) g'_1)) out))):
 EvF TT 119 [x0,x1,x2] g Qf:=
 sF Tryz.f119 [] [(22,x0),(86,x1),(24,x2)] ⟨h0,h1,h2,trivial⟩ h
theorem w68(h0:Ha TT 22 x0)(h1:Ha TT 24 x1)
 (h:EvF TT 120 [x1] g (KQ Qf λv g'=>∃x,Ha TT 86 x∧Rt v x∧EvF TT 119 [x0,x,.sl 5 [.agg [.int .i64 1,.str [],.int .i64 0,.nil,.int .i64 0]]] g' (KQ Qf λv g'=>∃b n,Ret v [.bool b,.int .i64 n]∧Br (!b) (Qf (.val (.tuple [.d (.bool (n==0)),.d (.int .i64 n)])) g') (Qf (.val (.tuple [.d (.bool false),.d (.int .i64 n)])) g')))):
 EvF TT 68 [x0,x1] g Qf:=
 sF Tryz.f68 [] [(22,x0),(24,x1)] ⟨h0,h1,trivial⟩ h
def L38_8(x0:Dat)(n8:Int)(y3:Dat)(g:Glob)(Qf:OGP):=LC 38 Tryz.f38 [1,1,0,1,0] Qf 2 [(0,.v 22 (x0)),(3,.loc 3 0 0),(8,iv n8)] [(3,.whole 26 y3)] g
def lo38:List CuI:=[⟨8,[K 0,K 3,K 8],[(3,.whole 26)]⟩]
theorem w38(h0:Ha TT 22 x0)(h1:Ha TT 26 x1)
 (h:Br (intOf (fld x1 0)==7) (EvF TT 68 [x0,fld x1 5] g (KQ Qf λv g'=>∃b n,Ret v [.bool b,.int .i64 n]∧Br (n==0) (Br (!b) (Qf (.val (.tuple [.d (.int .i64 170),.d (.int .i64 (intOf (fld x1 6)))])) g') (Br (n !=0) (Qf (.val (.tuple [.d (.int .i64 n),.d (.int .i64 (intOf (fld x1 6)))])) g') (L38_8 x0 0 x1 g' Qf))) (Br (n !=0) (Qf (.val (.tuple [.d (.int .i64 n),.d (.int .i64 (intOf (fld x1 6)))])) g') (L38_8 x0 0 x1 g' Qf)))) (L38_8 x0 0 x1 g Qf)):
 EvF TT 38 [x0,x1] g Qf:=
 sF Tryz.f38 lo38 [(22,x0),(26,x1)] ⟨h0,h1,trivial⟩ h
theorem w38_8
 (h:Br (decide (n8<((elO (fld y3 4)).length:Int))) (InB n8 (elO (fld y3 4)).length∧EvF TT 38 [x0,gtE (elO (fld y3 4)) n8] g (KQ Qf λv g'=>∃n n_1,Ret v [.int .i64 n,.int .i64 n_1]∧Br (n !=0) (Qf (.val (.tuple [.d (.int .i64 n),.d (.int .i64 n_1)])) g') (L38_8 x0 (IntKind.i64.wrap (n8+1)) y3 g' Qf))) (Qf (.val (.tuple [.d (.int .i64 0),.d (.int .i64 0)])) g)):
 L38_8 x0 n8 y3 g Qf:=sC lo38 h
theorem w12(h0:Ha TT 28 x0)
 (h:EvF TT 28 [x0] g (KQ Qf λv g'=>∃n n_1,Ret v [.int .i64 n,.int .i64 n_1]∧Br (n !=0) (Qf (.val (.tuple [.d (.int .i64 n),.d (.int .i64 n_1)])) g') (EvF TT 15 [x0] g' (KQ Qf λv g'=>∃x,Ha TT 22 x∧Rt v x∧EvF TT 38 [x,sub x0 1 7] g' (KQ Qf λv g'=>∃n n_2,Ret v [.int .i64 n,.int .i64 n_2]∧Qf (.val (.tuple [.d (.int .i64 n),.d (.int .i64 n_2)])) g'))))):
 EvF TT 12 [x0] g Qf:=
 sF Tryz.f12 [] [(28,x0)] ⟨h0,trivial⟩ h
theorem w3(h0:Ha TT 28 x0)
 (h:EvF TT 7 [x0] g (KQ Qf λv g'=>∃b,v=.d (.bool b)∧Br b (EvF TT 9 [] g' (KQ Qf λv g'=>∃b,v=.d (.bool b)∧Qf (.val (.d (.bool b))) g')) (EvF TT 8 [x0] g' (KQ Qf λv g'=>∃n,v=.d (.int .i64 n)∧Br (decide (600<n)) (EvF TT 9 [] g' (KQ Qf λv g'=>∃b,v=.d (.bool b)∧Qf (.val (.d (.bool b))) g')) (EvF TT 10 [x0] g' (KQ Qf λv g'=>∃x,Ha TT 28 x∧v=.d x∧EvF TT 11 [x] g' (KQ Qf λv g'=>∃x_1,Ha TT 35 x_1∧v=.d x_1∧EvF TT 12 [x0] g' (KQ Qf λv g'=>∃n n_1,Ret v [.int .i64 n,.int .i64 n_1]∧Br (intOf (fld x_1 0)==n) (Br (intOf (fld x_1 1)==n_1) (EvF TT 13 [x,x0,.bool true] g' (KQ Qf λv g'=>∃b,v=.d (.bool b)∧Br b (EvF TT 9 [] g' (KQ Qf λv g'=>∃b,v=.d (.bool b)∧Qf (.val (.d (.bool b))) g')) (Qf (.val (.d (.bool false))) g'))) (Qf (.val (.d (.bool false))) g')) (Qf (.val (.d (.bool false))) g'))))))))):
 EvF TT 3 [x0] g Qf:=
 sF Tryz.f3 [] [(28,x0)] ⟨h0,trivial⟩ h
end Go.Proofs.YtiheejdkkjfenaaGreatDoor.Pa
namespace Go.Proofs.YtiheejdkkjfenaaGreatDoor.Pa
open Go Go.Proofs.YtiheejdkkjfenaaGreatDoor.Am
theorem opk{x:Dat}{g:Glob}(hx:Ha TT 52 x)(Qf:OGP)(hQ:Qf (.val (.d (.bool (wP (aP x))))) g):EvF TT 234 [x] g Qf:=by
 refine w234 hx ?_;obtain⟨q1,_⟩:=paf hx;rw[q1];unfold wP at hQ;refine Bi.2 ⟨λq=>?_,λq=>?_⟩
 ·rw[q] at hQ;exact hQ
 ·rw[q] at hQ;exact hQ
theorem fiR{n:Nat}(h:n≤2^40):Sl TT 24 n:=⟨by omega,λb' hb'=>by rw[byR] at hb';cases hb';omega⟩
theorem ank{n:Nat}{x:Dat}{g:Glob}(tx:Ha TT 24 x)(hn:n+(elO x).length≤2^39)(Qf:OGP)(hQ:∀v y,Ha TT 24 y→Rt v y→roA y=List.replicate n ayP++roA x→Qf (.val v) g):
 EvF TT 219 [.int .i64 n,x] g Qf:=by
 have ex:=tx.els uP;refine w219 tx ?_;refine lU (len:=n) (λi=>L219_3 (n:Int) x (List.replicate i anP) (i:Int) g Qf) ?_ ?_ 0 (Nat.zero_le _)
 ·refine w219_3 ?_;rw[show decide ((n:Int)<(n:Int))=false from by simp,Bf,List.length_replicate];refine⟨fiP hn,?_⟩;have ty:∀y∈List.replicate n anP++elO x,Ha TT 52 y:=λy hy=>by
   rcases List.mem_append.1 hy with hy|hy
   ·rw[(List.mem_replicate.1 hy).2];exact tay
   ·exact ex.2 y hy
  refine hQ _ (sOf 5 (List.replicate n anP++elO x)) (slf uP sza (ftP (by simp;omega)) ty) (rO _ _) ?_;unfold roA;rw[slO,List.map_append,List.map_replicate,asA]
 ·intro i hi ih;refine w219_3 ?_;rw[show decide ((i:Int)<(n:Int))=true from by simpa using hi,Be,List.length_replicate,wra (by omega)];refine⟨fiP (by omega),?_⟩;have e:List.replicate i anP++[Dat.agg [Dat.int IntKind.i64 1,Dat.str [],Dat.int IntKind.i64 0,Dat.nil,Dat.int IntKind.i64 0]]=List.replicate (i+1) anP:=by rw[List.replicate_succ'];rfl
  rw[e];exact ih
theorem roa{X:Dat}{i:Nat}(hX:Ha TT 86 X)(hi:i<(elO X).length)(hw:∀r∈ros X,0<r.length∧r.length≤2^38):
 ∃y t,Ha TT 24 (elO X)[i]∧fld (gtE (elO X) (i:Int)) 0=(elO X)[i]∧gtE (elO (elO X)[i]) 0=y∧Ha TT 52 y∧0<(elO (elO X)[i]).length∧(elO (elO X)[i]).length≤2^38∧(elO (elO X)[i]).tail.map aP=t∧
  Ha TT 24 (.sl 5 (elO (elO X)[i]).tail)∧∃h:i<(ros X).length,(ros X)[i]=aP y::t:=by
 have eX:=hX.els uo;have hlen:(ros X).length=(elO X).length:=List.length_map _;have hi':i<(ros X).length:=by omega
 have hr:(ros X)[i]=roA (elO X)[i]:=List.getElem_map _;have te:=eX.2 _ (List.getElem_mem hi);have hwi:=hw _ (List.getElem_mem hi');rw[hr] at hwi;have hl0:(roA (elO X)[i]).length=(elO (elO X)[i]).length:=List.length_map _;have h0:0<(elO (elO X)[i]).length:=by omega
 exact⟨_,_,te,by rw[geE hi,flr te],geE (i:=0) h0,(te.els uP).2 _ (List.getElem_mem h0),h0,by omega,rfl,tai te,hi',by rw[hr];exact mah h0⟩
theorem rss{X:Dat}{b1:Bool}{n2:Int}{g:Glob}(hX:Ha TT 86 X)(hw:∀r∈ros X,0<r.length∧r.length≤2^38)(Qf:OGP)
 (hQ:∀v Y,Ha TT 86 Y→Rt v Y→ros Y=(ros X).filterMap (tu (if b1 then seI n2 else sW))→Qf (.val v) g):EvF TT 217 [X,.bool b1,.int .i64 n2] g Qf:=by
 have eX:=hX.els uo;have eXl:=eX.1.1;have hlen:(ros X).length=(elO X).length:=List.length_map _;generalize hsem:(if b1 then seI n2 else sW)=sem at hQ;refine w217 hX ?_;refine lU (len:=(elO X).length) (λi=>∀l:List Dat,l.length≤i→(∀y∈l,Ha TT 24 y)→l.map roA=((ros X).take i).filterMap (tu sem)→L217_3 X b1 n2 l (i:Int) g Qf) ?_ ?_ 0 (Nat.zero_le _) [] (Nat.le_refl _) (λy h=>by cases h) rfl
 ·intro l h1 h2 h3;refine w217_3 ?_;rw[Bg];rw[←hlen,List.take_length] at h3;refine hQ _ (sOf 1 l) (slf uo szR (eX.1.le h1) h2) (rO _ _) ?_;unfold ros;rw[slO,h3];rfl
 ·intro i hi ih l h1 h2 h3;obtain⟨y,t,te,f0,g0,ty,h0,hl8,ht,tt,hi',hrow⟩:=roa hX hi hw;have hstep:=fmk (tu sem) (ros X) hi';rw[hrow] at hstep;obtain⟨q1,_,q3,_⟩:=paf ty;have keep:sem (aP y)=some []→Fits (l.length+[Dat.sl 5 (elO (elO X)[i]).tail].length) 24∧L217_3 X b1 n2 (l++[Dat.sl 5 (elO (elO X)[i]).tail]) ((i+1:Nat):Int) g Qf:=λhs=>by
   refine⟨((eX.1.le (by simp;omega)).fits byR),ih _ (by simp;omega) (λz hz=>?_) ?_⟩
   ·rcases List.mem_append.1 hz with hz|hz
    ·exact h2 z hz
    ·simp only[List.mem_singleton] at hz;subst hz;exact tt
   ·rw[hstep,List.map_append,h3];simp only[tu,hs,Option.toList_some,List.map_cons,List.map_nil,List.nil_append];congr 2
  have skip:sem (aP y)=none→L217_3 X b1 n2 l ((i+1:Nat):Int) g Qf:=λhs=>by
   refine ih l (by omega) h2 ?_;rw[hstep];simp only[tu,hs,Option.toList_none,List.append_nil];exact h3
  refine w217_3 ?_;rw[Bl hi,f0,g0,wra (by omega),dro,q1,q3];refine⟨inB hi,⟨by simp,by omega⟩,opk ty _ ⟨_,rfl,Bi.2 ⟨λq=>⟨inB hi,⟨by omega,by omega,by omega⟩,keep ?_⟩,λq=>Bi.2 ⟨λqb=>Bi.2 ⟨λq2=>Bi.2 ⟨λq3=>⟨inB hi,⟨by omega,by omega,by omega⟩,keep ?_⟩,λq3=>skip ?_⟩,λq2=>skip ?_⟩,λqb=>skip ?_⟩⟩⟩⟩
  ·rw[←hsem];cases b1<;>exact if_pos q
  ·rw[←hsem,qb];show(if wP _ then _ else if _ then _ else _)=_;rw[if_neg (by rw[q];simp),q2,q3];rfl
  ·rw[←hsem,qb];show(if wP _ then _ else if _ then _ else _)=_;rw[if_neg (by rw[q];simp),q2,q3];rfl
  ·rw[←hsem,qb];show(if wP _ then _ else if _ then _ else _)=_;rw[if_neg (by rw[q];simp),q2];rfl
  ·rw[←hsem,qb];exact if_neg (by rw[q];simp)
theorem spi{X:Dat}{s:Str}{n:Nat}{g:Glob}(hX:Ha TT 86 X)(hs:s.length≤2^40)(hn:n≤2^38)(hw:∀r∈ros X,0<r.length∧r.length≤2^38)(Qf:OGP)
 (hQ:∀v Y,Ha TT 86 Y→Rt v Y→ros Y=(ros X).filterMap (tu (seC s n))→Qf (.val v) g):EvF TT 216 [X,.str s,.int .i64 n] g Qf:=by
 have eX:=hX.els uo;have eXl:=eX.1.1;have hlen:(ros X).length=(elO X).length:=List.length_map _;refine w216 hX hs ?_;refine lU (len:=(elO X).length) (λi=>∀l:List Dat,l.length≤i→(∀y∈l,Ha TT 24 y)→l.map roA=((ros X).take i).filterMap (tu (seC s n))→L216_3 X s (n:Int) l (i:Int) g Qf) ?_ ?_ 0 (Nat.zero_le _) [] (Nat.le_refl _) (λy h=>by cases h) rfl
 ·intro l h1 h2 h3;refine w216_3 ?_;rw[Bg];rw[←hlen,List.take_length] at h3;refine hQ _ (sOf 1 l) (slf uo szR (eX.1.le h1) h2) (rO _ _) ?_;unfold ros;rw[slO,h3];rfl
 ·intro i hi ih l h1 h2 h3;obtain⟨y,t,te,f0,g0,ty,h0,hl8,ht,tt,hi',hrow⟩:=roa hX hi hw;have hstep:=fmk (tu (seC s n)) (ros X) hi';rw[hrow] at hstep;obtain⟨q1,q2,_,q4,_,t3⟩:=paf ty;have e3:=t3.els uP;have hl3:(elO (fld y 3)).length=(ars (aP y)).length:=by rw[←q4];exact(List.length_map _).symm
  have keep:∀(k:List Pt) (Z:Dat),seC s n (aP y)=some k→Ha TT 24 Z→roA Z=k++t→Fits (l.length+[Z].length) 24∧L216_3 X s (n:Int) (l++[Z]) ((i+1:Nat):Int) g Qf:=λk Z hs tZ hZ=>by
   refine⟨((eX.1.le (by simp;omega)).fits byR),ih _ (by simp;omega) (λz hz=>?_) ?_⟩
   ·rcases List.mem_append.1 hz with hz|hz
    ·exact h2 z hz
    ·simp only[List.mem_singleton] at hz;subst hz;exact tZ
   ·rw[hstep,List.map_append,h3];simp only[tu,hs,Option.toList_some,List.map_cons,List.map_nil,hZ]
  have skip:seC s n (aP y)=none→L216_3 X s (n:Int) l ((i+1:Nat):Int) g Qf:=λhs=>by
   refine ih l (by omega) h2 ?_;rw[hstep];simp only[tu,hs,Option.toList_none,List.append_nil];exact h3
  -- an open one,or none
  have other:(wP (aP y)=false→seC s n (aP y)=none)→EvF TT 234 [y] g (KQ Qf λv g'=>∃b,v=Val.d (Dat.bool b)∧Br b (InB (i:Int) (elO X).length∧InS 1 ((elO (elO X)[i]).length:Int) (elO (elO X)[i]).length∧
    EvF TT 219 [Dat.int IntKind.i64 (n:Int),Dat.sl 5 (elO (elO X)[i]).tail] g' (KQ Qf λv g'=>∃x,Ha TT 24 x∧Rt v x∧Fits (l.length+[x].length) 24∧L216_3 X s (n:Int) (l++[x]) ((i+1:Nat):Int) g' Qf)) (L216_3 X s (n:Int) l ((i+1:Nat):Int) g' Qf)):=λhno=>by
   refine opk ty _ ⟨_,rfl,Bi.2 ⟨λq=>⟨inB hi,⟨by omega,by omega,by omega⟩,ank tt (by show n+(elO (elO X)[i]).tail.length≤_;rw[List.length_tail];omega) _ λv Z tZ hv hZ=>⟨Z,tZ,hv,?_⟩⟩,λq=>skip (hno q)⟩⟩;refine keep (List.replicate n ayP) Z (if_pos q) tZ ?_;rw[hZ];congr 1
  have hk:∀b,seC s n (aP y)=b→seC s n (aP y)=b:=λ_ h=>h;refine w216_3 ?_;rw[Bl hi,f0,g0,wra (by omega),dro,q1,q2,hl3];refine⟨inB hi,⟨by simp,by omega⟩,Bi.2 ⟨λqa=>Bi.2 ⟨λqb=>Bi.2 ⟨λqc=>?_,λqc=>other λhw0=>?_⟩,λqb=>other λhw0=>?_⟩,λqa=>other λhw0=>?_⟩⟩
  ·have hn':(ars (aP y)).length=n:=by
    have:(((ars (aP y)).length:Nat):Int)=(n:Int):=by simpa using qc
    omega
   have hw0:wP (aP y)=false:=by
    unfold wP;have:kPt (aP y)=4:=by simpa using qa
    rw[this];rfl
   refine⟨fiP (by omega),inB hi,⟨by omega,by omega,by omega⟩,fiP ?_,?_⟩
   ·show([]++elO (fld y 3)).length+(elO (elO X)[i]).tail.length≤_;rw[List.nil_append,List.length_tail];omega
   ·refine keep (ars (aP y)) _ ?_ (tya (ftP ?_) λz hz=>?_) ?_
    ·unfold seC;rw[if_neg (by rw[hw0];simp),qa,qb];rw[show((ars (aP y)).length==n)=true from by simpa using hn'];rfl
    ·show([]++elO (fld y 3)++(elO (elO X)[i]).tail).length≤_;rw[List.nil_append,List.length_append,List.length_tail];omega
    ·have hz:z∈elO (fld y 3)++(elO (elO X)[i]).tail:=by rw[List.nil_append] at hz;exact hz
     rcases List.mem_append.1 hz with hz|hz
     ·exact e3.2 z hz
     ·exact(te.els uP).2 z (List.mem_of_mem_tail hz)
    ·show([]++elO (fld y 3)++(elO (elO X)[i]).tail).map aP=_;rw[List.nil_append,List.map_append,ht,←q4];rfl
  ·unfold seC;rw[if_neg (by rw[hw0];simp),qa,qb];have:((ars (aP y)).length==n)=false:=by
    rw[beq_eq_false_iff_ne];intro e;rw[e] at qc;simp at qc
   rw[this];rfl
  ·unfold seC;rw[if_neg (by rw[hw0];simp),qa,qb];rfl
  ·unfold seC;rw[if_neg (by rw[hw0];simp),qa];rfl
def Rf(g:Glob)(p0:Nat)(l:Dat)(n:Int)(b:Bool):Prop:=g.boxes[p0]?=some (.cells [.d l,.d (.int .i64 n),.d (.bool b)])
theorem goL{g:Glob}{p0:Nat}{l:Dat}{n:Int}{b:Bool}(h:Rf g p0 l n b):GOk TT 22 g p0 0 l:=gok uD sze rfl h rfl
theorem whe{p0:Nat}{l X:Dat}{g:Glob}{n0:Int}{b0:Bool}(hl:Ha TT 22 l)(hX:Ha TT 86 X)(hb:Rf g p0 l n0 b0)(hw:∀r∈ros X,0<r.length∧r.length≤2^38)
 (hok:∀r∈ros X,∀x∈r,okP (DD l) x=true) (Qf:OGP)
 (hQ:∀x b,Ha TT 81 x→(b=true→whl (DD l) (ros X)=some ((elO x).map aC))→(b=false→whl (DD l) (ros X)=none)→∀us,RtL us [x,.bool b]→Qf (.val (.tuple us)) g):EvF TT 218 [.ptr (some (p0,0)),X] g Qf:=by
 have eX:=hX.els uo;have eXl:=eX.1.1;have hlen:(ros X).length=(elO X).length:=List.length_map _;have tnil:Ha TT 81 .nil:=.nil _ (by rw[uC];rfl)
 -- the constructors,one behind another
 have cons:∀s,fC (ros X)=some s→∀xs,Ha TT 81 xs→(elO xs).map aC=cO (DD l) s→L218_11 X xs 0 g Qf:=λs hf xs txs hxs=>by
  have exs:=txs.els uC;have exl:=exs.1.1;have hwf:whl (DD l) (ros X)=if (cO (DD l) s).all (λc=>haC c.s (ros X)) then some (cO (DD l) s) else none:=by unfold whl;rw[hf]
  refine lU (len:=(elO xs).length) (λi=>((elO xs).take i).all (λy=>haC (aC y).s (ros X))=true→L218_11 X xs (i:Int) g Qf) ?_ ?_ 0 (Nat.zero_le _) rfl
  ·intro h;refine w218_11 ?_;rw[Bg];rw[List.take_length] at h;refine hQ xs true txs (λ_=>?_) (λh=>by cases h);rw[hwf,←hxs,List.all_map];rw[show((elO xs).all ((λc=>haC c.s (ros X))∘aC))=true from h];rfl
  ·intro i hi ih h;have tc:=exs.2 _ (List.getElem_mem hi);obtain⟨c1,_⟩:=cof tc;refine w218_11 ?_;rw[Bl hi];refine lU (len:=(elO X).length) (λj=>∀b:Bool,(b||((ros X).drop j).any (heC (aC (elO xs)[i]).s))=haC (aC (elO xs)[i]).s (ros X)→L218_15 X xs (i:Int) b (j:Int) g Qf) ?_ ?_ 0 (Nat.zero_le _) false (by rw[List.drop_zero,Bool.false_or];rfl)
   ·intro b hb';rw[←hlen,List.drop_length,List.any_nil,Bool.or_false] at hb';refine w218_15 ?_;rw[Bg,wra (by omega)];refine Bi.2 ⟨λq=>?_,λq=>ih ?_⟩
    ·have q:b=false:=by simpa using q
     refine hQ .nil false tnil (λh=>by cases h) (λ_=>?_);rw[hwf,←hxs,List.all_map];have:(elO xs).all ((λc=>haC c.s (ros X))∘aC)=false:=by
      rw[List.all_eq_false];refine⟨_,List.getElem_mem hi,?_⟩;show ¬haC _ _=true;rw[←hb',q];simp
     rw[this];rfl
    ·have q:b=true:=by simpa using q
     rw[List.take_succ,List.getElem?_eq_getElem hi,List.all_append,h];simp[←hb',q]
   ·intro j hj ihj b hb';obtain⟨y,t,te,f0,g0,ty,h0,hl8,ht,tt,hj',hrow⟩:=roa hX hj hw;obtain⟨q1,q2,_⟩:=paf ty;rw[List.drop_eq_getElem_cons hj',List.any_cons,hrow] at hb';refine w218_15 ?_;rw[Bl hj,f0,g0,wra (by omega),q1,q2,geE hi,c1];refine Bi.2 ⟨λq=>ihj true (by rw[←hb',q];simp),λq=>⟨inB hj,⟨by simp,by omega⟩,Bi.2 ⟨λq4=>⟨inB hj,⟨by simp,by omega⟩,inB hi,ihj _ ?_⟩,λq4=>ihj false ?_⟩⟩⟩
    ·rw[←hb',q];simp only[heC,q4,Bool.true_and,Bool.false_or]
    ·rw[←hb',q];simp only[heC,q4,Bool.false_and,Bool.false_or]
 refine w218 hX ?_;refine lU (len:=(elO X).length) (λi=>fC (ros X)=fC ((ros X).drop i)→L218_3 p0 X (-1) (i:Int) g Qf) ?_ ?_ 0 (Nat.zero_le _) rfl
 ·intro h;refine w218_3 ?_;rw[Bg,show decide ((-1:Int)<0)=true from rfl,Be];rw[←hlen,List.drop_length] at h;exact hQ .nil false tnil (λh=>by cases h) (λ_=>by unfold whl;rw[h];rfl)
 ·intro i hi ih h;obtain⟨y,t,te,f0,g0,ty,h0,hl8,ht,tt,hi',hrow⟩:=roa hX hi hw;obtain⟨q1,q2,_,_,q5,_⟩:=paf ty;rw[List.drop_eq_getElem_cons hi',hrow,fC] at h;refine w218_3 ?_;rw[Bl hi,show decide ((-1:Int)<0)=true from rfl,Be,f0,g0,wra (by omega),q1,q2];refine⟨inB hi,⟨by simp,by omega⟩,Bi.2 ⟨λq=>⟨l,hl,goL hb,inB hi,⟨by simp,by omega⟩,rF l _ g hl q5 _ ⟨_,_,_,⟨rfl,rfl,rfl,trivial⟩,?_⟩⟩,λq=>ih ?_⟩⟩
  ·rw[if_pos q] at h;have hoi:=hok _ (List.getElem_mem hi') (aP y) (by rw[hrow];simp);have hfd:=(okc hoi q).1;obtain⟨n1,d1,d2,d3,d4⟩:=deo hl hfd;rw[d1];have hneg:decide (n1<0)=false:=decide_eq_false (by have:=d2.1;omega);refine w218_3 ?_;rw[hneg,Bf,Bf];have key:∃x,Ha TT 22 x∧GOk TT 22 g p0 0 x∧InB n1 (elO x).length∧L218_11 X (fld (gtE (elO x) n1) 2) 0 g Qf:=⟨l,hl,goL hb,d2,cons _ h _ d3 d4⟩
   exact Bi.2 ⟨λ_=>key,λ_=>key⟩
  ·rw[if_neg (by rw[q];simp)] at h;exact h
end Go.Proofs.YtiheejdkkjfenaaGreatDoor.Pa
namespace Go.Proofs.YtiheejdkkjfenaaGreatDoor.Pa
open Go Go.Proofs.YtiheejdkkjfenaaGreatDoor.Am
def Rk(g:Glob)(p0:Nat)(l:Dat)(m:Nat):Prop:=Rf g p0 l ((65536-m:Nat):Int) false
def Ree(g:Glob)(p0:Nat)(l:Dat):Prop:=∃n,Rf g p0 l n true
theorem Rf.pA4{g:Glob}{p0:Nat}{l:Dat}{n:Int}{b:Bool}(h:Rf g p0 l n b)(n':Int):Gu g p0 1 1∧Rf (gp g p0 1 (.int .i64 n')) p0 l n' b∧Kp [p0] 0 g (gp g p0 1 (.int .i64 n')):=by
 have e:gp g p0 1 (.int .i64 n')={g with boxes:=g.boxes.set p0 (.cells [.d l,.d (.int .i64 n'),.d (.bool b)])}:=by
  unfold gp;rw[h];rfl
 rw[e];exact⟨⟨_,h,by simp⟩,List.getElem?_set_self (List.getElem?_eq_some_iff.1 h).1,kpe g p0 _ 0⟩
theorem Rf.pA3{g:Glob}{p0:Nat}{l:Dat}{n:Int}{b:Bool}(h:Rf g p0 l n b)(b':Bool):Gu g p0 2 1∧Rf (gp g p0 2 (.bool b')) p0 l n b'∧Kp [p0] 0 g (gp g p0 2 (.bool b')):=by
 have e:gp g p0 2 (.bool b')={g with boxes:=g.boxes.set p0 (.cells [.d l,.d (.int .i64 n),.d (.bool b')])}:=by
  unfold gp;rw[h];rfl
 rw[e];exact⟨⟨_,h,by simp⟩,List.getElem?_set_self (List.getElem?_eq_some_iff.1 h).1,kpe g p0 _ 0⟩
theorem Rf.gn{g:Glob}{p0:Nat}{l:Dat}{n:Int}{b:Bool}(h:Rf g p0 l n b):GOk TT 3 g p0 1 (.int .i64 n):=gok uI szI rfl h rfl
theorem Rf.gb{g:Glob}{p0:Nat}{l:Dat}{n:Int}{b:Bool}(h:Rf g p0 l n b):GOk TT 4 g p0 2 (.bool b):=gok unB szB rfl h rfl
def RSp(l:Dat)(f:Nat):Prop:=∀(m p0:Nat) (X Y:Dat) (g:Glob) (Qf:OGP),m<f→m≤65536→f≤65537→Ha TT 86 X→Ha TT 24 Y→Rk g p0 l m→IU (DD l) ((65538-f)*2097152) (ros X) (roA Y)→
 (∀b m' g',uU (DD l) f m (ros X) (roA Y)=some (b,m')→Kp [p0] 0 g g'→Rk g' p0 l m'→Qf (.val (.d (.bool b))) g')→(∀g',uU (DD l) f m (ros X) (roA Y)=none→Kp [p0] 0 g g'→Ree g' p0 l→Qf (.val (.d (.bool false))) g')→
 EvF TT 185 [.ptr (some (p0,0)),X,Y] g Qf
section
variable{l X Y:Dat}{f m p0:Nat}{g:Glob}{x:Pt}{r:List Pt}{Qf:OGP}
theorem rco{xs:Dat}(hU:RSp l f)(hf:f≤65536)(tX:Ha TT 86 X)(tY:Ha TT 24 Y)(hY:roA Y=x::r)(hxs:Ha TT 81 xs)(hN:∀c∈(elO xs).map aC,c.fs.length≤2097152)
 (hi:IU (DD l) ((65538-(f+1))*2097152) (ros X) (x::r))
 (hi':∀c∈(elO xs).map aC,IU (DD l) ((65538-f)*2097152) ((ros X).filterMap (tu (seC c.s c.fs.length))) (List.replicate c.fs.length ayP++r)) (g0:Glob) (m0:Nat) (ha:Rk g0 p0 l m0) (hm:m0<f) (hm':m0≤65536)
 (h1:∀b m' g',aU (λm c=>uU (DD l) f m ((ros X).filterMap (tu (seC c.s c.fs.length))) (List.replicate c.fs.length ayP++r)) ((elO xs).map aC) m0=some (b,m')→Kp [p0] 0 g0 g'→Rk g' p0 l m'→Qf (.val (.d (.bool b))) g')
 (h2:∀g',aU (λm c=>uU (DD l) f m ((ros X).filterMap (tu (seC c.s c.fs.length))) (List.replicate c.fs.length ayP++r)) ((elO xs).map aC) m0=none→Kp [p0] 0 g0 g'→Ree g' p0 l→Qf (.val (.d (.bool false))) g'):
 L185_18 p0 X Y xs 0 g0 Qf:=by
 have ex:=hxs.els uC;have exl:=ex.1.1;have hB:(65538-(f+1))*2097152≤2^38:=by omega
 have hro:=hi.roO hB;obtain⟨hY0,hYt⟩:=roc hY;have hYl:=hi.le;have hYl':(roA Y).length=(elO Y).length:=List.length_map _;rw[hY] at hYl';generalize hgo:(λ(m:Nat) (c:Cn)=>uU (DD l) f m ((ros X).filterMap (tu (seC c.s c.fs.length))) (List.replicate c.fs.length ayP++r))=go at h1 h2;have hgo':∀m c,go m c=uU (DD l) f m ((ros X).filterMap (tu (seC c.s c.fs.length))) (List.replicate c.fs.length ayP++r):=λm c=>by rw[←hgo]
 refine lU (len:=(elO xs).length) (λi=>∀(g:Glob) (m:Nat),Kp [p0] 0 g0 g→Rk g p0 l m→m<f→m≤65536→
  aU go (((elO xs).drop i).map aC) m=aU go ((elO xs).map aC) m0→L185_18 p0 X Y xs (i:Int) g Qf) ?_ ?_ 0 (Nat.zero_le _) g0 m0 (Kp.refl _ _ _) ha hm hm' rfl
 ·intro g m k a q1 q2 e;refine w185_18 ?_;rw[Bg];rw[List.drop_length] at e;exact h1 false m g e.symm k a
 ·intro i hi0 ih g m k a q1 q2 e;have tc:=ex.2 _ (List.getElem_mem hi0);obtain⟨f1,f2,f3,f4⟩:=cof tc;have hmem:aC (elO xs)[i]∈(elO xs).map aC:=List.mem_map_of_mem (List.getElem_mem hi0);have hn:=hN _ hmem;have hinv:=hi' _ hmem;rw[dm hi0] at e;refine w185_18 ?_;rw[Bl hi0,geE hi0,f1,f2,dro,wra (by omega)];refine⟨false,a.gb,?_⟩;rw[show(!false)=true from rfl,Be];refine⟨inB hi0,inB hi0,spi tX f3 (by omega) hro _ λv Y1 tY1 hv hY1=>⟨Y1,tY1,hv,⟨by omega,by omega,by omega⟩,?_⟩⟩;refine ank (tai tY) (by show _+(elO Y).tail.length≤_;rw[List.length_tail];omega) _ λv2 x1 tx1 hv2 hx1=>⟨x1,tx1,hv2,?_⟩
  have hrow:roA x1=List.replicate (aC (elO xs)[i]).fs.length ayP++r:=by rw[hx1];congr 1
  rw[←hY1,←hrow] at hinv;refine hU m p0 Y1 x1 g _ q1 q2 (by omega) tY1 tx1 a hinv (λb m' g' eu ku au=>⟨b,rfl,?_⟩) (λg' eu ku au=>⟨false,rfl,?_⟩)
  ·rw[hY1,hrow,←hgo'] at eu;have kk:=k.trans ku;cases b with
   |true=>
    rw[Be];refine h1 true m' g' ?_ kk au;rw[←e];simp only[aU,eu]
   |false=>
    rw[Bf];have hle:=usU _ _ _ _ _ _ _ ((hgo' _ _).symm.trans eu);refine ih g' m' kk au (by omega) (by omega) ?_;rw[←e];simp only[aU,eu]
  ·rw[hY1,hrow,←hgo'] at eu;have hnone:aU go ((elO xs).map aC) m0=none:=by rw[←e];simp only[aU,eu]
   have kk:=k.trans ku;rw[Bf];refine w185_18 ?_;refine Bi.2 ⟨λ_=>?_,λ_=>h2 g' hnone kk au⟩;obtain⟨n,au'⟩:=au;refine⟨true,au'.gb,?_⟩;rw[show(!true)=false from rfl,Bf];exact h2 g' hnone kk ⟨n,au'⟩
theorem rta{sem:Pt→Option (List Pt)}{Y1:Dat}(hU:RSp l f)(hm:m<f)(hm':m≤65536)(hf:f≤65536)(tY:Ha TT 24 Y)(ha:Rk g p0 l m)(hY:roA Y=x::r)
 (hi':IU (DD l) ((65538-f)*2097152) ((ros X).filterMap (tu sem)) r) (tY1:Ha TT 86 Y1) (hY1:ros Y1=(ros X).filterMap (tu sem))
 (h1:∀b m' g',uU (DD l) f m ((ros X).filterMap (tu sem)) r=some (b,m')→Kp [p0] 0 g g'→Rk g' p0 l m'→Qf (.val (.d (.bool b))) g')
 (h2:∀g',uU (DD l) f m ((ros X).filterMap (tu sem)) r=none→Kp [p0] 0 g g'→Ree g' p0 l→Qf (.val (.d (.bool false))) g'):
 InS 1 ((elO Y).length:Int) (elO Y).length∧
  EvF TT 185 [Dat.ptr (some (p0,0)),Y1,Dat.sl 5 (List.drop 1 (List.take ((elO Y).length:Int).toNat (elO Y)))] g (KQ Qf λv g'=>∃b,v=Val.d (Dat.bool b)∧Qf (Out.val (Val.d (Dat.bool b))) g'):=by
 have hY0:=(roc hY).1;refine⟨⟨by omega,by omega,by omega⟩,?_⟩;rw[dro];rw[←hY1,←tal hY] at hi' h1 h2;exact hU m p0 Y1 _ g _ hm hm' (by omega) tY1 (tai tY) ha hi' (λb m' g' e k a=>⟨b,rfl,h1 b m' g' e k a⟩) (λg' e k a=>⟨false,rfl,h2 g' e k a⟩)
theorem uok(hl:Ha TT 22 l)(hF:Few (DD l) 2097152):∀f,RSp l f
 |0=>λm _ _ _ _ _ h=>by omega
 |f+1=>by
  intro m p0 X Y g Qf hm hm' hf tX tY ha hi h1 h2;have hU:=uok hl hF f;refine w185 tX tY ⟨_,ha.gn,w185_2 ?_⟩;cases m with
  |zero=>
   obtain⟨p1,p2,p3⟩:=ha.pA3 true;rw[show(((65536-0:Nat):Int)==65536)=true from rfl,Be];refine⟨p1,true,p2.gb,?_⟩;rw[Be];exact h2 _ rfl p3 ⟨_,p2⟩
  |succ m=>
   have hne:(((65536-(m+1):Nat):Int)==65536)=false:=by rw[beq_eq_false_iff_ne];omega
   rw[hne,Bf];refine⟨false,ha.gb,?_⟩;rw[Bf];obtain⟨p1,p2,p3⟩:=ha.pA4 (IntKind.i64.wrap (((65536-(m+1):Nat):Int)+1));refine w185_5 ⟨_,ha.gn,p1,?_⟩;have p2':Rk (gp g p0 1 (.int .i64 (IntKind.i64.wrap (((65536-(m+1):Nat):Int)+1)))) p0 l m:=by
    have e:IntKind.i64.wrap (((65536-(m+1):Nat):Int)+1)=((65536-m:Nat):Int):=by rw[wra (by omega)];omega
    rw[e] at p2⊢;exact p2
   generalize gp g p0 1 (.int .i64 (IntKind.i64.wrap (((65536-(m+1):Nat):Int)+1)))=G at*;have hYl:(roA Y).length=(elO Y).length:=List.length_map _;refine Bi.2 ⟨λq=>?_,λq=>?_⟩
   ·have hq0:((elO Y).length:Int)=0:=by simpa using q
    have h0:roA Y=[]:=List.eq_nil_of_length_eq_zero (by omega);have hXl:(((elO X).length:Int)==0)=(ros X).isEmpty:=by
     have:(ros X).length=(elO X).length:=List.length_map _;rw[←this];cases ros X with
     |nil=>rfl
     |cons a b=>exact decide_eq_false (by simp;omega)
    rw[hXl];rw[h0] at h1;exact h1 _ m G rfl p3 p2'
   ·have hY0:0<(elO Y).length:=by
     have:((elO Y).length:Int)≠0:=by simpa using q
     omega
    have hrow:roA Y=aP (elO Y)[0]::(elO Y).tail.map aP:=mah hY0;have ty0:=(tY.els uP).2 _ (List.getElem_mem hY0);have hg0:gtE (elO Y) 0=(elO Y)[0]:=geE (i:=0) hY0;obtain⟨q1,q2,q3,q4,q5,t3⟩:=paf ty0;have e3:=t3.els uP;have hl3:(elO (fld (elO Y)[0] 3)).length=(ars (aP (elO Y)[0])).length:=by rw[←q4];exact(List.length_map _).symm
    rw[hrow] at hi h1 h2;have hB:(65538-(f+1))*2097152≤2^38:=by omega
    have hBf:(65538-(f+1))*2097152+2097152=(65538-f)*2097152:=by omega
    have hro:=hi.roO hB;have hYle:=hi.le;simp only[List.length_cons,List.length_map,List.length_tail] at hYle;have hxo:=hi.row _ (List.mem_cons_self ..);refine w185_8 ?_;rw[hg0,q1,q2,q3,hl3];refine⟨⟨by simp,by omega⟩,Bi.2 ⟨λk4=>?_,λk4=>Bi.2 ⟨λk3=>?_,λk3=>w185_14 ?_⟩⟩⟩
    ·have hu:uU (DD l) (f+1) (m+1) (ros X) (aP (elO Y)[0]::(elO Y).tail.map aP)=uU (DD l) f m ((ros X).filterMap (tu (seC (nae (aP (elO Y)[0])) (ars (aP (elO Y)[0])).length))) (ars (aP (elO Y)[0])++(elO Y).tail.map aP):=by
      conv=>lhs;unfold uU
      rw[if_pos k4]
     rw[hu] at h1 h2;have hnf:=nFe hF (nae (aP (elO Y)[0]));rw[(okc hxo k4).2] at hnf;refine spi tX q5 (by omega) hro _ λv Y1 tY1 hv hY1=>⟨Y1,tY1,hv,fiP (by omega),⟨by omega,by omega,by omega⟩,fiP ?_,?_⟩
     ·show([]++elO (fld (elO Y)[0] 3)).length+(List.drop 1 (List.take ((elO Y).length:Int).toNat (elO Y))).length≤_;rw[dro,List.nil_append,List.length_tail];omega
     ·rw[dro];have tZ:Ha TT 24 (.sl 5 ([]++elO (fld (elO Y)[0] 3)++elO (Dat.sl 5 (elO Y).tail))):=by
       refine tya (ftP ?_) λz hz=>?_
       ·show([]++elO (fld (elO Y)[0] 3)++(elO Y).tail).length≤_;rw[List.nil_append,List.length_append,List.length_tail];omega
       ·rw[List.nil_append] at hz;rcases List.mem_append.1 hz with hz|hz
        ·exact e3.2 z hz
        ·exact(tY.els uP).2 z (List.mem_of_mem_tail hz)
      have hZ:roA (.sl 5 ([]++elO (fld (elO Y)[0] 3)++elO (Dat.sl 5 (elO Y).tail)))=ars (aP (elO Y)[0])++(elO Y).tail.map aP:=by
       show([]++elO (fld (elO Y)[0] 3)++(elO Y).tail).map aP=_;rw[List.nil_append,List.map_append,←q4];rfl
      have hinv:=hi.con hF k4;rw[hBf,←hY1,←hZ] at hinv;rw[←hY1,←hZ] at h1 h2;exact hU m p0 Y1 _ G _ (by omega) (by omega) (by omega) tY1 tZ p2' hinv (λb m' g' e k a=>⟨b,rfl,h1 b m' g' e (p3.trans k) a⟩) (λg' e k a=>⟨false,rfl,h2 g' e (p3.trans k) a⟩)
    ·have hu:uU (DD l) (f+1) (m+1) (ros X) (aP (elO Y)[0]::(elO Y).tail.map aP)=uU (DD l) f m ((ros X).filterMap (tu (seI (nuP (aP (elO Y)[0]))))) ((elO Y).tail.map aP):=by
      conv=>lhs;unfold uU
      rw[if_neg (by rw[k4];simp),if_pos k3]
     rw[hu] at h1 h2;refine rss tX hro _ λv Y1 tY1 hv hY1=>⟨Y1,tY1,hv,?_⟩
     refine rta (X:=X) hU (by omega) (by omega) (by omega) tY p2' hrow ?_ tY1 hY1 (λb m' g' e k a=>h1 b m' g' e (p3.trans k) a) (λg' e k a=>h2 g' e (p3.trans k) a);rw[←hBf];exact hi.int
    ·have hu:uU (DD l) (f+1) (m+1) (ros X) (aP (elO Y)[0]::(elO Y).tail.map aP)=match whl (DD l) (ros X) with
       |none=>uU (DD l) f m ((ros X).filterMap (tu sW)) ((elO Y).tail.map aP)
       |some cs=>aU (λm c=>uU (DD l) f m ((ros X).filterMap (tu (seC c.s c.fs.length))) (List.replicate c.fs.length ayP++(elO Y).tail.map aP)) cs m:=by
      conv=>lhs;unfold uU
      simp only[k4,k3,Bool.false_eq_true,if_false];cases whl (DD l) (ros X)<;>rfl
     rw[hu] at h1 h2;refine whe hl tX p2' hro (λq hq=>hi.rows q hq) _ λxs b tx hb1 hb0 us hus=>⟨xs,tx,b,hus,?_⟩
     cases b with
     |true=>
      have hw:=hb1 rfl;rw[hw] at h1 h2;rw[show(!true)=false from rfl,Bf];have hcs:∃s,(elO xs).map aC=cO (DD l) s:=by
       unfold whl at hw;split at hw
       ·cases hw
       ·rename_i s hs;split at hw
        ·exact⟨s,(Option.some.inj hw).symm⟩
        ·cases hw
      obtain⟨s,hcs⟩:=hcs;refine rco hU (by omega) tX tY hrow tx (λc hc=>?_) hi (λc hc=>?_) G m p2' (by omega) (by omega) (λb m' g' e k a=>h1 b m' g' e (p3.trans k) a) (λg' e k a=>h2 g' e (p3.trans k) a)
      ·rw[hcs] at hc;obtain⟨d,d1,d2⟩:=cnO hc;exact hF d d1 c d2
      ·rw[hcs] at hc;rw[←hBf];exact hi.cons hF hc
     |false=>
      have hw:=hb0 rfl;rw[hw] at h1 h2;rw[show(!false)=true from rfl,Be];refine rss tX hro _ λv Y1 tY1 hv hY1=>⟨Y1,tY1,hv,?_⟩
      refine rta (X:=X) hU (by omega) (by omega) (by omega) tY p2' hrow ?_ tY1 hY1 (λb m' g' e k a=>h1 b m' g' e (p3.trans k) a) (λg' e k a=>h2 g' e (p3.trans k) a);rw[←hBf];exact hi.wA4
end
end Go.Proofs.YtiheejdkkjfenaaGreatDoor.Pa
