/- What functions of the program do, printed by wip/tools/sx/sx.py. Words: letters, keywords, what the two packages say of them. Tokens of the program's lexer: one token, its text. The program's question whether a text is a word of a kind. -/
import Derived.Test.YtgmapdcdmomioaaGreatDoorRF
set_option linter.all false
set_option autoImplicit false
set_option maxRecDepth 100000
namespace Go.Proofs.YtgmapdcdmomioaaGreatDoor.Pa
open Go Go.Proofs.YtgmapdcdmomioaaGreatDoor.Am
def lo117:List CutI:=[]
theorem w117{n0:Int}{g:Glob}{Qf:OGP}
 (h:Br (decide (97≤n0)) (Qf (.val (.d (.bool (decide (n0≤122))))) g) (Qf (.val (.d (.bool false))) g)):
 EvF TT 117 [.int .u8 n0] g Qf:=
 sx_fun (rk:=rk) (fn:=Tryz.f117) (loops:=lo117) (joins:=[]) (n:=100000) (args:=[(5,.int .u8 n0)]) rfl rfl rfl rfl ⟨tyInt rfl,trivial⟩ (by kernel_rfl) h
def lo118:List CutI:=[]
theorem w118{n0:Int}{g:Glob}{Qf:OGP}
 (h:Br (decide (65≤n0)) (Qf (.val (.d (.bool (decide (n0≤90))))) g) (Qf (.val (.d (.bool false))) g)):
 EvF TT 118 [.int .u8 n0] g Qf:=
 sx_fun (rk:=rk) (fn:=Tryz.f118) (loops:=lo118) (joins:=[]) (n:=100000) (args:=[(5,.int .u8 n0)]) rfl rfl rfl rfl ⟨tyInt rfl,trivial⟩ (by kernel_rfl) h
def lo121:List CutI:=[]
theorem w121{n0:Int}{g:Glob}{Qf:OGP}
 (h:Br (decide (48≤n0)) (Qf (.val (.d (.bool (decide (n0≤57))))) g) (Qf (.val (.d (.bool false))) g)):
 EvF TT 121 [.int .u8 n0] g Qf:=
 sx_fun (rk:=rk) (fn:=Tryz.f121) (loops:=lo121) (joins:=[]) (n:=100000) (args:=[(5,.int .u8 n0)]) rfl rfl rfl rfl ⟨tyInt rfl,trivial⟩ (by kernel_rfl) h
def lo140:List CutI:=[]
theorem w140{n0:Int}{g:Glob}{Qf:OGP}
 (h:EvF TT 117 [.int .u8 n0] g (KQ Qf λv g'=>∃b,v=.d (.bool b)∧Br b (Qf (.val (.d (.bool true))) g') (EvF TT 118 [.int .u8 n0] g' (KQ Qf λv g'=>∃b,v=.d (.bool b)∧Br b (Qf (.val (.d (.bool true))) g') (EvF TT 121 [.int .u8 n0] g' (KQ Qf λv g'=>∃b,v=.d (.bool b)∧Br b (Qf (.val (.d (.bool true))) g') (Qf (.val (.d (.bool (n0==95)))) g'))))))):
 EvF TT 140 [.int .u8 n0] g Qf:=
 sx_fun (rk:=rk) (fn:=Tryz.f140) (loops:=lo140) (joins:=[]) (n:=100000) (args:=[(5,.int .u8 n0)]) rfl rfl rfl rfl ⟨tyInt rfl,trivial⟩ (by kernel_rfl) h
def L194_2(s0:List UInt8)(x1:Dat)(n5:Int)(g:Glob)(Qf:OGP):Prop:=CutP TT Tryz.f194 [1,0,1,0] Qf (mkC TT 194 Tryz.f194 2 [(0,.v 9 (.str s0)),(1,.v 61 (x1)),(5,.v 3 (.int .i64 n5))] [] g)
def lo194:List CutI:=[⟨2,[(0,.keep),(1,.keep),(5,.keep)],[]⟩]
theorem w194{s0:List UInt8}{x1:Dat}{g:Glob}{Qf:OGP}(h0:s0.length≤2^40)(h1:HasTy TT 61 x1)
 (h:L194_2 s0 x1 0 g Qf):
 EvF TT 194 [.str s0,x1] g Qf:=
 sx_fun (rk:=rk) (fn:=Tryz.f194) (loops:=lo194) (joins:=[]) (n:=100000) (args:=[(9,.str s0),(61,x1)]) rfl rfl rfl rfl ⟨tyStr rfl h0,h1,trivial⟩ (by kernel_rfl) h
theorem w194_2{s0:List UInt8}{x1:Dat}{n5:Int}{g:Glob}{Qf:OGP}
 (h:Br (decide (n5<(↑(elsOf x1).length:Int))) (InB n5 (elsOf x1).length∧Br (strOf (fld (getE (elsOf x1) n5) 0)==s0) (Qf (.val (.d (.bool true))) g) (L194_2 s0 x1 (IntKind.i64.wrap (n5+1)) g Qf)) (Qf (.val (.d (.bool false))) g)):
 L194_2 s0 x1 n5 g Qf:=sx_cut (rk:=rk) (loops:=lo194) (joins:=[]) (n:=100000) (by kernel_rfl) h
def lo120:List CutI:=[]
theorem w120{s0:List UInt8}{g:Glob}{Qf:OGP}(h0:s0.length≤2^40)
 (h:EvF TT 194 [.str s0,.sl 1 [.str [116,121,112,101],.str [102,117,110],.str [108,101,116],.str [114,101,99],.str [105,110],.str [99,97,115,101],.str [111,102],.str [101,110,100],.str [105,102],.str [116,104,101,110],.str [101,108,115,101],.str [112,114,105,110,116]]] g (KQ Qf λv g'=>∃b,v=.d (.bool b)∧Qf (.val (.d (.bool b))) g')):
 EvF TT 120 [.str s0] g Qf:=
 sx_fun (rk:=rk) (fn:=Tryz.f120) (loops:=lo120) (joins:=[]) (n:=100000) (args:=[(9,.str s0)]) rfl rfl rfl rfl ⟨tyStr rfl h0,trivial⟩ (by kernel_rfl) h
def L72_4(s0:List UInt8)(n5:Int)(g:Glob)(Qf:OGP):Prop:=CutP TT Tryz.f72 [1,1,0,1,0] Qf (mkC TT 72 Tryz.f72 2 [(0,.v 9 (.str s0)),(5,.v 3 (.int .i64 n5))] [] g)
def lo72:List CutI:=[⟨4,[(0,.keep),(5,.keep)],[]⟩]
theorem w72{s0:List UInt8}{b1:Bool}{g:Glob}{Qf:OGP}(h0:s0.length≤2^40)
 (h:Br (decide ((↑s0.length:Int)<1)) (Qf (.val (.d (.bool false))) g) (Br (decide (32<(↑s0.length:Int))) (Qf (.val (.d (.bool false))) g) (Br b1 (InB 0 s0.length∧EvF TT 117 [.int .u8 (byteAt s0 0)] g (KQ Qf λv g'=>∃b,v=.d (.bool b)∧Br (!b) (Qf (.val (.d (.bool false))) g') (Br (!b1) (InB 0 s0.length∧EvF TT 118 [.int .u8 (byteAt s0 0)] g' (KQ Qf λv g'=>∃b,v=.d (.bool b)∧Br (!b) (Qf (.val (.d (.bool false))) g') (L72_4 s0 1 g' Qf))) (L72_4 s0 1 g' Qf)))) (Br (!b1) (InB 0 s0.length∧EvF TT 118 [.int .u8 (byteAt s0 0)] g (KQ Qf λv g'=>∃b,v=.d (.bool b)∧Br (!b) (Qf (.val (.d (.bool false))) g') (L72_4 s0 1 g' Qf))) (L72_4 s0 1 g Qf))))):
 EvF TT 72 [.str s0,.bool b1] g Qf:=
 sx_fun (rk:=rk) (fn:=Tryz.f72) (loops:=lo72) (joins:=[]) (n:=100000) (args:=[(9,.str s0),(4,.bool b1)]) rfl rfl rfl rfl ⟨tyStr rfl h0,tyBool rfl,trivial⟩ (by kernel_rfl) h
theorem w72_4{s0:List UInt8}{n5:Int}{g:Glob}{Qf:OGP}
 (h:Br (decide (n5<(↑s0.length:Int))) (InB n5 s0.length∧EvF TT 140 [.int .u8 (byteAt s0 n5)] g (KQ Qf λv g'=>∃b,v=.d (.bool b)∧Br (!b) (Qf (.val (.d (.bool false))) g') (L72_4 s0 (IntKind.i64.wrap (n5+1)) g' Qf))) (Qf (.val (.d (.bool true))) g)):
 L72_4 s0 n5 g Qf:=sx_cut (rk:=rk) (loops:=lo72) (joins:=[]) (n:=100000) (by kernel_rfl) h
def lo71:List CutI:=[]
theorem w71{s0:List UInt8}{g:Glob}{Qf:OGP}(h0:s0.length≤2^40)
 (h:EvF TT 72 [.str s0,.bool true] g (KQ Qf λv g'=>∃b,v=.d (.bool b)∧Br b (EvF TT 120 [.str s0] g' (KQ Qf λv g'=>∃b,v=.d (.bool b)∧Qf (.val (.d (.bool !b))) g')) (Qf (.val (.d (.bool false))) g'))):
 EvF TT 71 [.str s0] g Qf:=
 sx_fun (rk:=rk) (fn:=Tryz.f71) (loops:=lo71) (joins:=[]) (n:=100000) (args:=[(9,.str s0)]) rfl rfl rfl rfl ⟨tyStr rfl h0,trivial⟩ (by kernel_rfl) h
def lo73:List CutI:=[]
theorem w73{s0:List UInt8}{g:Glob}{Qf:OGP}(h0:s0.length≤2^40)
 (h:EvF TT 72 [.str s0,.bool false] g (KQ Qf λv g'=>∃b,v=.d (.bool b)∧Qf (.val (.d (.bool b))) g')):
 EvF TT 73 [.str s0] g Qf:=
 sx_fun (rk:=rk) (fn:=Tryz.f73) (loops:=lo73) (joins:=[]) (n:=100000) (args:=[(9,.str s0)]) rfl rfl rfl rfl ⟨tyStr rfl h0,trivial⟩ (by kernel_rfl) h
def lo124:List CutI:=[]
theorem w124{n0:Int}{g:Glob}{Qf:OGP}
 (h:Br (decide (-1073741824≤n0)) (Qf (.val (.d (.bool (decide (n0≤1073741823))))) g) (Qf (.val (.d (.bool false))) g)):
 EvF TT 124 [.int .i64 n0] g Qf:=
 sx_fun (rk:=rk) (fn:=Tryz.f124) (loops:=lo124) (joins:=[]) (n:=100000) (args:=[(3,.int .i64 n0)]) rfl rfl rfl rfl ⟨tyInt rfl,trivial⟩ (by kernel_rfl) h
def lo195:List CutI:=[]
theorem w195{n0:Int}{g:Glob}{Qf:OGP}
 (h:Br (decide (-1073741824≤n0)) (Qf (.val (.d (.bool (decide (n0<1073741824))))) g) (Qf (.val (.d (.bool false))) g)):
 EvF TT 195 [.int .i64 n0] g Qf:=
 sx_fun (rk:=rk) (fn:=Tryz.f195) (loops:=lo195) (joins:=[]) (n:=100000) (args:=[(3,.int .i64 n0)]) rfl rfl rfl rfl ⟨tyInt rfl,trivial⟩ (by kernel_rfl) h
def lo220:List CutI:=[]
theorem w220{g:Glob}{Qf:OGP}
 (h:Qf (.val (.d (.agg [.str [],.str [43],.str [45],.str [42],.str [47],.str [37],.str [60],.str [61,61]]))) g):
 EvF TT 220 [] g Qf:=
 sx_fun (rk:=rk) (fn:=Tryz.f220) (loops:=lo220) (joins:=[]) (n:=100000) (args:=[]) rfl rfl rfl rfl trivial (by kernel_rfl) h
def L196_2(s0:List UInt8)(x5:Dat)(n6:Int)(g:Glob)(Qf:OGP):Prop:=CutP TT Tryz.f196 [1,0,1,0] Qf (mkC TT 196 Tryz.f196 1 [(0,.v 9 (.str s0)),(5,.v 205 (x5)),(6,.v 3 (.int .i64 n6))] [] g)
def lo196:List CutI:=[⟨2,[(0,.keep),(5,.keep),(6,.keep)],[]⟩]
theorem w196{s0:List UInt8}{g:Glob}{Qf:OGP}(h0:s0.length≤2^40)
 (h:EvF TT 220 [] g (KQ Qf λv g'=>∃x,HasTy TT 205 x∧v=.d x∧L196_2 s0 x 0 g' Qf)):
 EvF TT 196 [.str s0] g Qf:=
 sx_fun (rk:=rk) (fn:=Tryz.f196) (loops:=lo196) (joins:=[]) (n:=100000) (args:=[(9,.str s0)]) rfl rfl rfl rfl ⟨tyStr rfl h0,trivial⟩ (by kernel_rfl) h
theorem w196_2{s0:List UInt8}{x5:Dat}{n6:Int}{g:Glob}{Qf:OGP}
 (h:Br (decide (n6<8)) (Br (n6==7) (Br (strOf (fld x5 7)==s0) (Br (decide (0<n6)) (Qf (.val (.d (.int .i64 n6))) g) (L196_2 s0 x5 (IntKind.i64.wrap (n6+1)) g Qf)) (L196_2 s0 x5 (IntKind.i64.wrap (n6+1)) g Qf)) (Br (n6==6) (Br (strOf (fld x5 6)==s0) (Br (decide (0<n6)) (Qf (.val (.d (.int .i64 n6))) g) (L196_2 s0 x5 (IntKind.i64.wrap (n6+1)) g Qf)) (L196_2 s0 x5 (IntKind.i64.wrap (n6+1)) g Qf)) (Br (n6==5) (Br (strOf (fld x5 5)==s0) (Br (decide (0<n6)) (Qf (.val (.d (.int .i64 n6))) g) (L196_2 s0 x5 (IntKind.i64.wrap (n6+1)) g Qf)) (L196_2 s0 x5 (IntKind.i64.wrap (n6+1)) g Qf)) (Br (n6==4) (Br (strOf (fld x5 4)==s0) (Br (decide (0<n6)) (Qf (.val (.d (.int .i64 n6))) g) (L196_2 s0 x5 (IntKind.i64.wrap (n6+1)) g Qf)) (L196_2 s0 x5 (IntKind.i64.wrap (n6+1)) g Qf)) (Br (n6==3) (Br (strOf (fld x5 3)==s0) (Br (decide (0<n6)) (Qf (.val (.d (.int .i64 n6))) g) (L196_2 s0 x5 (IntKind.i64.wrap (n6+1)) g Qf)) (L196_2 s0 x5 (IntKind.i64.wrap (n6+1)) g Qf)) (Br (n6==2) (Br (strOf (fld x5 2)==s0) (Br (decide (0<n6)) (Qf (.val (.d (.int .i64 n6))) g) (L196_2 s0 x5 (IntKind.i64.wrap (n6+1)) g Qf)) (L196_2 s0 x5 (IntKind.i64.wrap (n6+1)) g Qf)) (Br (n6==1) (Br (strOf (fld x5 1)==s0) (Br (decide (0<n6)) (Qf (.val (.d (.int .i64 n6))) g) (L196_2 s0 x5 (IntKind.i64.wrap (n6+1)) g Qf)) (L196_2 s0 x5 (IntKind.i64.wrap (n6+1)) g Qf)) (Br (n6==0) (Br (strOf (fld x5 0)==s0) (Br (decide (0<n6)) (Qf (.val (.d (.int .i64 n6))) g) (L196_2 s0 x5 (IntKind.i64.wrap (n6+1)) g Qf)) (L196_2 s0 x5 (IntKind.i64.wrap (n6+1)) g Qf)) False)))))))) (Qf (.val (.d (.int .i64 0))) g)):
 L196_2 s0 x5 n6 g Qf:=sx_cut (rk:=rk) (loops:=lo196) (joins:=[]) (n:=100000) (by kernel_rfl) h
def lo223:List CutI:=[]
theorem w223{g:Glob}{Qf:OGP}
 (h:Qf (.val (.uq 1 [.str [],.str [43],.str [45],.str [42],.str [47],.str [37],.str [60],.str [61,61]])) g):
 EvF TT 223 [] g Qf:=
 sx_fun (rk:=rk) (fn:=Tryz.f223) (loops:=lo223) (joins:=[]) (n:=100000) (args:=[]) rfl rfl rfl rfl trivial (by kernel_rfl) h
def L203_2(s0:List UInt8)(n3:Int)(g:Glob)(Qf:OGP):Prop:=CutP TT Tryz.f203 [1,0,1,0] Qf (mkC TT 203 Tryz.f203 1 [(0,.v 9 (.str s0)),(3,.v 3 (.int .i64 n3))] [] g)
def lo203:List CutI:=[⟨2,[(0,.keep),(3,.keep)],[]⟩]
theorem w203{s0:List UInt8}{g:Glob}{Qf:OGP}(h0:s0.length≤2^40)
 (h:L203_2 s0 1 g Qf):
 EvF TT 203 [.str s0] g Qf:=
 sx_fun (rk:=rk) (fn:=Tryz.f203) (loops:=lo203) (joins:=[]) (n:=100000) (args:=[(9,.str s0)]) rfl rfl rfl rfl ⟨tyStr rfl h0,trivial⟩ (by kernel_rfl) h
theorem w203_2{s0:List UInt8}{n3:Int}{g:Glob}{Qf:OGP}
 (h:EvF TT 223 [] g (KQ Qf λv g'=>∃x,HasTy TT 61 x∧RetV v x∧Br (decide (n3<(↑(elsOf x).length:Int))) (EvF TT 223 [] g' (KQ Qf λv g'=>∃x,HasTy TT 61 x∧RetV v x∧InB n3 (elsOf x).length∧Br (strOf (fld (getE (elsOf x) n3) 0)==s0) (Qf (.val (.d (.int .i64 n3))) g') (L203_2 s0 (IntKind.i64.wrap (n3+1)) g' Qf))) (Qf (.val (.d (.int .i64 0))) g'))):
 L203_2 s0 n3 g Qf:=sx_cut (rk:=rk) (loops:=lo203) (joins:=[]) (n:=100000) (by kernel_rfl) h
def lo165:List CutI:=[]
theorem w165{n0:Int}{g:Glob}{Qf:OGP}
 (h:Br (decide (97≤n0)) (Qf (.val (.d (.bool (decide (n0≤122))))) g) (Qf (.val (.d (.bool false))) g)):
 EvF TT 165 [.int .i32 n0] g Qf:=
 sx_fun (rk:=rk) (fn:=Tryz.f165) (loops:=lo165) (joins:=[]) (n:=100000) (args:=[(21,.int .i32 n0)]) rfl rfl rfl rfl ⟨tyInt rfl,trivial⟩ (by kernel_rfl) h
def lo167:List CutI:=[]
theorem w167{n0:Int}{g:Glob}{Qf:OGP}
 (h:Br (decide (65≤n0)) (Qf (.val (.d (.bool (decide (n0≤90))))) g) (Qf (.val (.d (.bool false))) g)):
 EvF TT 167 [.int .i32 n0] g Qf:=
 sx_fun (rk:=rk) (fn:=Tryz.f167) (loops:=lo167) (joins:=[]) (n:=100000) (args:=[(21,.int .i32 n0)]) rfl rfl rfl rfl ⟨tyInt rfl,trivial⟩ (by kernel_rfl) h
def lo168:List CutI:=[]
theorem w168{n0:Int}{g:Glob}{Qf:OGP}
 (h:Br (decide (48≤n0)) (Qf (.val (.d (.bool (decide (n0≤57))))) g) (Qf (.val (.d (.bool false))) g)):
 EvF TT 168 [.int .i32 n0] g Qf:=
 sx_fun (rk:=rk) (fn:=Tryz.f168) (loops:=lo168) (joins:=[]) (n:=100000) (args:=[(21,.int .i32 n0)]) rfl rfl rfl rfl ⟨tyInt rfl,trivial⟩ (by kernel_rfl) h
def lo164:List CutI:=[]
theorem w164{n0:Int}{g:Glob}{Qf:OGP}
 (h:EvF TT 165 [.int .i32 n0] g (KQ Qf λv g'=>∃b,v=.d (.bool b)∧Br b (Qf (.val (.d (.bool true))) g') (EvF TT 167 [.int .i32 n0] g' (KQ Qf λv g'=>∃b,v=.d (.bool b)∧Br b (Qf (.val (.d (.bool true))) g') (EvF TT 168 [.int .i32 n0] g' (KQ Qf λv g'=>∃b,v=.d (.bool b)∧Br b (Qf (.val (.d (.bool true))) g') (Qf (.val (.d (.bool (n0==95)))) g'))))))):
 EvF TT 164 [.int .i32 n0] g Qf:=
 sx_fun (rk:=rk) (fn:=Tryz.f164) (loops:=lo164) (joins:=[]) (n:=100000) (args:=[(21,.int .i32 n0)]) rfl rfl rfl rfl ⟨tyInt rfl,trivial⟩ (by kernel_rfl) h
def L163_2(s0:List UInt8)(f1:FuncId)(c1:List Dat)(s8:List UInt8)(q8:Nat)(g:Glob)(Qf:OGP):Prop:=CutP TT Tryz.f163 [1,0,1,0] Qf (mkC TT 163 Tryz.f163 2 [(0,.v 9 (.str s0)),(1,.v 175 (.clo f1 c1)),(8,.loc 8 0 0)] [(8,.iter s8 q8)] g)
def lo163:List CutI:=[⟨2,[(0,.keep),(1,.keep),(8,.keep)],[(8,.iter)]⟩]
theorem w163{s0:List UInt8}{f1:FuncId}{c1:List Dat}{g:Glob}{Qf:OGP}(h0:s0.length≤2^40)
 (h:L163_2 s0 f1 c1 s0 0 g Qf):
 EvF TT 163 [.str s0,.clo f1 c1] g Qf:=
 sx_fun (rk:=rk) (fn:=Tryz.f163) (loops:=lo163) (joins:=[]) (n:=100000) (args:=[(9,.str s0),(175,.clo f1 c1)]) rfl rfl rfl rfl ⟨tyStr rfl h0,tyClo rfl,trivial⟩ (by kernel_rfl) h
theorem w163_2{s0:List UInt8}{f1:FuncId}{c1:List Dat}{s8:List UInt8}{q8:Nat}{g:Glob}{Qf:OGP}
 (h:Br (decide (q8<s8.length)) (EvF TT f1 (.int .i32 (runeAt s8 q8)::c1) g (KQ Qf λv g'=>∃b,v=.d (.bool b)∧Br (!b) (Qf (.val (.d (.int .i64 (↑q8:Int)))) g') (L163_2 s0 f1 c1 s8 (q8+runeLen s8 q8) g' Qf))) (Qf (.val (.d (.int .i64 (↑s0.length:Int)))) g)):
 L163_2 s0 f1 c1 s8 q8 g Qf:=sx_cut (rk:=rk) (loops:=lo163) (joins:=[]) (n:=100000) (by kernel_rfl) h
def lo208:List CutI:=[]
theorem w208{s0:List UInt8}{g:Glob}{Qf:OGP}(h0:s0.length≤2^40)
 (h:Br (s0==[116,121,112,101]) (Br (s0==[116,121,112,101]) (Qf (.val (.d (.bool true))) g) (Qf (.val (.d (.bool false))) g)) (Br (s0==[102,117,110]) (Br (s0==[102,117,110]) (Qf (.val (.d (.bool true))) g) (Qf (.val (.d (.bool false))) g)) (Br (s0==[108,101,116]) (Br (s0==[108,101,116]) (Qf (.val (.d (.bool true))) g) (Qf (.val (.d (.bool false))) g)) (Br (s0==[114,101,99]) (Br (s0==[114,101,99]) (Qf (.val (.d (.bool true))) g) (Qf (.val (.d (.bool false))) g)) (Br (s0==[105,110]) (Br (s0==[105,110]) (Qf (.val (.d (.bool true))) g) (Qf (.val (.d (.bool false))) g)) (Br (s0==[99,97,115,101]) (Br (s0==[99,97,115,101]) (Qf (.val (.d (.bool true))) g) (Qf (.val (.d (.bool false))) g)) (Br (s0==[111,102]) (Br (s0==[111,102]) (Qf (.val (.d (.bool true))) g) (Qf (.val (.d (.bool false))) g)) (Br (s0==[101,110,100]) (Br (s0==[101,110,100]) (Qf (.val (.d (.bool true))) g) (Qf (.val (.d (.bool false))) g)) (Br (s0==[105,102]) (Br (s0==[105,102]) (Qf (.val (.d (.bool true))) g) (Qf (.val (.d (.bool false))) g)) (Br (s0==[116,104,101,110]) (Br (s0==[116,104,101,110]) (Qf (.val (.d (.bool true))) g) (Qf (.val (.d (.bool false))) g)) (Br (s0==[101,108,115,101]) (Br (s0==[101,108,115,101]) (Qf (.val (.d (.bool true))) g) (Qf (.val (.d (.bool false))) g)) (Br (s0==[112,114,105,110,116]) (Qf (.val (.d (.bool true))) g) (Qf (.val (.d (.bool false))) g))))))))))))):
 EvF TT 208 [.str s0] g Qf:=
 sx_fun (rk:=rk) (fn:=Tryz.f208) (loops:=lo208) (joins:=[]) (n:=100000) (args:=[(9,.str s0)]) rfl rfl rfl rfl ⟨tyStr rfl h0,trivial⟩ (by kernel_rfl) h
def lo166:List CutI:=[]
theorem w166{n0:Int}{s1:List UInt8}{g:Glob}{Qf:OGP}(h1:s1.length≤2^40)
 (h:Br (decide (32<(↑s1.length:Int))) (Qf (.val (.tuple [.d (.agg [.int .i64 0,.str [],.int .i64 0,.int .i64 0]),.d (.int .i64 2)])) g) (Br (n0==1) (EvF TT 208 [.str s1] g (KQ Qf λv g'=>∃b,v=.d (.bool b)∧Br b (Qf (.val (.tuple [.d (.agg [.int .i64 (intOf (.int .i64 5)),.str s1,.int .i64 (intOf (.int .i64 0)),.int .i64 (intOf (.int .i64 0))]),.d (.int .i64 0)])) g') (Qf (.val (.tuple [.d (.agg [.int .i64 (intOf (.int .i64 n0)),.str s1,.int .i64 (intOf (.int .i64 0)),.int .i64 (intOf (.int .i64 0))]),.d (.int .i64 0)])) g'))) (Qf (.val (.tuple [.d (.agg [.int .i64 (intOf (.int .i64 n0)),.str s1,.int .i64 (intOf (.int .i64 0)),.int .i64 (intOf (.int .i64 0))]),.d (.int .i64 0)])) g))):
 EvF TT 166 [.int .i64 n0,.str s1] g Qf:=
 sx_fun (rk:=rk) (fn:=Tryz.f166) (loops:=lo166) (joins:=[]) (n:=100000) (args:=[(3,.int .i64 n0),(9,.str s1)]) rfl rfl rfl rfl ⟨tyInt rfl,tyStr rfl h1,trivial⟩ (by kernel_rfl) h
def lo211:List CutI:=[]
theorem w211{s0:List UInt8}{s1:List UInt8}{g:Glob}{Qf:OGP}(h0:s0.length≤2^40)(h1:s1.length≤2^40)
 (h:Br (decide ((↑s1.length:Int)≤(↑s0.length:Int))) (InS 0 (↑s1.length:Int) s0.length∧Qf (.val (.d (.bool (subStr s0 0 (↑s1.length:Int)==s1)))) g) (Qf (.val (.d (.bool false))) g)):
 EvF TT 211 [.str s0,.str s1] g Qf:=
 sx_fun (rk:=rk) (fn:=Tryz.f211) (loops:=lo211) (joins:=[]) (n:=100000) (args:=[(9,.str s0),(9,.str s1)]) rfl rfl rfl rfl ⟨tyStr rfl h0,tyStr rfl h1,trivial⟩ (by kernel_rfl) h
def lo171:List CutI:=[]
theorem w171{s0:List UInt8}{s1:List UInt8}{g:Glob}{Qf:OGP}(h0:s0.length≤2^40)(h1:s1.length≤2^40)
 (h:EvF TT 211 [.str s0,.str s1] g (KQ Qf λv g'=>∃b,v=.d (.bool b)∧Qf (.val (.d (.bool b))) g')):
 EvF TT 171 [.str s0,.str s1] g Qf:=
 sx_fun (rk:=rk) (fn:=Tryz.f171) (loops:=lo171) (joins:=[]) (n:=100000) (args:=[(9,.str s0),(9,.str s1)]) rfl rfl rfl rfl ⟨tyStr rfl h0,tyStr rfl h1,trivial⟩ (by kernel_rfl) h
def lo170:List CutI:=[]
theorem w170{g:Glob}{Qf:OGP}
 (h:Qf (.val (.uq 1 [.str [45,62],.str [61,61],.str [124],.str [61],.str [40],.str [41],.str [59],.str [43],.str [45],.str [42],.str [47],.str [37],.str [60],.str [95]])) g):
 EvF TT 170 [] g Qf:=
 sx_fun (rk:=rk) (fn:=Tryz.f170) (loops:=lo170) (joins:=[]) (n:=100000) (args:=[]) rfl rfl rfl rfl trivial (by kernel_rfl) h
def L97_17(s0:List UInt8)(x94:Dat)(n95:Int)(n96:Int)(y2:Dat)(g:Glob)(Qf:OGP):Prop:=CutP TT Tryz.f97 [1,1,1,1,0,1,0] Qf (mkC TT 97 Tryz.f97 1 [(0,.v 9 (.str s0)),(2,.loc 2 0 0),(94,.v 61 (x94)),(95,.v 3 (.int .i64 n95)),(96,.v 3 (.int .i64 n96))] [(2,.whole 43 y2)] g)
def lo97:List CutI:=[⟨17,[(0,.keep),(2,.keep),(94,.keep),(95,.keep),(96,.keep)],[(2,.whole 43)]⟩]
theorem w97{s0:List UInt8}{g:Glob}{Qf:OGP}(h0:s0.length≤2^40)
 (h:InB 0 s0.length∧
 InS 1 (↑s0.length:Int) s0.length∧
  EvF TT 163 [.str (subStr s0 1 (↑s0.length:Int)),.clo 164 []] g λout g'=>
   Outc (λx=>Qf (.panic x) g')
    (λv=>
     ∃n,
      v=.d (.int .i64 n)∧
       EvF TT 165 [.int .i32 (IntKind.i32.wrap (byteAt s0 0))] g' λout g'=>
        Outc (λx=>Qf (.panic x) g')
         (λv=>
          ∃b,
           v=.d (.bool b)∧
            Br b (InS 0 (IntKind.i64.wrap (1+n)) s0.length∧EvF TT 166 [.int .i64 1,.str (subStr s0 0 (IntKind.i64.wrap (1+n)))] g' (KQ Qf λv g'=>∃x,HasTy TT 43 x∧∃n_1,RetT v [x,.int .i64 n_1]∧Qf (.val (.tuple [.d (.agg [.int .i64 (intOf (fld x 0)),.str (strOf (fld x 1)),.int .i64 (intOf (fld x 2)),.int .i64 (intOf (fld x 3))]),.d (.int .i64 (IntKind.i64.wrap (1+n))),.d (.int .i64 n_1)])) g'))
             (EvF TT 167 [.int .i32 (IntKind.i32.wrap (byteAt s0 0))] g' λout g'=>
              Outc (λx=>Qf (.panic x) g')
               (λv=>
                ∃b,
                 v=.d (.bool b)∧
                  Br b (InS 0 (IntKind.i64.wrap (1+n)) s0.length∧EvF TT 166 [.int .i64 2,.str (subStr s0 0 (IntKind.i64.wrap (1+n)))] g' (KQ Qf λv g'=>∃x,HasTy TT 43 x∧∃n_1,RetT v [x,.int .i64 n_1]∧Qf (.val (.tuple [.d (.agg [.int .i64 (intOf (fld x 0)),.str (strOf (fld x 1)),.int .i64 (intOf (fld x 2)),.int .i64 (intOf (fld x 3))]),.d (.int .i64 (IntKind.i64.wrap (1+n))),.d (.int .i64 n_1)])) g'))
                   (Br (IntKind.i32.wrap (byteAt s0 0)==39)
                    (Br (decide (1<IntKind.i64.wrap (1+n))) (InB 1 s0.length∧EvF TT 165 [.int .i32 (IntKind.i32.wrap (byteAt s0 1))] g' (KQ Qf λv g'=>∃b,v=.d (.bool b)∧Br b (InS 1 (IntKind.i64.wrap (1+n)) s0.length∧EvF TT 166 [.int .i64 3,.str (subStr s0 1 (IntKind.i64.wrap (1+n)))] g' (KQ Qf λv g'=>∃x,HasTy TT 43 x∧∃n_1,RetT v [x,.int .i64 n_1]∧Qf (.val (.tuple [.d (.agg [.int .i64 (intOf (fld x 0)),.str (strOf (fld x 1)),.int .i64 (intOf (fld x 2)),.int .i64 (intOf (fld x 3))]),.d (.int .i64 (IntKind.i64.wrap (1+n))),.d (.int .i64 n_1)])) g')) (Br (IntKind.i32.wrap (byteAt s0 0)==126) (InS 1 (↑s0.length:Int) s0.length∧EvF TT 163 [.str (subStr s0 1 (↑s0.length:Int)),.clo 168 []] g' (KQ Qf λv g'=>∃n,v=.d (.int .i64 n)∧InS 0 (IntKind.i64.wrap (1+n)) s0.length∧EvF TT 169 [.str (subStr s0 0 (IntKind.i64.wrap (1+n)))] g' (KQ Qf λv g'=>∃x,HasTy TT 43 x∧∃n_1,RetT v [x,.int .i64 n_1]∧Qf (.val (.tuple [.d (.agg [.int .i64 (intOf (fld x 0)),.str (strOf (fld x 1)),.int .i64 (intOf (fld x 2)),.int .i64 (intOf (fld x 3))]),.d (.int .i64 (IntKind.i64.wrap (1+n))),.d (.int .i64 n_1)])) g'))) (EvF TT 168 [.int .i32 (IntKind.i32.wrap (byteAt s0 0))] g' (KQ Qf λv g'=>∃b,v=.d (.bool b)∧Br b (InS 1 (↑s0.length:Int) s0.length∧EvF TT 163 [.str (subStr s0 1 (↑s0.length:Int)),.clo 168 []] g' (KQ Qf λv g'=>∃n,v=.d (.int .i64 n)∧InS 0 (IntKind.i64.wrap (1+n)) s0.length∧EvF TT 169 [.str (subStr s0 0 (IntKind.i64.wrap (1+n)))] g' (KQ Qf λv g'=>∃x,HasTy TT 43 x∧∃n_1,RetT v [x,.int .i64 n_1]∧Qf (.val (.tuple [.d (.agg [.int .i64 (intOf (fld x 0)),.str (strOf (fld x 1)),.int .i64 (intOf (fld x 2)),.int .i64 (intOf (fld x 3))]),.d (.int .i64 (IntKind.i64.wrap (1+n))),.d (.int .i64 n_1)])) g'))) (EvF TT 170 [] g' (KQ Qf λv g'=>∃x,HasTy TT 61 x∧RetV v x∧L97_17 s0 x (↑(elsOf x).length:Int) 0 (.agg [.int .i64 0,.str [],.int .i64 0,.int .i64 0]) g' Qf)))))))
                     (Br (IntKind.i32.wrap (byteAt s0 0)==126) (InS 1 (↑s0.length:Int) s0.length∧EvF TT 163 [.str (subStr s0 1 (↑s0.length:Int)),.clo 168 []] g' (KQ Qf λv g'=>∃n,v=.d (.int .i64 n)∧InS 0 (IntKind.i64.wrap (1+n)) s0.length∧EvF TT 169 [.str (subStr s0 0 (IntKind.i64.wrap (1+n)))] g' (KQ Qf λv g'=>∃x,HasTy TT 43 x∧∃n_1,RetT v [x,.int .i64 n_1]∧Qf (.val (.tuple [.d (.agg [.int .i64 (intOf (fld x 0)),.str (strOf (fld x 1)),.int .i64 (intOf (fld x 2)),.int .i64 (intOf (fld x 3))]),.d (.int .i64 (IntKind.i64.wrap (1+n))),.d (.int .i64 n_1)])) g'))) (EvF TT 168 [.int .i32 (IntKind.i32.wrap (byteAt s0 0))] g' (KQ Qf λv g'=>∃b,v=.d (.bool b)∧Br b (InS 1 (↑s0.length:Int) s0.length∧EvF TT 163 [.str (subStr s0 1 (↑s0.length:Int)),.clo 168 []] g' (KQ Qf λv g'=>∃n,v=.d (.int .i64 n)∧InS 0 (IntKind.i64.wrap (1+n)) s0.length∧EvF TT 169 [.str (subStr s0 0 (IntKind.i64.wrap (1+n)))] g' (KQ Qf λv g'=>∃x,HasTy TT 43 x∧∃n_1,RetT v [x,.int .i64 n_1]∧Qf (.val (.tuple [.d (.agg [.int .i64 (intOf (fld x 0)),.str (strOf (fld x 1)),.int .i64 (intOf (fld x 2)),.int .i64 (intOf (fld x 3))]),.d (.int .i64 (IntKind.i64.wrap (1+n))),.d (.int .i64 n_1)])) g'))) (EvF TT 170 [] g' (KQ Qf λv g'=>∃x,HasTy TT 61 x∧RetV v x∧L97_17 s0 x (↑(elsOf x).length:Int) 0 (.agg [.int .i64 0,.str [],.int .i64 0,.int .i64 0]) g' Qf))))))
                    (Br (IntKind.i32.wrap (byteAt s0 0)==126) (InS 1 (↑s0.length:Int) s0.length∧EvF TT 163 [.str (subStr s0 1 (↑s0.length:Int)),.clo 168 []] g' (KQ Qf λv g'=>∃n,v=.d (.int .i64 n)∧InS 0 (IntKind.i64.wrap (1+n)) s0.length∧EvF TT 169 [.str (subStr s0 0 (IntKind.i64.wrap (1+n)))] g' (KQ Qf λv g'=>∃x,HasTy TT 43 x∧∃n_1,RetT v [x,.int .i64 n_1]∧Qf (.val (.tuple [.d (.agg [.int .i64 (intOf (fld x 0)),.str (strOf (fld x 1)),.int .i64 (intOf (fld x 2)),.int .i64 (intOf (fld x 3))]),.d (.int .i64 (IntKind.i64.wrap (1+n))),.d (.int .i64 n_1)])) g'))) (EvF TT 168 [.int .i32 (IntKind.i32.wrap (byteAt s0 0))] g' (KQ Qf λv g'=>∃b,v=.d (.bool b)∧Br b (InS 1 (↑s0.length:Int) s0.length∧EvF TT 163 [.str (subStr s0 1 (↑s0.length:Int)),.clo 168 []] g' (KQ Qf λv g'=>∃n,v=.d (.int .i64 n)∧InS 0 (IntKind.i64.wrap (1+n)) s0.length∧EvF TT 169 [.str (subStr s0 0 (IntKind.i64.wrap (1+n)))] g' (KQ Qf λv g'=>∃x,HasTy TT 43 x∧∃n_1,RetT v [x,.int .i64 n_1]∧Qf (.val (.tuple [.d (.agg [.int .i64 (intOf (fld x 0)),.str (strOf (fld x 1)),.int .i64 (intOf (fld x 2)),.int .i64 (intOf (fld x 3))]),.d (.int .i64 (IntKind.i64.wrap (1+n))),.d (.int .i64 n_1)])) g'))) (EvF TT 170 [] g' (KQ Qf λv g'=>∃x,HasTy TT 61 x∧RetV v x∧L97_17 s0 x (↑(elsOf x).length:Int) 0 (.agg [.int .i64 0,.str [],.int .i64 0,.int .i64 0]) g' Qf)))))))
               out))
         out)
    out):
  EvF TT 97 [.str s0] g Qf:=
 sx_fun (rk:=rk) (fn:=Tryz.f97) (loops:=lo97) (joins:=[]) (n:=100000) (args:=[(9,.str s0)]) rfl rfl rfl rfl ⟨tyStr rfl h0,trivial⟩ (by kernel_rfl) h
theorem w97_17{s0:List UInt8}{x94:Dat}{n95:Int}{n96:Int}{y2:Dat}{g:Glob}{Qf:OGP}
 (h:Br (decide (n96<n95)) (InB n96 (elsOf x94).length∧EvF TT 171 [.str s0,.str (strOf (fld (getE (elsOf x94) n96) 0))] g (KQ Qf λv g'=>∃b,v=.d (.bool b)∧Br b (Qf (.val (.tuple [.d (.agg [.int .i64 (intOf (.int .i64 6)),.str (strOf (.str (strOf (fld (getE (elsOf x94) n96) 0)))),.int .i64 (intOf (.int .i64 0)),.int .i64 (intOf (.int .i64 0))]),.d (.int .i64 (↑(strOf (fld (getE (elsOf x94) n96) 0)).length:Int)),.d (.int .i64 0)])) g') (L97_17 s0 x94 n95 (IntKind.i64.wrap (n96+1)) y2 g' Qf))) (Qf (.val (.tuple [.d (.agg [.int .i64 0,.str [],.int .i64 0,.int .i64 0]),.d (.int .i64 0),.d (.int .i64 110)])) g)):
 L97_17 s0 x94 n95 n96 y2 g Qf:=sx_cut (rk:=rk) (loops:=lo97) (joins:=[]) (n:=100000) (by kernel_rfl) h
def lo221:List CutI:=[]
theorem w221{x0:Dat}{g:Glob}{Qf:OGP}(h0:HasTy TT 43 x0)
 (h:Br (intOf (fld x0 0)==3) ((1+(strOf (fld x0 1)).length).le 1099511627776∧Br (decide (33<(↑(39::(strOf (fld x0 1))).length:Int))) (Qf (.val (.tuple [.d (.str []),.d (.bool false)])) g) (EvF TT 97 [.str (39::(strOf (fld x0 1)))] g (KQ Qf λv g'=>∃x,HasTy TT 43 x∧∃n n_1,RetT v [x,.int .i64 n,.int .i64 n_1]∧Br (n_1==0) (Br (n==(↑(39::(strOf (fld x0 1))).length:Int)) (Qf (.val (.tuple [.d (.str (39::(strOf (fld x0 1)))),.d (.bool (intOf (fld x 0)==intOf (.int .i64 (intOf (fld x0 0)))&&(strOf (fld x 1)==strOf (.str (strOf (fld x0 1)))&&(intOf (fld x 2)==intOf (.int .i64 (intOf (fld x0 2)))&&(intOf (fld x 3)==intOf (.int .i64 0)&&true)))))])) g') (Qf (.val (.tuple [.d (.str (39::(strOf (fld x0 1)))),.d (.bool false)])) g')) (Qf (.val (.tuple [.d (.str (39::(strOf (fld x0 1)))),.d (.bool false)])) g'))))
 (Br (intOf (fld x0 0)==4) (EvF TT 234 [.int .i64 (intOf (fld x0 2))] g (KQ Qf λv g'=>∃s,s.length.le 1099511627776∧v=.d (.str s)∧Br (decide (intOf (fld x0 2)<0)) (InS 1 (↑s.length:Int) s.length∧(1+(subStr s 1 (↑s.length:Int)).length).le 1099511627776∧Br (decide (33<(↑(126::(subStr s 1 (↑s.length:Int))).length:Int))) (Qf (.val (.tuple [.d (.str []),.d (.bool false)])) g') (EvF TT 97 [.str (126::(subStr s 1 (↑s.length:Int)))] g' (KQ Qf λv g'=>∃x,HasTy TT 43 x∧∃n n_1,RetT v [x,.int .i64 n,.int .i64 n_1]∧Br (n_1==0) (Br (n==(↑(126::(subStr s 1 (↑s.length:Int))).length:Int)) (Qf (.val (.tuple [.d (.str (126::(subStr s 1 (↑s.length:Int)))),.d (.bool (intOf (fld x 0)==intOf (.int .i64 (intOf (fld x0 0)))&&(strOf (fld x 1)==strOf (.str (strOf (fld x0 1)))&&(intOf (fld x 2)==intOf (.int .i64 (intOf (fld x0 2)))&&(intOf (fld x 3)==intOf (.int .i64 0)&&true)))))])) g') (Qf (.val (.tuple [.d (.str (126::(subStr s 1 (↑s.length:Int)))),.d (.bool false)])) g')) (Qf (.val (.tuple [.d (.str (126::(subStr s 1 (↑s.length:Int)))),.d (.bool false)])) g')))) (Br (s==[]) (Qf (.val (.tuple [.d (.str []),.d (.bool false)])) g') (Br (decide (33<(↑s.length:Int))) (Qf (.val (.tuple [.d (.str []),.d (.bool false)])) g') (EvF TT 97 [.str s] g' (KQ Qf λv g'=>∃x,HasTy TT 43 x∧∃n n_1,RetT v [x,.int .i64 n,.int .i64 n_1]∧Br (n_1==0) (Br (n==(↑s.length:Int)) (Qf (.val (.tuple [.d (.str s),.d (.bool (intOf (fld x 0)==intOf (.int .i64 (intOf (fld x0 0)))&&(strOf (fld x 1)==strOf (.str (strOf (fld x0 1)))&&(intOf (fld x 2)==intOf (.int .i64 (intOf (fld x0 2)))&&(intOf (fld x 3)==intOf (.int .i64 0)&&true)))))])) g') (Qf (.val (.tuple [.d (.str s),.d (.bool false)])) g')) (Qf (.val (.tuple [.d (.str s),.d (.bool false)])) g'))))))) (Br (strOf (fld x0 1)==[]) (Qf (.val (.tuple [.d (.str []),.d (.bool false)])) g) (Br (decide (33<(↑(strOf (fld x0 1)).length:Int))) (Qf (.val (.tuple [.d (.str []),.d (.bool false)])) g) (EvF TT 97 [.str (strOf (fld x0 1))] g (KQ Qf λv g'=>∃x,HasTy TT 43 x∧∃n n_1,RetT v [x,.int .i64 n,.int .i64 n_1]∧Br (n_1==0) (Br (n==(↑(strOf (fld x0 1)).length:Int)) (Qf (.val (.tuple [.d (.str (strOf (fld x0 1))),.d (.bool (intOf (fld x 0)==intOf (.int .i64 (intOf (fld x0 0)))&&(strOf (fld x 1)==strOf (.str (strOf (fld x0 1)))&&(intOf (fld x 2)==intOf (.int .i64 (intOf (fld x0 2)))&&(intOf (fld x 3)==intOf (.int .i64 0)&&true)))))])) g') (Qf (.val (.tuple [.d (.str (strOf (fld x0 1))),.d (.bool false)])) g')) (Qf (.val (.tuple [.d (.str (strOf (fld x0 1))),.d (.bool false)])) g'))))))):
  EvF TT 221 [x0] g Qf:=
 sx_fun (rk:=rk) (fn:=Tryz.f221) (loops:=lo221) (joins:=[]) (n:=100000) (args:=[(43,x0)]) rfl rfl rfl rfl ⟨h0,trivial⟩ (by kernel_rfl) h
def L222_12(x0:Dat)(s1:List UInt8)(n5:Int)(x39:Dat)(n40:Int)(n41:Int)(g:Glob)(Qf:OGP):Prop:=CutP TT Tryz.f222 [1,1,1,1,0,1,0] Qf (mkC TT 222 Tryz.f222 2 [(0,.v 61 (x0)),(1,.v 9 (.str s1)),(5,.v 3 (.int .i64 n5)),(39,.v 61 (x39)),(40,.v 3 (.int .i64 n40)),(41,.v 3 (.int .i64 n41))] [] g)
def lo222:List CutI:=[⟨12,[(0,.keep),(1,.keep),(5,.keep),(39,.keep),(40,.keep),(41,.keep)],[]⟩,⟨22,[(1,.keep),(8,.keep),(63,.keep),(64,.keep),(65,.keep)],[]⟩]
theorem w222{x0:Dat}{s1:List UInt8}{g:Glob}{Qf:OGP}(h0:HasTy TT 61 x0)(h1:s1.length≤2^40)
 (h:Br ((↑(elsOf x0).length:Int)==0) (Qf (.val (.d (.str []))) g) (Br ((↑(elsOf x0).length:Int)==1) (InB 0 (elsOf x0).length∧Qf (.val (.d (.str (strOf (fld (getE (elsOf x0) 0) 0))))) g) (Br (decide (0<(↑s1.length:Int))) (NeZ (IntKind.i64.wrap ((↑(elsOf x0).length:Int)-1))∧Br (decide (IntKind.i64.wrap (Int.tdiv 9223372036854775807 (IntKind.i64.wrap ((↑(elsOf x0).length:Int)-1)))≤(↑s1.length:Int))) (Qf (.panic (.iface 9 (.str [115,116,114,105,110,103,115,58,32,74,111,105,110,32,111,117,116,112,117,116,32,108,101,110,103,116,104,32,111,118,101,114,102,108,111,119]))) g) (L222_12 x0 s1 (IntKind.i64.wrap (0+IntKind.i64.wrap ((↑s1.length:Int)*IntKind.i64.wrap ((↑(elsOf x0).length:Int)-1)))) x0 (↑(elsOf x0).length:Int) 0 g Qf)) (L222_12 x0 s1 0 x0 (↑(elsOf x0).length:Int) 0 g Qf)))):
 EvF TT 222 [x0,.str s1] g Qf:=
 sx_fun (rk:=rk) (fn:=Tryz.f222) (loops:=lo222) (joins:=[]) (n:=100000) (args:=[(61,x0),(9,.str s1)]) rfl rfl rfl rfl ⟨h0,tyStr rfl h1,trivial⟩ (by kernel_rfl) h
def L200_5(l4:List Dat)(x13:Dat)(n14:Int)(n15:Int)(g:Glob)(Qf:OGP):Prop:=CutP TT Tryz.f200 [1,1,1,0,1,0] Qf (mkC TT 200 Tryz.f200 1 [(4,.acc [(29,0)] 61 1 l4),(13,.v 37 (x13)),(14,.v 3 (.int .i64 n14)),(15,.v 3 (.int .i64 n15))] [] g)
def lo200:List CutI:=[⟨5,[(4,.acc [29]),(13,.keep),(14,.keep),(15,.keep)],[]⟩]
theorem w200{x0:Dat}{g:Glob}{Qf:OGP}(h0:HasTy TT 37 x0)
 (h:Br (decide (4096<(↑(elsOf x0).length:Int))) (Qf (.val (.tuple [.d (.str []),.d (.int .i64 3)])) g) (L200_5 [] x0 (↑(elsOf x0).length:Int) 0 g Qf)):
 EvF TT 200 [x0] g Qf:=
 sx_fun (rk:=rk) (fn:=Tryz.f200) (loops:=lo200) (joins:=[]) (n:=100000) (args:=[(37,x0)]) rfl rfl rfl rfl ⟨h0,trivial⟩ (by kernel_rfl) h
theorem w200_5{l4:List Dat}{x13:Dat}{n14:Int}{n15:Int}{g:Glob}{Qf:OGP}
 (h:Br (decide (n15<n14)) (InB n15 (elsOf x13).length∧EvF TT 221 [getE (elsOf x13) n15] g (KQ Qf λv g'=>∃s,s.length.le 1099511627776∧∃b,RetT v [.str s,.bool b]∧Br (!b) (Qf (.val (.tuple [.d (.str []),.d (.int .i64 1)])) g') (Fits (l4.length+[Dat.str s].length) 16∧L200_5 (l4++[Dat.str s]) x13 n14 (IntKind.i64.wrap (n15+1)) g' Qf))) (EvF TT 222 [slOf 1 l4,.str [32]] g (KQ Qf λv g'=>∃s,s.length.le 1099511627776∧v=.d (.str s)∧Br (decide (8192<(↑s.length:Int))) (Qf (.val (.tuple [.d (.str []),.d (.int .i64 2)])) g') (Qf (.val (.tuple [.d (.str s),.d (.int .i64 0)])) g')))):
 L200_5 l4 x13 n14 n15 g Qf:=sx_cut (rk:=rk) (loops:=lo200) (joins:=[]) (n:=100000) (by kernel_rfl) h
def lo136:List CutI:=[]
theorem w136{n0:Int}{s1:List UInt8}{g:Glob}{Qf:OGP}(h1:s1.length≤2^40)
 (h:EvF TT 200 [.sl 4 [.agg [.int .i64 n0,.str s1,.int .i64 0,.int .i64 0]]] g (KQ Qf λv g'=>∃s,s.length.le 1099511627776∧∃n,RetT v [.str s,.int .i64 n]∧Qf (.val (.d (.bool (n==0)))) g')):
 EvF TT 136 [.int .i64 n0,.str s1] g Qf:=
 sx_fun (rk:=rk) (fn:=Tryz.f136) (loops:=lo136) (joins:=[]) (n:=100000) (args:=[(3,.int .i64 n0),(9,.str s1)]) rfl rfl rfl rfl ⟨tyInt rfl,tyStr rfl h1,trivial⟩ (by kernel_rfl) h
end Go.Proofs.YtgmapdcdmomioaaGreatDoor.Pa
namespace Go.Proofs.YtgmapdcdmomioaaGreatDoor.Pa
open Go Go.Proofs.YtgmapdcdmomioaaGreatDoor.Am
theorem brAnd{a b:Bool}{g:Glob}{Qf:OGP}:Br a (Qf (.val (.d (.bool b))) g) (Qf (.val (.d (.bool false))) g)=Qf (.val (.d (.bool (a&&b)))) g:=by cases a<;>rfl
theorem brOr{a b:Bool}{g:Glob}{Qf:OGP}:Br a (Qf (.val (.d (.bool true))) g) (Qf (.val (.d (.bool b))) g)=Qf (.val (.d (.bool (a||b)))) g:=by cases a<;>rfl
theorem qcast{a b:Bool}{g:Glob}{Qf:OGP}(h:Qf (.val (.d (.bool a))) g)(e:a=b):Qf (.val (.d (.bool b))) g:=e▸h
def smB(n:Int):Bool:=decide (97≤n)&&decide (n≤122)
def cpB(n:Int):Bool:=decide (65≤n)&&decide (n≤90)
def dgB(n:Int):Bool:=decide (48≤n)&&decide (n≤57)
def ptB(n:Int):Bool:=smB n||(cpB n||(dgB n||n==95))
def inI(n:Int):Bool:=decide (-1073741824≤n)&&decide (n≤1073741823)
def keyL:List Str:=[[116,121,112,101],[102,117,110],[108,101,116],[114,101,99],[105,110],[99,97,115,101],[111,102],[101,110,100],[105,102],[116,104,101,110],[101,108,115,101],[112,114,105,110,116]]
def keyB(s:Str):Bool:=keyL.any (λk=>k==s)
def signL:List Str:=[[45,62],[61,61],[124],[61],[40],[41],[59],[43],[45],[42],[47],[37],[60],[95]]
def wordB(low:Bool):Str→Bool
 |[]=>false
 |c::r=>decide (r.length<32)&&((bif low then smB c.toNat else cpB c.toNat)&&r.all λc=>ptB c.toNat)
def wLow(s:Str):Bool:=wordB true s&&!keyB s
def wUp(s:Str):Bool:=wordB false s
def wVar(s:Str):Bool:=wordB true s
section
variable{n:Int}{s:Str}{g:Glob}{Qf:OGP}
theorem r11small_ok(hQ:Qf (.val (.d (.bool (smB n)))) g):EvF TT 117 [.int .u8 n] g Qf:=w117 (by rw[brAnd];exact hQ)
theorem r11capital_ok(hQ:Qf (.val (.d (.bool (cpB n)))) g):EvF TT 118 [.int .u8 n] g Qf:=w118 (by rw[brAnd];exact hQ)
theorem r11digit_ok(hQ:Qf (.val (.d (.bool (dgB n)))) g):EvF TT 121 [.int .u8 n] g Qf:=w121 (by rw[brAnd];exact hQ)
theorem r11part_ok(hQ:Qf (.val (.d (.bool (ptB n)))) g):EvF TT 140 [.int .u8 n] g Qf:=by
 refine w140 (r11small_ok ⟨_,rfl,Br_iff.2 ⟨λq=>?_,λq=>r11capital_ok ⟨_,rfl,Br_iff.2 ⟨λq'=>?_,λq'=>r11digit_ok ⟨_,rfl,?_⟩⟩⟩⟩⟩)
 ·exact qcast hQ (by simp[ptB,q])
 ·exact qcast hQ (by simp[ptB,q'])
 ·rw[brOr]
  exact qcast hQ (by simp[ptB,q,q'])
theorem lexsmall_ok(hQ:Qf (.val (.d (.bool (smB n)))) g):EvF TT 165 [.int .i32 n] g Qf:=w165 (by rw[brAnd];exact hQ)
theorem lexgreat_ok(hQ:Qf (.val (.d (.bool (cpB n)))) g):EvF TT 167 [.int .i32 n] g Qf:=w167 (by rw[brAnd];exact hQ)
theorem lexdigit_ok(hQ:Qf (.val (.d (.bool (dgB n)))) g):EvF TT 168 [.int .i32 n] g Qf:=w168 (by rw[brAnd];exact hQ)
theorem lexinside_ok(hQ:Qf (.val (.d (.bool (ptB n)))) g):EvF TT 164 [.int .i32 n] g Qf:=by
 refine w164 (lexsmall_ok ⟨_,rfl,Br_iff.2 ⟨λq=>?_,λq=>lexgreat_ok ⟨_,rfl,Br_iff.2 ⟨λq'=>?_,λq'=>lexdigit_ok ⟨_,rfl,?_⟩⟩⟩⟩⟩)
 ·exact qcast hQ (by simp[ptB,q])
 ·exact qcast hQ (by simp[ptB,q'])
 ·rw[brOr]
  exact qcast hQ (by simp[ptB,q,q'])
theorem r10In_ok(hQ:Qf (.val (.d (.bool (inI n)))) g):EvF TT 124 [.int .i64 n] g Qf:=w124 (by rw[brAnd];exact hQ)
theorem intsIn_ok(hQ:Qf (.val (.d (.bool (inI n)))) g):EvF TT 195 [.int .i64 n] g Qf:=w195 (by
 rw[brAnd]
 refine qcast hQ ?_
 unfold inI
 congr 1
 exact decide_eq_decide.2 (by omega))
theorem byteAt_nat{i:Nat}(h:i<s.length):byteAt s (i:Int)=((s[i].toNat:Nat):Int):=by
 simp[byteAt,List.getElem?_eq_getElem h]
theorem r11Word_ok(low:Bool)(hs:s.length≤2^40)(hQ:Qf (.val (.d (.bool (wordB low s)))) g):EvF TT 72 [.str s,.bool low] g Qf:=by
 refine w72 hs ?_
 cases s with
 |nil=>exact hQ
 |cons c r=>
  rw[List.length_cons] at hs
  refine Br_iff.2 ⟨λq=>?_,λ_=>Br_iff.2 ⟨λq=>?_,λq=>?_⟩⟩
  ·have q:=of_decide_eq_true q
   rw[List.length_cons] at q
   omega
  ·have q:=of_decide_eq_true q
   rw[List.length_cons] at q
   exact qcast hQ (by simp only[wordB];rw[decide_eq_false (by omega),Bool.false_and])
  ·have q:=of_decide_eq_false q
   rw[List.length_cons] at q
   have hQ:Qf (.val (.d (.bool ((bif low then smB c.toNat else cpB c.toNat)&&r.all λc=>ptB c.toNat)))) g:=qcast hQ (by simp only[wordB];rw[decide_eq_true (by omega),Bool.true_and])
   have rest:Qf (.val (.d (.bool (r.all λc=>ptB c.toNat)))) g→L72_4 (c::r) 1 g Qf:=by
    intro hQ
    refine loopUp (len:=r.length) (λi=>Qf (.val (.d (.bool ((r.drop i).all λc=>ptB c.toNat)))) g→L72_4 (c::r) ((i+1:Nat):Int) g Qf) ?_ ?_ 0 (Nat.zero_le _) hQ
    ·intro hQ
     refine w72_4 ?_
     rw[List.length_cons,Br_ge]
     rw[List.drop_length] at hQ
     exact hQ
    ·intro i hi ih hQ
     refine w72_4 ?_
     have hi':i+1<(c::r).length:=by rw[List.length_cons];omega
     rw[Br_lt hi',byteAt_nat hi',List.getElem_cons_succ]
     rw[List.drop_eq_getElem_cons hi,List.all_cons] at hQ
     refine⟨inB hi',r11part_ok ⟨_,rfl,Br_iff.2 ⟨λq=>?_,λq=>?_⟩⟩⟩
     ·exact qcast hQ (by simp at q;simp[q])
     ·rw[wrap_nat (by omega)]
      exact ih (qcast hQ (by simp at q;simp[q]))
   have hb:InB 0 (c::r).length:=inB (i:=0) (by simp)
   have hb0:byteAt (c::r) 0=(c.toNat:Int):=rfl
   rw[hb0]
   cases low with
   |true=>
    refine⟨hb,r11small_ok ⟨_,rfl,Br_iff.2 ⟨λq=>?_,λq=>?_⟩⟩⟩
    ·exact qcast hQ (by simp at q;simp[q])
    ·exact rest (qcast hQ (by simp at q;simp[q]))
   |false=>
    refine⟨hb,r11capital_ok ⟨_,rfl,Br_iff.2 ⟨λq=>?_,λq=>?_⟩⟩⟩
    ·exact qcast hQ (by simp at q;simp[q])
    ·exact rest (qcast hQ (by simp at q;simp[q]))
theorem r11among_ok{x:Dat}{l:List Str}(hx:HasTy TT 61 x)(hl:(elsOf x).map strOf=l)(hs:s.length≤2^40)(hQ:Qf (.val (.d (.bool (l.any λk=>k==s)))) g):EvF TT 194 [.str s,x] g Qf:=by
 have ex:=hx.els undStrs
 have exl:=len_le undStrs hx
 refine w194 hs hx ?_
 subst hl
 refine loopUp (len:=(elsOf x).length) (λi=>Qf (.val (.d (.bool ((((elsOf x).drop i).map strOf).any λk=>k==s)))) g→L194_2 s x (i:Int) g Qf) ?_ ?_ 0 (Nat.zero_le _) hQ
 ·intro hQ
  refine w194_2 ?_
  rw[Br_ge]
  rw[List.drop_length] at hQ
  exact hQ
 ·intro i hi ih hQ
  refine w194_2 ?_
  rw[Br_lt hi,getE_nat hi]
  obtain⟨t1,d1,_⟩:=str_ty (ex.2 _ (List.getElem_mem hi))
  rw[List.drop_eq_getElem_cons hi,List.map_cons,List.any_cons] at hQ
  rw[d1] at hQ⊢
  refine⟨inB hi,Br_iff.2 ⟨λq=>?_,λq=>?_⟩⟩
  all_goals simp[fld,strOf] at q
  ·exact qcast hQ (by simp[strOf,q])
  ·rw[wrap_nat (by omega)]
   exact ih (qcast hQ (by simp[strOf,q]))
theorem ty_strs{l:List Str}(hl:l.length≤2^30)(h:∀s∈l,s.length≤2^40)(hne:l≠[]):HasTy TT 61 (.sl 1 (l.map .str)):=by
 have h1:=sl_ty (t:=61) (xs:=l.map .str) undStrs (by kernel_rfl:TT.size 9=some 1) ⟨by simp;omega,λb hb=>by
  have:b=16:=by
   have e:TT.bytes 9=some 16:=by kernel_rfl
   rw[e] at hb
   exact(Option.some.inj hb).symm
  subst this
  simp only[List.length_map]
  omega⟩ (λx hx=>by
   obtain⟨s,hs,rfl⟩:=List.mem_map.1 hx
   exact ty_str (h s hs))
 cases l with
 |nil=>exact absurd rfl hne
 |cons a l=>exact h1
theorem r11Key_ok(hs:s.length≤2^40)(hQ:Qf (.val (.d (.bool (keyB s)))) g):EvF TT 120 [.str s] g Qf:=by
 refine w120 hs ?_
 refine r11among_ok (l:=keyL) (ty_strs (l:=keyL) (by decide) (by decide) (by decide)) rfl hs ⟨_,rfl,hQ⟩
theorem r12lowWord_ok(hs:s.length≤2^40)(hQ:Qf (.val (.d (.bool (wLow s)))) g):EvF TT 71 [.str s] g Qf:=by
 refine w71 hs (r11Word_ok true hs ⟨_,rfl,Br_iff.2 ⟨λq=>r11Key_ok hs ⟨_,rfl,?_⟩,λq=>?_⟩⟩)
 ·exact qcast hQ (by simp[wLow,q])
 ·exact qcast hQ (by simp[wLow,q])
theorem r12upWord_ok(hs:s.length≤2^40)(hQ:Qf (.val (.d (.bool (wUp s)))) g):EvF TT 73 [.str s] g Qf:=
 w73 hs (r11Word_ok false hs ⟨_,rfl,hQ⟩)
theorem lexkey_ok(hs:s.length≤2^40)(hQ:Qf (.val (.d (.bool (keyB s)))) g):EvF TT 208 [.str s] g Qf:=by
 refine w208 hs ?_
 repeat' (first|refine Br_iff.2 ⟨λq=>?_,λq=>?_⟩)
 all_goals (refine qcast hQ ?_)
 all_goals simp only[beq_iff_eq,beq_eq_false_iff_ne,ne_eq] at*
 all_goals simp_all[keyB,keyL]
 all_goals (simp only[eq_comm] at*;simp_all)
end
end Go.Proofs.YtgmapdcdmomioaaGreatDoor.Pa
namespace Go.Proofs.YtgmapdcdmomioaaGreatDoor.Pa
open Go Go.Proofs.YtgmapdcdmomioaaGreatDoor.Am
theorem get!_nat{s:Str}{i:Nat}(h:i<s.length):((⟨s.toArray⟩:ByteArray).get! i)=s[i]:=by
 show(s.toArray)[i]! =s[i]
 rw[getElem!_pos s.toArray i (by simpa using h)]
 simp
theorem rune_low{s:Str}{i:Nat}(h:i<s.length)(hc:s[i].toNat<128):runeAt s i=(s[i].toNat:Int)∧runeLen s i=1:=by
 have e:Utf8.decode ⟨s.toArray⟩ i=(s[i].toNat,1):=by
  unfold Utf8.decode
  simp only[Nat.add_zero,get!_nat h]
  rw[if_pos (show s[i].toNat<0x80 from hc)]
 simp[runeAt,runeLen,e]
theorem rune_high{s:Str}{i:Nat}(h:i<s.length)(hc:¬s[i].toNat<128):(128:Int)≤runeAt s i:=by
 have e:128≤(Utf8.decode ⟨s.toArray⟩ i).1:=by
  unfold Utf8.decode
  simp only[Nat.add_zero,get!_nat h]
  rw[if_neg (show ¬s[i].toNat<0x80 from hc)]
  have hr:128≤Utf8.runeError:=by decide
  split
  ·split
   ·rename_i hh;exact hh
   ·exact hr
  ·split
   ·split
    ·rename_i hh;simp only[Bool.and_eq_true,decide_eq_true_eq] at hh;exact Nat.le_trans (by decide) hh.1
    ·exact hr
   ·split
    ·split
     ·rename_i hh;simp only[Bool.and_eq_true,decide_eq_true_eq] at hh;exact Nat.le_trans (by decide) hh.1
     ·exact hr
    ·exact hr
 show(128:Int)≤((Utf8.decode ⟨s.toArray⟩ i).1:Int)
 exact_mod_cast e
def runN(p:Int→Bool)(s:Str):Nat:=(s.takeWhile λc=>p c.toNat).length
theorem runN_le(p:Int→Bool)(s:Str):runN p s≤s.length:=by
 unfold runN
 exact(List.takeWhile_sublist _).length_le
theorem runN_drop(p:Int→Bool){s:Str}{i:Nat}(h:i<s.length):runN p (s.drop i)=bif p s[i].toNat then 1+runN p (s.drop (i+1)) else 0:=by
 unfold runN
 rw[List.drop_eq_getElem_cons h,List.takeWhile_cons]
 cases p s[i].toNat
 ·rfl
 ·simp only[if_true,List.length_cons,cond_true]
  omega
section
variable{n:Int}{s:Str}{g:Glob}{Qf:OGP}
theorem lexrun_ok(p:Int→Bool)(f:FuncId)(hf:∀(n:Int) (Qf:OGP),Qf (.val (.d (.bool (p n)))) g→EvF TT f [.int .i32 n] g Qf)(hp:∀n:Int,128≤n→p n=false)
 (hs:s.length≤2^40) (hQ:Qf (.val (.d (.int .i64 (runN p s:Nat)))) g):EvF TT 163 [.str s,.clo f []] g Qf:=by
 refine w163 hs ?_
 refine loopUp (len:=s.length) (λi=>Qf (.val (.d (.int .i64 ((i+runN p (s.drop i):Nat))))) g→L163_2 s f [] s i g Qf) ?_ ?_ 0 (Nat.zero_le _) (by simpa using hQ)
 ·intro hQ
  refine w163_2 ?_
  rw[show decide (s.length<s.length)=false by simp,Br_false]
  rw[List.drop_length] at hQ
  simpa[runN] using hQ
 ·intro i hi ih hQ
  refine w163_2 ?_
  rw[show decide (i<s.length)=true by simpa using hi,Br_true]
  rw[runN_drop p hi] at hQ
  by_cases hc:s[i].toNat<128
  ·obtain⟨e1,e2⟩:=rune_low hi hc
   rw[e1,e2]
   refine hf _ _ ⟨_,rfl,Br_iff.2 ⟨λq=>?_,λq=>?_⟩⟩
   ·have q:p s[i].toNat=false:=by simpa using q
    rw[q] at hQ
    exact hQ
   ·have q:p s[i].toNat=true:=by simpa using q
    rw[q] at hQ
    refine ih ?_
    rw[show i+1+runN p (s.drop (i+1))=i+(1+runN p (s.drop (i+1))) by omega]
    exact hQ
  ·have q:=hp _ (rune_high hi hc)
   have q':p s[i].toNat=false:=hp _ (by omega)
   refine hf _ _ ⟨_,rfl,?_⟩
   rw[q]
   rw[q'] at hQ
   exact hQ
theorem ptB_high(n:Int)(h:128≤n):ptB n=false:=by
 simp only[ptB,smB,cpB,dgB]
 rw[decide_eq_false (show ¬n≤122 by omega),decide_eq_false (show ¬n≤90 by omega),decide_eq_false (show ¬n≤57 by omega),show(n==95)=false from by simpa using(by omega:¬n=95)]
 simp
theorem dgB_high(n:Int)(h:128≤n):dgB n=false:=by
 simp only[dgB]
 rw[decide_eq_false (show ¬n≤57 by omega)]
 simp
theorem lexrunIn_ok(hs:s.length≤2^40)(hQ:Qf (.val (.d (.int .i64 (runN ptB s:Nat)))) g):EvF TT 163 [.str s,.clo 164 []] g Qf:=
 lexrun_ok ptB _ (λn Qf h=>lexinside_ok h) ptB_high hs hQ
theorem lexrunDg_ok(hs:s.length≤2^40)(hQ:Qf (.val (.d (.int .i64 (runN dgB s:Nat)))) g):EvF TT 163 [.str s,.clo 168 []] g Qf:=
 lexrun_ok dgB _ (λn Qf h=>lexdigit_ok h) dgB_high hs hQ
abbrev Tk:=Int×Str×Int
def tkD(t:Tk)(at':Int):Dat:=.agg [.int .i64 t.1,.str t.2.1,.int .i64 t.2.2,.int .i64 at']
def tkE(t:Tk)(e:Int):Out:=.val (.tuple [.d (tkD t 0),.d (.int .i64 e)])
def tkNE(t:Tk)(n e:Int):Out:=.val (.tuple [.d (tkD t 0),.d (.int .i64 n),.d (.int .i64 e)])
theorem ty_tok{t:Tk}{p:Int}(h:t.2.1.length≤2^40):HasTy TT 43 (tkD t p):=
 struct_of (tys:=[3,9,3,3]) (by kernel_rfl) (by kernel_rfl) (by kernel_rfl) ⟨ty_int,ty_str h,ty_int,ty_int,trivial⟩
def wordF(k:Int)(s:Str):Tk×Int:=if 32<s.length then((0,[],0),2) else((if k==1&&keyB s then 5 else k,s,0),0)
theorem lexword_ok{k:Int}(hs:s.length≤2^40)(hQ:Qf (tkE (wordF k s).1 (wordF k s).2) g):EvF TT 166 [.int .i64 k,.str s] g Qf:=by
 refine w166 hs ?_
 unfold wordF at hQ
 refine Br_iff.2 ⟨λq=>?_,λq=>?_⟩
 ·rw[if_pos (by have:=of_decide_eq_true q;omega)] at hQ
  exact hQ
 ·rw[if_neg (by have:=of_decide_eq_false q;omega)] at hQ
  refine Br_iff.2 ⟨λq=>lexkey_ok hs ⟨_,rfl,Br_iff.2 ⟨λq'=>?_,λq'=>?_⟩⟩,λq=>?_⟩
  ·rw[q,q'] at hQ;exact hQ
  ·rw[q,q'] at hQ;exact hQ
  ·rw[q] at hQ;exact hQ
def numF(s:Str):Tk×Int:=
 match numTok s with
 |some n=>((4,[],n),0)
 |none=>((0,[],0),110)
theorem numF_out(s:Str):numOut (numTok s)=tkE (numF s).1 (numF s).2:=by
 unfold numF
 cases numTok s<;>rfl
theorem lexnumber_ok(hs:s.length≤2^40)(hQ:Qf (tkE (numF s).1 (numF s).2) g):EvF TT 169 [.str s] g Qf:=
 number_ok s (by omega) g Qf (by rw[numF_out];exact hQ)
def signF(s:Str):List Str→Option Str
 |[]=>none
 |x::l=>if x.isPrefixOf s then some x else signF s l
def tokF:Str→Tk×Nat×Int
 |[]=>((0,[],0),0,110)
 |c::r=>
  let n:=1+runN ptB r
  let m:=1+runN dgB r
  let s:=c::r
  if smB c.toNat then((wordF 1 (s.take n)).1,n,(wordF 1 (s.take n)).2)
  else if cpB c.toNat then((wordF 2 (s.take n)).1,n,(wordF 2 (s.take n)).2)
  else if c.toNat==39&&(decide (1<n)&&(match r with|d::_=>smB d.toNat|[]=>false)) then((wordF 3 (r.take (runN ptB r))).1,n,(wordF 3 (r.take (runN ptB r))).2)
  else if c.toNat==126||dgB c.toNat then((numF (s.take m)).1,m,(numF (s.take m)).2)
  else match signF s signL with
   |some x=>((6,x,0),x.length,0)
   |none=>((0,[],0),0,110)
theorem hasPrefix_ok{p:Str}(hs:s.length≤2^40)(hp:p.length≤2^40)(hQ:Qf (.val (.d (.bool (p.isPrefixOf s)))) g):EvF TT 171 [.str s,.str p] g Qf:=by
 refine w171 hs hp (w211 hs hp ?_)
 refine Br_iff.2 ⟨λq=>?_,λq=>?_⟩
 ·have q:p.length≤s.length:=by have:=of_decide_eq_true q;omega
  refine⟨⟨by omega,by omega,by omega⟩,_,rfl,qcast hQ ?_⟩
  have e:subStr s 0 (p.length:Int)=s.take p.length:=by simp[subStr]
  rw[e,Bool.eq_iff_iff]
  rw[List.isPrefixOf_iff_prefix,List.prefix_iff_eq_take,beq_iff_eq]
  exact eq_comm
 ·have q:¬p.length≤s.length:=by have:=of_decide_eq_false q;omega
  refine⟨_,rfl,qcast hQ ?_⟩
  rw[←Bool.not_eq_true,List.isPrefixOf_iff_prefix]
  exact λh=>q h.length_le
theorem nth_app{pre:List Dat}{x:Dat}{l:List Dat}:nth (pre++x::l) pre.length=x:=by
 induction pre with
 |nil=>rfl
 |cons y pre ih=>exact ih
theorem signLoop{y:Dat}(hs:s.length≤2^40):∀(l pre:List Str),signL=pre++l→Qf (match signF s l with|some x=>tkNE (6,x,0) x.length 0|none=>tkNE (0,[],0) 0 110) g→L97_17 s (.sl 1 (signL.map .str)) 14 (pre.length:Int) y g Qf
 |[],pre,hl,hQ=>by
  have:pre.length=14:=by rw[List.append_nil] at hl;rw[←hl];rfl
  refine w97_17 ?_
  rw[this]
  exact hQ
 |x::l,pre,hl,hQ=>by
  have hlen:pre.length+(l.length+1)=14:=by
   have:=congrArg List.length hl
   rw[List.length_append,List.length_cons] at this
   exact this.symm
  refine w97_17 ?_
  have hx:x.length≤2^40:=by
   have:∀x∈signL,x.length≤2^40:=by decide
   exact this _ (by rw[hl];simp)
  have hg:getE (elsOf (.sl 1 (signL.map .str))) (pre.length:Int)=.str x:=by
   simp only[elsOf,getE,Int.toNat_natCast,hl,List.map_append,List.map_cons]
   have:=nth_app (pre:=pre.map Dat.str) (x:=.str x) (l:=l.map .str)
   rw[List.length_map] at this
   exact this
  rw[show(14:Int)=((14:Nat):Int) from rfl,Br_lt (show pre.length<14 by omega),hg]
  refine⟨inB (show pre.length<14 by omega),hasPrefix_ok hs hx ⟨_,rfl,?_⟩⟩
  have hQ:Qf (match (if x.isPrefixOf s then some x else signF s l) with|some x=>tkNE (6,x,0) x.length 0|none=>tkNE (0,[],0) 0 110) g:=hQ
  show Br (x.isPrefixOf s) _ _
  cases hq:x.isPrefixOf s with
  |true=>
   rw[hq] at hQ
   exact hQ
  |false=>
   rw[hq] at hQ
   rw[Br_false,wrap_nat (by omega)]
   have:=signLoop (y:=y) hs l (pre++[x]) (by rw[hl,List.append_assoc];rfl) hQ
   rw[List.length_append] at this
   exact this
theorem take_len{s:Str}{n:Nat}(hs:s.length≤2^40):(s.take n).length≤2^40:=by rw[List.length_take];omega
theorem wrap1{m:Nat}(h:m≤2^41):IntKind.i64.wrap (1+(m:Int))=((1+m:Nat):Int):=by
 rw[wrap_id (by omega) (by omega)];omega
theorem sub_take{s:Str}{n:Nat}:subStr s 0 ((n:Nat):Int)=s.take n:=by simp[subStr]
theorem wrap32(b:UInt8):IntKind.i32.wrap (b.toNat:Int)=(b.toNat:Int):=by
 have:=b.toNat_lt
 show(if (true&&decide ((b.toNat:Int)%2^32≥(2^(32-1):Int)))=true then(b.toNat:Int)%2^32-2^32 else(b.toNat:Int)%2^32)=_
 have e:(b.toNat:Int)%2^32=(b.toNat:Int):=by omega
 have e2:¬(b.toNat:Int)≥2^(32-1):=by omega
 simp only[e,e2,decide_false,Bool.and_false,Bool.false_eq_true,if_false]
theorem wordF_len(k:Int)(hs:s.length≤2^40):(wordF k s).1.2.1.length≤2^40:=by
 unfold wordF
 split<;>simp<;>omega
theorem lextoken_ok(h1:s≠[])(hs:s.length≤2^40)(hQ:Qf (tkNE (tokF s).1 (tokF s).2.1 (tokF s).2.2) g):EvF TT 97 [.str s] g Qf:=by
 refine w97 hs ?_
 cases s with
 |nil=>exact absurd rfl h1
 |cons c r=>
  have hr:r.length≤2^40:=by rw[List.length_cons] at hs;omega
  have hsub:subStr (c::r) 1 ((c::r).length:Int)=r:=by simp[subStr]
  have hin:InS 1 ((c::r).length:Int) (c::r).length:=⟨by omega,by rw[List.length_cons];omega,by omega⟩
  have hb0:IntKind.i32.wrap (byteAt (c::r) 0)=(c.toNat:Int):=wrap32 c
  have hn:=runN_le ptB r
  have hm:=runN_le dgB r
  simp only[tokF] at hQ
  rw[hb0,hsub]
  have hin0:∀m:Nat,m≤r.length→InS 0 ((1+m:Nat):Int) (c::r).length:=λm h=>⟨by omega,by omega,by rw[List.length_cons];omega⟩
  have sub1:∀m:Nat,subStr (c::r) 1 ((1+m:Nat):Int)=r.take m:=λm=>by
   simp only[subStr,Int.toNat_natCast,Nat.add_comm 1 m,List.take_succ_cons]
   rfl
  refine⟨inB (i:=0) (by simp),hin,lexrunIn_ok hr ⟨_,rfl,?_⟩⟩
  rw[wrap1 (by omega)]
  refine lexsmall_ok ⟨_,rfl,Br_iff.2 ⟨λq1=>⟨hin0 _ hn,?_⟩,λq1=>lexgreat_ok ⟨_,rfl,Br_iff.2 ⟨λq2=>⟨hin0 _ hn,?_⟩,λq2=>Br_iff.2 ⟨λq3=>Br_iff.2 ⟨λq4=>⟨?_,lexsmall_ok ⟨_,rfl,Br_iff.2 ⟨λq5=>⟨?_,?_⟩,λq5=>?_⟩⟩⟩,λq4=>?_⟩,λq3=>?_⟩⟩⟩⟩⟩
  ·rw[sub_take]
   refine lexword_ok (take_len hs) ⟨_,ty_tok (wordF_len _ (take_len hs)),_,⟨rfl,rfl,trivial⟩,?_⟩
   rw[if_pos q1] at hQ
   exact hQ
  ·rw[sub_take]
   refine lexword_ok (take_len hs) ⟨_,ty_tok (wordF_len _ (take_len hs)),_,⟨rfl,rfl,trivial⟩,?_⟩
   rw[if_neg (by simp[q1]),if_pos q2] at hQ
   exact hQ
  ·have:=of_decide_eq_true q4
   exact⟨by omega,by rw[List.length_cons];omega⟩
  ·have:=of_decide_eq_true q4
   exact⟨by omega,by omega,by rw[List.length_cons];omega⟩
  ·rw[sub1]
   refine lexword_ok (take_len hr) ⟨_,ty_tok (wordF_len _ (take_len hr)),_,⟨rfl,rfl,trivial⟩,?_⟩
   have h4:=of_decide_eq_true q4
   rw[if_neg (by simp[q1]),if_neg (by simp[q2]),if_pos (by
    have q3:c.toNat=39:=by have:=beq_iff_eq.1 q3;omega
    cases r with
    |nil=>simp[runN] at h4
    |cons d r'=>
     have q5:smB d.toNat=true:=by rw[←wrap32];exact q5
     simp[q3,q5]
     omega)] at hQ
   exact hQ
  all_goals
   have hQ:Qf (if (c.toNat==126||dgB c.toNat)=true then tkNE (numF ((c::r).take (1+runN dgB r))).1 ((1+runN dgB r:Nat):Int) (numF ((c::r).take (1+runN dgB r))).2 else match signF (c::r) signL with|some x=>tkNE (6,x,0) x.length 0|none=>tkNE (0,[],0) 0 110) g:=by
    rw[if_neg (by simp[q1]),if_neg (by simp[q2]),if_neg ?_] at hQ
    ·split at hQ
     ·rename_i h
      rw[if_pos h]
      exact hQ
     ·rename_i h
      rw[if_neg h]
      split at hQ
      ·exact hQ
      ·exact hQ
    ·intro h
     simp only[Bool.and_eq_true,decide_eq_true_eq,beq_iff_eq] at h
     obtain⟨h1,h2,h3⟩:=h
     first
      |(have:=beq_eq_false_iff_ne.1 q3;omega)
      |(have:=of_decide_eq_false q4;omega)
      |(cases r with
       |nil=>cases h3
       |cons d r'=>
        have q5:smB d.toNat=false:=by rw[←wrap32];exact q5
        exact absurd (show smB d.toNat=true from h3) (by rw[q5];exact Bool.false_ne_true))
   have num:Qf (tkNE (numF ((c::r).take (1+runN dgB r))).1 ((1+runN dgB r:Nat):Int) (numF ((c::r).take (1+runN dgB r))).2) g→∀v,v=Val.d (.int .i64 ((runN dgB r:Nat):Int))→∃n,v=Val.d (.int .i64 n)∧InS 0 (IntKind.i64.wrap (1+n)) (c::r).length∧EvF TT 169 [.str (subStr (c::r) 0 (IntKind.i64.wrap (1+n)))] g (KQ Qf λv g'=>∃x,HasTy TT 43 x∧∃n_1,RetT v [x,.int .i64 n_1]∧Qf (Out.val (Val.tuple [Val.d (.agg [.int .i64 (intOf (fld x 0)),.str (strOf (fld x 1)),.int .i64 (intOf (fld x 2)),.int .i64 (intOf (fld x 3))]),Val.d (.int .i64 (IntKind.i64.wrap (1+n))),Val.d (.int .i64 n_1)])) g'):=by
    intro hQ v hv
    refine⟨_,hv,?_⟩
    rw[wrap1 (by omega),sub_take]
    refine⟨hin0 _ hm,lexnumber_ok (take_len hs) ⟨_,ty_tok (by unfold numF;split<;>simp),_,⟨rfl,rfl,trivial⟩,hQ⟩⟩
   refine Br_iff.2 ⟨λq=>⟨hin,lexrunDg_ok hr (num ?_ _ rfl)⟩,λq=>lexdigit_ok ⟨_,rfl,Br_iff.2 ⟨λq'=>⟨hin,lexrunDg_ok hr (num ?_ _ rfl)⟩,λq'=>?_⟩⟩⟩
   ·rw[if_pos (by have:=beq_iff_eq.1 q;simp;left;omega)] at hQ
    exact hQ
   ·rw[if_pos (by simp[q'])] at hQ
    exact hQ
   ·rw[if_neg (by have:=beq_eq_false_iff_ne.1 q;simp[q'];omega)] at hQ
    refine w170 ⟨_,ty_strs (l:=signL) (by decide) (by decide) (by decide),rfl,?_⟩
    exact signLoop hs signL [] rfl hQ
end
end Go.Proofs.YtgmapdcdmomioaaGreatDoor.Pa
namespace Go.Proofs.YtgmapdcdmomioaaGreatDoor.Pa
open Go Go.Proofs.YtgmapdcdmomioaaGreatDoor.Am
theorem leOf{a b:Nat}(h:a≤b):Nat.le a b:=h
def speltS(k:Int)(s:Str):Str:=if k=3 then 39::s else s
def speltB(k:Int)(s:Str):Bool:=
 let s':=speltS k s
 if s'=[]∨33<s'.length then false
 else decide ((tokF s').2.2=0∧((tokF s').2.1=s'.length∧(tokF s').1=(k,s,0)))
section
variable{n:Int}{s:Str}{g:Glob}{Qf:OGP}
theorem signF_len{s:Str}:∀{l:List Str} {x:Str},(∀y∈l,y.length≤2^40)→signF s l=some x→x.length≤2^40
 |[],x,_,h=>by cases h
 |y::l,x,hl,h=>by
  unfold signF at h
  split at h
  ·cases h
   exact hl _ List.mem_cons_self
  ·exact signF_len (λz hz=>hl _ (List.mem_cons_of_mem _ hz)) h
theorem numF_len(s:Str):(numF s).1.2.1.length≤2^40:=by unfold numF;split<;>simp
theorem tokF_len{s:Str}(hs:s.length≤2^40):(tokF s).1.2.1.length≤2^40:=by
 cases s with
 |nil=>simp[tokF]
 |cons c r=>
  simp only[tokF]
  have hr:r.length≤2^40:=by rw[List.length_cons] at hs;omega
  generalize (c.toNat==39&&_)=b3
  split
  ·exact wordF_len _ (take_len hs)
  ·split
   ·exact wordF_len _ (take_len hs)
   ·split
    ·exact wordF_len _ (take_len hr)
    ·split
     ·exact numF_len _
     ·split
      ·rename_i x hx
       exact signF_len (l:=signL) (by decide) hx
      ·simp
theorem tkEq{a b:Tk}:(a.1==b.1&&(a.2.1==b.2.1&&(a.2.2==b.2.2&&(((0:Int)==0)&&true))))=decide (a=b):=by
 rw[Bool.eq_iff_iff]
 obtain⟨a1,a2,a3⟩:=a
 obtain⟨b1,b2,b3⟩:=b
 simp
theorem lexspelt_ok{k:Int}(hk:k≠4)(hs:s.length≤2^40)(h3:k=3→s.length<2^40)(hQ:speltB k s=true→Qf (.val (.tuple [.d (.str (speltS k s)),.d (.bool true)])) g)(hQ':speltB k s=false→∀t,t.length≤33→Qf (.val (.tuple [.d (.str t),.d (.bool false)])) g):EvF TT 221 [tkD (k,s,0) 0] g Qf:=by
 refine w221 (ty_tok (by show s.length≤_;omega)) ?_
 have tail:∀s':Str,s'≠[]→s'.length≤33→speltS k s=s'→EvF TT 97 [.str s'] g (KQ Qf λv g'=>∃x,HasTy TT 43 x∧∃n n_1,RetT v [x,Dat.int IntKind.i64 n,Dat.int IntKind.i64 n_1]∧Br (n_1==0) (Br (n==(s'.length:Int)) (Qf (Out.val (Val.tuple [Val.d (Dat.str s'),Val.d (Dat.bool (intOf (fld x 0)==k&&(strOf (fld x 1)==s&&(intOf (fld x 2)==0&&(intOf (fld x 3)==0&&true)))))])) g') (Qf (Out.val (Val.tuple [Val.d (Dat.str s'),Val.d (Dat.bool false)])) g')) (Qf (Out.val (Val.tuple [Val.d (Dat.str s'),Val.d (Dat.bool false)])) g')):=by
  intro s' h1 h2 h3
  have hB:speltB k s=decide ((tokF s').2.2=0∧((tokF s').2.1=s'.length∧(tokF s').1=(k,s,0))):=by
   unfold speltB
   rw[h3]
   simp only[h1,false_or]
   rw[if_neg (by omega)]
  refine lextoken_ok h1 (by omega) ⟨_,ty_tok (tokF_len (by omega)),_,_,⟨rfl,rfl,rfl,trivial⟩,Br_iff.2 ⟨λq=>Br_iff.2 ⟨λq'=>?_,λq'=>?_⟩,λq=>?_⟩⟩
  ·have q:=beq_iff_eq.1 q
   have q':(tokF s').2.1=s'.length:=by have:=beq_iff_eq.1 q';omega
   have e:(intOf (fld (tkD (tokF s').1 0) 0)==k&&(strOf (fld (tkD (tokF s').1 0) 1)==s&&(intOf (fld (tkD (tokF s').1 0) 2)==0&&(intOf (fld (tkD (tokF s').1 0) 3)==0&&true))))=speltB k s:=by
    rw[hB]
    refine(tkEq (a:=(tokF s').1) (b:=(k,s,0))).trans (decide_eq_decide.2 ?_)
    simp[q,q']
   rw[e]
   cases hb:speltB k s with
   |true=>rw[←h3];exact hQ hb
   |false=>exact hQ' hb _ h2
  ·refine hQ' ?_ _ h2
   rw[hB]
   refine decide_eq_false λh=>?_
   have:=beq_eq_false_iff_ne.1 q'
   omega
  ·refine hQ' ?_ _ h2
   rw[hB]
   refine decide_eq_false λh=>?_
   have:=beq_eq_false_iff_ne.1 q
   omega
 refine Br_iff.2 ⟨λq=>?_,λq=>Br_iff.2 ⟨λq'=>?_,λq'=>?_⟩⟩
 ·have q:k=3:=beq_iff_eq.1 q
  have e:speltS k s=39::s:=if_pos q
  have h3:=h3 q
  refine⟨leOf (by show 1+s.length≤_;omega),Br_iff.2 ⟨λq'=>?_,λq'=>?_⟩⟩
  ·refine hQ' ?_ [] (by simp)
   unfold speltB
   rw[e]
   have q':=of_decide_eq_true q'
   have:33<(39::s).length:=by have q':(33:Int)<((39::s).length:Int):=q';omega
   simp only[this,or_true,if_true]
  ·have q':¬(33:Int)<((39::s).length:Int):=of_decide_eq_false q'
   exact tail (39::s) (by simp) (by omega) e
 ·exact absurd (beq_iff_eq.1 q') hk
 ·have e:speltS k s=s:=if_neg (beq_eq_false_iff_ne.1 q)
  refine Br_iff.2 ⟨λq1=>?_,λq1=>Br_iff.2 ⟨λq2=>?_,λq2=>?_⟩⟩
  ·have q1:s=[]:=beq_iff_eq.1 q1
   refine hQ' ?_ [] (by simp)
   unfold speltB
   rw[e,q1]
   rfl
  ·have q2:(33:Int)<(s.length:Int):=of_decide_eq_true q2
   refine hQ' ?_ [] (by simp)
   unfold speltB
   rw[e]
   have:33<s.length:=by omega
   simp only[this,or_true,if_true]
  ·have q1:¬s=[]:=beq_eq_false_iff_ne.1 q1
   have q2:¬(33:Int)<(s.length:Int):=of_decide_eq_false q2
   exact tail s q1 (by omega) e
theorem join1_ok{t sep:Str}(ht:t.length≤2^40)(hp:sep.length≤2^40)(hQ:Qf (.val (.d (.str t))) g):EvF TT 222 [.sl 1 [.str t],.str sep] g Qf:=by
 refine w222 (ty_strs (l:=[t]) (by simp) (λs hs=>by simp at hs;subst hs;exact ht) (by simp)) hp ?_
 exact⟨inB (i:=0) (by simp[elsOf]),hQ⟩
theorem fitsStr{n:Nat}(h:n≤2^30):Fits n 16:=⟨by omega,by omega⟩
theorem parseword_ok{k:Int}(hk:k≠4)(hs:s.length≤2^40)(h3:k=3→s.length<2^40)(hQ:Qf (.val (.d (.bool (speltB k s)))) g):EvF TT 136 [.int .i64 k,.str s] g Qf:=by
 refine w136 (by omega) ?_
 have hty:HasTy TT 37 (.sl 4 [tkD (k,s,0) 0]):=sl_ty (xs:=[tkD (k,s,0) 0]) (by kernel_rfl) (by kernel_rfl:TT.size 43=some 4) ⟨by simp,λb hb=>by
  have e:TT.bytes 43=some 40:=by kernel_rfl
  rw[e] at hb
  cases hb
  simp⟩ (λx hx=>by simp at hx;subst hx;exact ty_tok (by show s.length≤_;omega))
 refine w200 hty (w200_5 ?_)
 refine⟨inB (i:=0) (by simp[elsOf]),lexspelt_ok hk hs h3 (λhb=>?_) (λhb t ht=>?_)⟩
 ·have hl:(speltS k s).length≤33:=by
   unfold speltB at hb
   simp only at hb
   split at hb
   ·cases hb
   ·omega
  refine⟨_,leOf (by omega),_,⟨rfl,rfl,trivial⟩,fitsStr (by simp),w200_5 ?_⟩
  refine join1_ok (by omega) (by simp) ⟨_,leOf (by omega),rfl,Br_iff.2 ⟨λq=>?_,λq=>?_⟩⟩
  ·have q:=of_decide_eq_true q
   omega
  ·refine⟨_,leOf (by omega),_,⟨rfl,rfl,trivial⟩,?_⟩
   rw[hb] at hQ
   exact hQ
 ·refine⟨_,leOf (by omega),_,⟨rfl,rfl,trivial⟩,?_⟩
  refine⟨[],leOf (by simp),_,⟨rfl,rfl,trivial⟩,?_⟩
  rw[hb] at hQ
  exact hQ
end
end Go.Proofs.YtgmapdcdmomioaaGreatDoor.Pa
