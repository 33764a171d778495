/- What functions of the program do, printed by wip/tools/sx/sx.py. Words: letters, keywords, what the two packages say of them. Tokens of the program's lexer: one token, its text. The program's question whether a text is a word of a kind. -/
import Derived.Test.YtiheejdkkjfenaaGreatDoorRF
set_option linter.all false
set_option autoImplicit false
set_option maxRecDepth 100000
namespace Go.Proofs.YtiheejdkkjfenaaGreatDoor.Pa
open Go Go.Proofs.YtiheejdkkjfenaaGreatDoor.Am
variable{n0 n14 n15 n3 n5 n6 n95 n96:Int}{g:Glob}{Qf:OGP}{s0 s1 s8:List UInt8}{x0 x1 x13 x5 x94 y2:Dat}{b1:Bool}{f1:FuncId}{c1 l4:List Dat}{q8:Nat}
theorem w137
 (h:Br (decide (97≤n0)) (Qf (.val (.d (.bool (decide (n0≤122))))) g) (Qf (.val (.d (.bool false))) g)):
 EvF TT 137 [.int .u8 n0] g Qf:=
 sF Tryz.f137 [] [(5,.int .u8 n0)] ⟨tyI rfl,trivial⟩ h
theorem w138
 (h:Br (decide (65≤n0)) (Qf (.val (.d (.bool (decide (n0≤90))))) g) (Qf (.val (.d (.bool false))) g)):
 EvF TT 138 [.int .u8 n0] g Qf:=
 sF Tryz.f138 [] [(5,.int .u8 n0)] ⟨tyI rfl,trivial⟩ h
theorem w193
 (h:Br (decide (48≤n0)) (Qf (.val (.d (.bool (decide (n0≤57))))) g) (Qf (.val (.d (.bool false))) g)):
 EvF TT 193 [.int .u8 n0] g Qf:=
 sF Tryz.f193 [] [(5,.int .u8 n0)] ⟨tyI rfl,trivial⟩ h
theorem w139
 (h:EvF TT 137 [.int .u8 n0] g (KQ Qf λv g'=>∃b,v=.d (.bool b)∧Br b (Qf (.val (.d (.bool true))) g') (EvF TT 138 [.int .u8 n0] g' (KQ Qf λv g'=>∃b,v=.d (.bool b)∧Br b (Qf (.val (.d (.bool true))) g') (EvF TT 193 [.int .u8 n0] g' (KQ Qf λv g'=>∃b,v=.d (.bool b)∧Br b (Qf (.val (.d (.bool true))) g') (Qf (.val (.d (.bool (n0==95)))) g'))))))):
 EvF TT 139 [.int .u8 n0] g Qf:=
 sF Tryz.f139 [] [(5,.int .u8 n0)] ⟨tyI rfl,trivial⟩ h
def L192_2(s0:List UInt8)(x1:Dat)(n5:Int)(g:Glob)(Qf:OGP):=LC 192 Tryz.f192 [1,0,1,0] Qf 2 [(0,.v 9 (.str s0)),(1,.v 82 (x1)),(5,iv n5)] [] g
def lo192:List CuI:=[⟨2,[K 0,K 1,K 5],[]⟩]
theorem w192(h0:s0.length≤2^40)(h1:Ha TT 82 x1)
 (h:L192_2 s0 x1 0 g Qf):
 EvF TT 192 [.str s0,x1] g Qf:=
 sF Tryz.f192 lo192 [(9,.str s0),(82,x1)] ⟨tyt rfl h0,h1,trivial⟩ h
theorem w192_2
 (h:Br (decide (n5<((elO x1).length:Int))) (InB n5 (elO x1).length∧Br (strOf (fld (gtE (elO x1) n5) 0)==s0) (Qf (.val (.d (.bool true))) g) (L192_2 s0 x1 (IntKind.i64.wrap (n5+1)) g Qf)) (Qf (.val (.d (.bool false))) g)):
 L192_2 s0 x1 n5 g Qf:=sC lo192 h
theorem w136(h0:s0.length≤2^40)
 (h:EvF TT 192 [.str s0,.sl 1 [.str [116,121,112,101],.str [102,117,110],.str [108,101,116],.str [114,101,99],.str [105,110],.str [99,97,115,101],.str [111,102],.str [101,110,100],.str [105,102],.str [116,104,101,110],.str [101,108,115,101],.str [112,114,105,110,116]]] g (KQ Qf λv g'=>∃b,v=.d (.bool b)∧Qf (.val (.d (.bool b))) g')):
 EvF TT 136 [.str s0] g Qf:=
 sF Tryz.f136 [] [(9,.str s0)] ⟨tyt rfl h0,trivial⟩ h
def L83_4(s0:List UInt8)(n5:Int)(g:Glob)(Qf:OGP):=LC 83 Tryz.f83 [1,1,0,1,0] Qf 2 [(0,.v 9 (.str s0)),(5,iv n5)] [] g
def lo83:List CuI:=[⟨4,[K 0,K 5],[]⟩]
theorem w83(h0:s0.length≤2^40)
 (h:Br (decide ((↑s0.length:Int)<1)) (Qf (.val (.d (.bool false))) g) (Br (decide (32<(↑s0.length:Int))) (Qf (.val (.d (.bool false))) g) (Br b1 (InB 0 s0.length∧EvF TT 137 [.int .u8 (byteAt s0 0)] g (KQ Qf λv g'=>∃b,v=.d (.bool b)∧Br (!b) (Qf (.val (.d (.bool false))) g') (Br (!b1) (InB 0 s0.length∧EvF TT 138 [.int .u8 (byteAt s0 0)] g' (KQ Qf λv g'=>∃b,v=.d (.bool b)∧Br (!b) (Qf (.val (.d (.bool false))) g') (L83_4 s0 1 g' Qf))) (L83_4 s0 1 g' Qf)))) (Br (!b1) (InB 0 s0.length∧EvF TT 138 [.int .u8 (byteAt s0 0)] g (KQ Qf λv g'=>∃b,v=.d (.bool b)∧Br (!b) (Qf (.val (.d (.bool false))) g') (L83_4 s0 1 g' Qf))) (L83_4 s0 1 g Qf))))):
 EvF TT 83 [.str s0,.bool b1] g Qf:=
 sF Tryz.f83 lo83 [(9,.str s0),(4,.bool b1)] ⟨tyt rfl h0,tyl rfl,trivial⟩ h
theorem w83_4
 (h:Br (decide (n5<(↑s0.length:Int))) (InB n5 s0.length∧EvF TT 139 [.int .u8 (byteAt s0 n5)] g (KQ Qf λv g'=>∃b,v=.d (.bool b)∧Br (!b) (Qf (.val (.d (.bool false))) g') (L83_4 s0 (IntKind.i64.wrap (n5+1)) g' Qf))) (Qf (.val (.d (.bool true))) g)):
 L83_4 s0 n5 g Qf:=sC lo83 h
theorem w82(h0:s0.length≤2^40)
 (h:EvF TT 83 [.str s0,.bool true] g (KQ Qf λv g'=>∃b,v=.d (.bool b)∧Br b (EvF TT 136 [.str s0] g' (KQ Qf λv g'=>∃b,v=.d (.bool b)∧Qf (.val (.d (.bool !b))) g')) (Qf (.val (.d (.bool false))) g'))):
 EvF TT 82 [.str s0] g Qf:=
 sF Tryz.f82 [] [(9,.str s0)] ⟨tyt rfl h0,trivial⟩ h
theorem w84(h0:s0.length≤2^40)
 (h:EvF TT 83 [.str s0,.bool false] g (KQ Qf λv g'=>∃b,v=.d (.bool b)∧Qf (.val (.d (.bool b))) g')):
 EvF TT 84 [.str s0] g Qf:=
 sF Tryz.f84 [] [(9,.str s0)] ⟨tyt rfl h0,trivial⟩ h
theorem w196
 (h:Br (decide (-1073741824≤n0)) (Qf (.val (.d (.bool (decide (n0≤1073741823))))) g) (Qf (.val (.d (.bool false))) g)):
 EvF TT 196 [.int .i64 n0] g Qf:=
 sF Tryz.f196 [] [(3,.int .i64 n0)] ⟨tyI rfl,trivial⟩ h
theorem w202
 (h:Br (decide (-1073741824≤n0)) (Qf (.val (.d (.bool (decide (n0<1073741824))))) g) (Qf (.val (.d (.bool false))) g)):
 EvF TT 202 [.int .i64 n0] g Qf:=
 sF Tryz.f202 [] [(3,.int .i64 n0)] ⟨tyI rfl,trivial⟩ h
theorem w231
 (h:Qf (.val (.d (.agg [.str [],.str [43],.str [45],.str [42],.str [47],.str [37],.str [60],.str [61,61]]))) g):
 EvF TT 231 [] g Qf:=
 sF Tryz.f231 [] [] trivial h
def L210_2(s0:List UInt8)(x5:Dat)(n6:Int)(g:Glob)(Qf:OGP):=LC 210 Tryz.f210 [1,0,1,0] Qf 1 [(0,.v 9 (.str s0)),(5,.v 247 (x5)),(6,iv n6)] [] g
def lo210:List CuI:=[⟨2,[K 0,K 5,K 6],[]⟩]
theorem w210(h0:s0.length≤2^40)
 (h:EvF TT 231 [] g (KQ Qf λv g'=>∃x,Ha TT 247 x∧v=.d x∧L210_2 s0 x 0 g' Qf)):
 EvF TT 210 [.str s0] g Qf:=
 sF Tryz.f210 lo210 [(9,.str s0)] ⟨tyt rfl h0,trivial⟩ h
theorem w210_2
 (h:Br (decide (n6<8)) (Br (n6==7) (Br (strOf (fld x5 7)==s0) (Br (decide (0<n6)) (Qf (.val (.d (.int .i64 n6))) g) (L210_2 s0 x5 (IntKind.i64.wrap (n6+1)) g Qf)) (L210_2 s0 x5 (IntKind.i64.wrap (n6+1)) g Qf)) (Br (n6==6) (Br (strOf (fld x5 6)==s0) (Br (decide (0<n6)) (Qf (.val (.d (.int .i64 n6))) g) (L210_2 s0 x5 (IntKind.i64.wrap (n6+1)) g Qf)) (L210_2 s0 x5 (IntKind.i64.wrap (n6+1)) g Qf)) (Br (n6==5) (Br (strOf (fld x5 5)==s0) (Br (decide (0<n6)) (Qf (.val (.d (.int .i64 n6))) g) (L210_2 s0 x5 (IntKind.i64.wrap (n6+1)) g Qf)) (L210_2 s0 x5 (IntKind.i64.wrap (n6+1)) g Qf)) (Br (n6==4) (Br (strOf (fld x5 4)==s0) (Br (decide (0<n6)) (Qf (.val (.d (.int .i64 n6))) g) (L210_2 s0 x5 (IntKind.i64.wrap (n6+1)) g Qf)) (L210_2 s0 x5 (IntKind.i64.wrap (n6+1)) g Qf)) (Br (n6==3) (Br (strOf (fld x5 3)==s0) (Br (decide (0<n6)) (Qf (.val (.d (.int .i64 n6))) g) (L210_2 s0 x5 (IntKind.i64.wrap (n6+1)) g Qf)) (L210_2 s0 x5 (IntKind.i64.wrap (n6+1)) g Qf)) (Br (n6==2) (Br (strOf (fld x5 2)==s0) (Br (decide (0<n6)) (Qf (.val (.d (.int .i64 n6))) g) (L210_2 s0 x5 (IntKind.i64.wrap (n6+1)) g Qf)) (L210_2 s0 x5 (IntKind.i64.wrap (n6+1)) g Qf)) (Br (n6==1) (Br (strOf (fld x5 1)==s0) (Br (decide (0<n6)) (Qf (.val (.d (.int .i64 n6))) g) (L210_2 s0 x5 (IntKind.i64.wrap (n6+1)) g Qf)) (L210_2 s0 x5 (IntKind.i64.wrap (n6+1)) g Qf)) (Br (n6==0) (Br (strOf (fld x5 0)==s0) (Br (decide (0<n6)) (Qf (.val (.d (.int .i64 n6))) g) (L210_2 s0 x5 (IntKind.i64.wrap (n6+1)) g Qf)) (L210_2 s0 x5 (IntKind.i64.wrap (n6+1)) g Qf)) False)))))))) (Qf (.val (.d (.int .i64 0))) g)):
 L210_2 s0 x5 n6 g Qf:=sC lo210 h
theorem w220
 (h:Qf (.val (.uq 1 [.str [],.str [43],.str [45],.str [42],.str [47],.str [37],.str [60],.str [61,61]])) g):
 EvF TT 220 [] g Qf:=
 sF Tryz.f220 [] [] trivial h
def L197_2(s0:List UInt8)(n3:Int)(g:Glob)(Qf:OGP):=LC 197 Tryz.f197 [1,0,1,0] Qf 1 [(0,.v 9 (.str s0)),(3,iv n3)] [] g
def lo197:List CuI:=[⟨2,[K 0,K 3],[]⟩]
theorem w197(h0:s0.length≤2^40)
 (h:L197_2 s0 1 g Qf):
 EvF TT 197 [.str s0] g Qf:=
 sF Tryz.f197 lo197 [(9,.str s0)] ⟨tyt rfl h0,trivial⟩ h
theorem w197_2
 (h:EvF TT 220 [] g (KQ Qf λv g'=>∃x,Ha TT 82 x∧Rt v x∧Br (decide (n3<((elO x).length:Int))) (EvF TT 220 [] g' (KQ Qf λv g'=>∃x,Ha TT 82 x∧Rt v x∧InB n3 (elO x).length∧Br (strOf (fld (gtE (elO x) n3) 0)==s0) (Qf (.val (.d (.int .i64 n3))) g') (L197_2 s0 (IntKind.i64.wrap (n3+1)) g' Qf))) (Qf (.val (.d (.int .i64 0))) g'))):
 L197_2 s0 n3 g Qf:=sC lo197 h
theorem w147
 (h:Br (decide (97≤n0)) (Qf (.val (.d (.bool (decide (n0≤122))))) g) (Qf (.val (.d (.bool false))) g)):
 EvF TT 147 [.int .i32 n0] g Qf:=
 sF Tryz.f147 [] [(21,.int .i32 n0)] ⟨tyI rfl,trivial⟩ h
theorem w149
 (h:Br (decide (65≤n0)) (Qf (.val (.d (.bool (decide (n0≤90))))) g) (Qf (.val (.d (.bool false))) g)):
 EvF TT 149 [.int .i32 n0] g Qf:=
 sF Tryz.f149 [] [(21,.int .i32 n0)] ⟨tyI rfl,trivial⟩ h
theorem w150
 (h:Br (decide (48≤n0)) (Qf (.val (.d (.bool (decide (n0≤57))))) g) (Qf (.val (.d (.bool false))) g)):
 EvF TT 150 [.int .i32 n0] g Qf:=
 sF Tryz.f150 [] [(21,.int .i32 n0)] ⟨tyI rfl,trivial⟩ h
theorem w146
 (h:EvF TT 147 [.int .i32 n0] g (KQ Qf λv g'=>∃b,v=.d (.bool b)∧Br b (Qf (.val (.d (.bool true))) g') (EvF TT 149 [.int .i32 n0] g' (KQ Qf λv g'=>∃b,v=.d (.bool b)∧Br b (Qf (.val (.d (.bool true))) g') (EvF TT 150 [.int .i32 n0] g' (KQ Qf λv g'=>∃b,v=.d (.bool b)∧Br b (Qf (.val (.d (.bool true))) g') (Qf (.val (.d (.bool (n0==95)))) g'))))))):
 EvF TT 146 [.int .i32 n0] g Qf:=
 sF Tryz.f146 [] [(21,.int .i32 n0)] ⟨tyI rfl,trivial⟩ h
def L145_2(s0:List UInt8)(f1:FuncId)(c1:List Dat)(s8:List UInt8)(q8:Nat)(g:Glob)(Qf:OGP):=LC 145 Tryz.f145 [1,0,1,0] Qf 2 [(0,.v 9 (.str s0)),(1,.v 191 (.clo f1 c1)),(8,.loc 8 0 0)] [(8,.iter s8 q8)] g
def lo145:List CuI:=[⟨2,[K 0,K 1,K 8],[(8,.iter)]⟩]
theorem w145(h0:s0.length≤2^40)
 (h:L145_2 s0 f1 c1 s0 0 g Qf):
 EvF TT 145 [.str s0,.clo f1 c1] g Qf:=
 sF Tryz.f145 lo145 [(9,.str s0),(191,.clo f1 c1)] ⟨tyt rfl h0,tC rfl,trivial⟩ h
theorem w145_2
 (h:Br (decide (q8<s8.length)) (EvF TT f1 (.int .i32 (rue s8 q8)::c1) g (KQ Qf λv g'=>∃b,v=.d (.bool b)∧Br (!b) (Qf (.val (.d (.int .i64 (↑q8:Int)))) g') (L145_2 s0 f1 c1 s8 (q8+runeLen s8 q8) g' Qf))) (Qf (.val (.d (.int .i64 (↑s0.length:Int)))) g)):
 L145_2 s0 f1 c1 s8 q8 g Qf:=sC lo145 h
theorem w199(h0:s0.length≤2^40)
 (h:Br (s0==[116,121,112,101]) (Br (s0==[116,121,112,101]) (Qf (.val (.d (.bool true))) g) (Qf (.val (.d (.bool false))) g)) (Br (s0==[102,117,110]) (Br (s0==[102,117,110]) (Qf (.val (.d (.bool true))) g) (Qf (.val (.d (.bool false))) g)) (Br (s0==[108,101,116]) (Br (s0==[108,101,116]) (Qf (.val (.d (.bool true))) g) (Qf (.val (.d (.bool false))) g)) (Br (s0==[114,101,99]) (Br (s0==[114,101,99]) (Qf (.val (.d (.bool true))) g) (Qf (.val (.d (.bool false))) g)) (Br (s0==[105,110]) (Br (s0==[105,110]) (Qf (.val (.d (.bool true))) g) (Qf (.val (.d (.bool false))) g)) (Br (s0==[99,97,115,101]) (Br (s0==[99,97,115,101]) (Qf (.val (.d (.bool true))) g) (Qf (.val (.d (.bool false))) g)) (Br (s0==[111,102]) (Br (s0==[111,102]) (Qf (.val (.d (.bool true))) g) (Qf (.val (.d (.bool false))) g)) (Br (s0==[101,110,100]) (Br (s0==[101,110,100]) (Qf (.val (.d (.bool true))) g) (Qf (.val (.d (.bool false))) g)) (Br (s0==[105,102]) (Br (s0==[105,102]) (Qf (.val (.d (.bool true))) g) (Qf (.val (.d (.bool false))) g)) (Br (s0==[116,104,101,110]) (Br (s0==[116,104,101,110]) (Qf (.val (.d (.bool true))) g) (Qf (.val (.d (.bool false))) g)) (Br (s0==[101,108,115,101]) (Br (s0==[101,108,115,101]) (Qf (.val (.d (.bool true))) g) (Qf (.val (.d (.bool false))) g)) (Br (s0==[112,114,105,110,116]) (Qf (.val (.d (.bool true))) g) (Qf (.val (.d (.bool false))) g))))))))))))):
 EvF TT 199 [.str s0] g Qf:=
 sF Tryz.f199 [] [(9,.str s0)] ⟨tyt rfl h0,trivial⟩ h
theorem w148(h1:s1.length≤2^40)
 (h:Br (decide (32<(↑s1.length:Int))) (Qf (.val (.tuple [.d (.agg [.int .i64 0,.str [],.int .i64 0,.int .i64 0]),.d (.int .i64 2)])) g) (Br (n0==1) (EvF TT 199 [.str s1] g (KQ Qf λv g'=>∃b,v=.d (.bool b)∧Br b (Qf (.val (.tuple [.d (.agg [.int .i64 (intOf (.int .i64 5)),.str s1,.int .i64 (intOf (.int .i64 0)),.int .i64 (intOf (.int .i64 0))]),.d (.int .i64 0)])) g') (Qf (.val (.tuple [.d (.agg [.int .i64 (intOf (.int .i64 n0)),.str s1,.int .i64 (intOf (.int .i64 0)),.int .i64 (intOf (.int .i64 0))]),.d (.int .i64 0)])) g'))) (Qf (.val (.tuple [.d (.agg [.int .i64 (intOf (.int .i64 n0)),.str s1,.int .i64 (intOf (.int .i64 0)),.int .i64 (intOf (.int .i64 0))]),.d (.int .i64 0)])) g))):
 EvF TT 148 [.int .i64 n0,.str s1] g Qf:=
 sF Tryz.f148 [] [(3,.int .i64 n0),(9,.str s1)] ⟨tyI rfl,tyt rfl h1,trivial⟩ h
theorem w203(h0:s0.length≤2^40)(h1:s1.length≤2^40)
 (h:Br (decide ((↑s1.length:Int)≤(↑s0.length:Int))) (InS 0 (↑s1.length:Int) s0.length∧Qf (.val (.d (.bool (su s0 0 (↑s1.length:Int)==s1)))) g) (Qf (.val (.d (.bool false))) g)):
 EvF TT 203 [.str s0,.str s1] g Qf:=
 sF Tryz.f203 [] [(9,.str s0),(9,.str s1)] ⟨tyt rfl h0,tyt rfl h1,trivial⟩ h
theorem w153(h0:s0.length≤2^40)(h1:s1.length≤2^40)
 (h:EvF TT 203 [.str s0,.str s1] g (KQ Qf λv g'=>∃b,v=.d (.bool b)∧Qf (.val (.d (.bool b))) g')):
 EvF TT 153 [.str s0,.str s1] g Qf:=
 sF Tryz.f153 [] [(9,.str s0),(9,.str s1)] ⟨tyt rfl h0,tyt rfl h1,trivial⟩ h
theorem w152
 (h:Qf (.val (.uq 1 [.str [45,62],.str [61,61],.str [124],.str [61],.str [40],.str [41],.str [59],.str [43],.str [45],.str [42],.str [47],.str [37],.str [60],.str [95]])) g):
 EvF TT 152 [] g Qf:=
 sF Tryz.f152 [] [] trivial h
def L95_17(s0:List UInt8)(x94:Dat)(n95 n96:Int)(y2:Dat)(g:Glob)(Qf:OGP):=LC 95 Tryz.f95 [1,1,1,1,0,1,0] Qf 1 [(0,.v 9 (.str s0)),(2,.loc 2 0 0),(94,.v 82 (x94)),(95,iv n95),(96,iv n96)] [(2,.whole 150 y2)] g
def lo95:List CuI:=[⟨17,[K 0,K 2,K 94,K 95,K 96],[(2,.whole 150)]⟩]
theorem w95(h0:s0.length≤2^40)
 (h:InB 0 s0.length∧
 InS 1 (↑s0.length:Int) s0.length∧
  EvF TT 145 [.str (su s0 1 (↑s0.length:Int)),.clo 146 []] g λout g'=>
   Ou (λx=>Qf (.panic x) g')
    (λv=>
     ∃n,
      v=.d (.int .i64 n)∧
       EvF TT 147 [.int .i32 (IntKind.i32.wrap (byteAt s0 0))] g' λout g'=>
        Ou (λx=>Qf (.panic x) g')
         (λv=>
          ∃b,
           v=.d (.bool b)∧
            Br b (InS 0 (IntKind.i64.wrap (1+n)) s0.length∧EvF TT 148 [.int .i64 1,.str (su s0 0 (IntKind.i64.wrap (1+n)))] g' (KQ Qf λv g'=>∃x,Ha TT 150 x∧∃n_1,Ret v [x,.int .i64 n_1]∧Qf (.val (.tuple [.d (.agg [.int .i64 (intOf (fld x 0)),.str (strOf (fld x 1)),.int .i64 (intOf (fld x 2)),.int .i64 (intOf (fld x 3))]),.d (.int .i64 (IntKind.i64.wrap (1+n))),.d (.int .i64 n_1)])) g'))
             (EvF TT 149 [.int .i32 (IntKind.i32.wrap (byteAt s0 0))] g' λout g'=>
              Ou (λx=>Qf (.panic x) g')
               (λv=>
                ∃b,
                 v=.d (.bool b)∧
                  Br b (InS 0 (IntKind.i64.wrap (1+n)) s0.length∧EvF TT 148 [.int .i64 2,.str (su s0 0 (IntKind.i64.wrap (1+n)))] g' (KQ Qf λv g'=>∃x,Ha TT 150 x∧∃n_1,Ret v [x,.int .i64 n_1]∧Qf (.val (.tuple [.d (.agg [.int .i64 (intOf (fld x 0)),.str (strOf (fld x 1)),.int .i64 (intOf (fld x 2)),.int .i64 (intOf (fld x 3))]),.d (.int .i64 (IntKind.i64.wrap (1+n))),.d (.int .i64 n_1)])) g'))
                   (Br (IntKind.i32.wrap (byteAt s0 0)==39)
                    (Br (decide (1<IntKind.i64.wrap (1+n))) (InB 1 s0.length∧EvF TT 147 [.int .i32 (IntKind.i32.wrap (byteAt s0 1))] g' (KQ Qf λv g'=>∃b,v=.d (.bool b)∧Br b (InS 1 (IntKind.i64.wrap (1+n)) s0.length∧EvF TT 148 [.int .i64 3,.str (su s0 1 (IntKind.i64.wrap (1+n)))] g' (KQ Qf λv g'=>∃x,Ha TT 150 x∧∃n_1,Ret v [x,.int .i64 n_1]∧Qf (.val (.tuple [.d (.agg [.int .i64 (intOf (fld x 0)),.str (strOf (fld x 1)),.int .i64 (intOf (fld x 2)),.int .i64 (intOf (fld x 3))]),.d (.int .i64 (IntKind.i64.wrap (1+n))),.d (.int .i64 n_1)])) g')) (Br (IntKind.i32.wrap (byteAt s0 0)==126) (InS 1 (↑s0.length:Int) s0.length∧EvF TT 145 [.str (su s0 1 (↑s0.length:Int)),.clo 150 []] g' (KQ Qf λv g'=>∃n,v=.d (.int .i64 n)∧InS 0 (IntKind.i64.wrap (1+n)) s0.length∧EvF TT 151 [.str (su s0 0 (IntKind.i64.wrap (1+n)))] g' (KQ Qf λv g'=>∃x,Ha TT 150 x∧∃n_1,Ret v [x,.int .i64 n_1]∧Qf (.val (.tuple [.d (.agg [.int .i64 (intOf (fld x 0)),.str (strOf (fld x 1)),.int .i64 (intOf (fld x 2)),.int .i64 (intOf (fld x 3))]),.d (.int .i64 (IntKind.i64.wrap (1+n))),.d (.int .i64 n_1)])) g'))) (EvF TT 150 [.int .i32 (IntKind.i32.wrap (byteAt s0 0))] g' (KQ Qf λv g'=>∃b,v=.d (.bool b)∧Br b (InS 1 (↑s0.length:Int) s0.length∧EvF TT 145 [.str (su s0 1 (↑s0.length:Int)),.clo 150 []] g' (KQ Qf λv g'=>∃n,v=.d (.int .i64 n)∧InS 0 (IntKind.i64.wrap (1+n)) s0.length∧EvF TT 151 [.str (su s0 0 (IntKind.i64.wrap (1+n)))] g' (KQ Qf λv g'=>∃x,Ha TT 150 x∧∃n_1,Ret v [x,.int .i64 n_1]∧Qf (.val (.tuple [.d (.agg [.int .i64 (intOf (fld x 0)),.str (strOf (fld x 1)),.int .i64 (intOf (fld x 2)),.int .i64 (intOf (fld x 3))]),.d (.int .i64 (IntKind.i64.wrap (1+n))),.d (.int .i64 n_1)])) g'))) (EvF TT 152 [] g' (KQ Qf λv g'=>∃x,Ha TT 82 x∧Rt v x∧L95_17 s0 x ((elO x).length:Int) 0 (.agg [.int .i64 0,.str [],.int .i64 0,.int .i64 0]) g' Qf)))))))
                     (Br (IntKind.i32.wrap (byteAt s0 0)==126) (InS 1 (↑s0.length:Int) s0.length∧EvF TT 145 [.str (su s0 1 (↑s0.length:Int)),.clo 150 []] g' (KQ Qf λv g'=>∃n,v=.d (.int .i64 n)∧InS 0 (IntKind.i64.wrap (1+n)) s0.length∧EvF TT 151 [.str (su s0 0 (IntKind.i64.wrap (1+n)))] g' (KQ Qf λv g'=>∃x,Ha TT 150 x∧∃n_1,Ret v [x,.int .i64 n_1]∧Qf (.val (.tuple [.d (.agg [.int .i64 (intOf (fld x 0)),.str (strOf (fld x 1)),.int .i64 (intOf (fld x 2)),.int .i64 (intOf (fld x 3))]),.d (.int .i64 (IntKind.i64.wrap (1+n))),.d (.int .i64 n_1)])) g'))) (EvF TT 150 [.int .i32 (IntKind.i32.wrap (byteAt s0 0))] g' (KQ Qf λv g'=>∃b,v=.d (.bool b)∧Br b (InS 1 (↑s0.length:Int) s0.length∧EvF TT 145 [.str (su s0 1 (↑s0.length:Int)),.clo 150 []] g' (KQ Qf λv g'=>∃n,v=.d (.int .i64 n)∧InS 0 (IntKind.i64.wrap (1+n)) s0.length∧EvF TT 151 [.str (su s0 0 (IntKind.i64.wrap (1+n)))] g' (KQ Qf λv g'=>∃x,Ha TT 150 x∧∃n_1,Ret v [x,.int .i64 n_1]∧Qf (.val (.tuple [.d (.agg [.int .i64 (intOf (fld x 0)),.str (strOf (fld x 1)),.int .i64 (intOf (fld x 2)),.int .i64 (intOf (fld x 3))]),.d (.int .i64 (IntKind.i64.wrap (1+n))),.d (.int .i64 n_1)])) g'))) (EvF TT 152 [] g' (KQ Qf λv g'=>∃x,Ha TT 82 x∧Rt v x∧L95_17 s0 x ((elO x).length:Int) 0 (.agg [.int .i64 0,.str [],.int .i64 0,.int .i64 0]) g' Qf))))))
                    (Br (IntKind.i32.wrap (byteAt s0 0)==126) (InS 1 (↑s0.length:Int) s0.length∧EvF TT 145 [.str (su s0 1 (↑s0.length:Int)),.clo 150 []] g' (KQ Qf λv g'=>∃n,v=.d (.int .i64 n)∧InS 0 (IntKind.i64.wrap (1+n)) s0.length∧EvF TT 151 [.str (su s0 0 (IntKind.i64.wrap (1+n)))] g' (KQ Qf λv g'=>∃x,Ha TT 150 x∧∃n_1,Ret v [x,.int .i64 n_1]∧Qf (.val (.tuple [.d (.agg [.int .i64 (intOf (fld x 0)),.str (strOf (fld x 1)),.int .i64 (intOf (fld x 2)),.int .i64 (intOf (fld x 3))]),.d (.int .i64 (IntKind.i64.wrap (1+n))),.d (.int .i64 n_1)])) g'))) (EvF TT 150 [.int .i32 (IntKind.i32.wrap (byteAt s0 0))] g' (KQ Qf λv g'=>∃b,v=.d (.bool b)∧Br b (InS 1 (↑s0.length:Int) s0.length∧EvF TT 145 [.str (su s0 1 (↑s0.length:Int)),.clo 150 []] g' (KQ Qf λv g'=>∃n,v=.d (.int .i64 n)∧InS 0 (IntKind.i64.wrap (1+n)) s0.length∧EvF TT 151 [.str (su s0 0 (IntKind.i64.wrap (1+n)))] g' (KQ Qf λv g'=>∃x,Ha TT 150 x∧∃n_1,Ret v [x,.int .i64 n_1]∧Qf (.val (.tuple [.d (.agg [.int .i64 (intOf (fld x 0)),.str (strOf (fld x 1)),.int .i64 (intOf (fld x 2)),.int .i64 (intOf (fld x 3))]),.d (.int .i64 (IntKind.i64.wrap (1+n))),.d (.int .i64 n_1)])) g'))) (EvF TT 152 [] g' (KQ Qf λv g'=>∃x,Ha TT 82 x∧Rt v x∧L95_17 s0 x ((elO x).length:Int) 0 (.agg [.int .i64 0,.str [],.int .i64 0,.int .i64 0]) g' Qf)))))))
               out))
         out)
    out):
  EvF TT 95 [.str s0] g Qf:=
 sF Tryz.f95 lo95 [(9,.str s0)] ⟨tyt rfl h0,trivial⟩ h
theorem w95_17
 (h:Br (decide (n96<n95)) (InB n96 (elO x94).length∧EvF TT 153 [.str s0,.str (strOf (fld (gtE (elO x94) n96) 0))] g (KQ Qf λv g'=>∃b,v=.d (.bool b)∧Br b (Qf (.val (.tuple [.d (.agg [.int .i64 (intOf (.int .i64 6)),.str (strOf (.str (strOf (fld (gtE (elO x94) n96) 0)))),.int .i64 (intOf (.int .i64 0)),.int .i64 (intOf (.int .i64 0))]),.d (.int .i64 ((strOf (fld (gtE (elO x94) n96) 0)).length:Int)),.d (.int .i64 0)])) g') (L95_17 s0 x94 n95 (IntKind.i64.wrap (n96+1)) y2 g' Qf))) (Qf (.val (.tuple [.d (.agg [.int .i64 0,.str [],.int .i64 0,.int .i64 0]),.d (.int .i64 0),.d (.int .i64 110)])) g)):
 L95_17 s0 x94 n95 n96 y2 g Qf:=sC lo95 h
theorem w232(h0:Ha TT 150 x0)
 (h:Br (intOf (fld x0 0)==3) ((1+(strOf (fld x0 1)).length).le 1099511627776∧Br (decide (33<((39::(strOf (fld x0 1))).length:Int))) (Qf (.val (.tuple [.d (.str []),.d (.bool false)])) g) (EvF TT 95 [.str (39::(strOf (fld x0 1)))] g (KQ Qf λv g'=>∃x,Ha TT 150 x∧∃n n_1,Ret v [x,.int .i64 n,.int .i64 n_1]∧Br (n_1==0) (Br (n==((39::(strOf (fld x0 1))).length:Int)) (Qf (.val (.tuple [.d (.str (39::(strOf (fld x0 1)))),.d (.bool (intOf (fld x 0)==intOf (.int .i64 (intOf (fld x0 0)))&&(strOf (fld x 1)==strOf (.str (strOf (fld x0 1)))&&(intOf (fld x 2)==intOf (.int .i64 (intOf (fld x0 2)))&&(intOf (fld x 3)==intOf (.int .i64 0)&&true)))))])) g') (Qf (.val (.tuple [.d (.str (39::(strOf (fld x0 1)))),.d (.bool false)])) g')) (Qf (.val (.tuple [.d (.str (39::(strOf (fld x0 1)))),.d (.bool false)])) g'))))
 (Br (intOf (fld x0 0)==4) (EvF TT 242 [.int .i64 (intOf (fld x0 2))] g (KQ Qf λv g'=>∃s,s.length.le 1099511627776∧v=.d (.str s)∧Br (decide (intOf (fld x0 2)<0)) (InS 1 (↑s.length:Int) s.length∧(1+(su s 1 (↑s.length:Int)).length).le 1099511627776∧Br (decide (33<((126::(su s 1 (↑s.length:Int))).length:Int))) (Qf (.val (.tuple [.d (.str []),.d (.bool false)])) g') (EvF TT 95 [.str (126::(su s 1 (↑s.length:Int)))] g' (KQ Qf λv g'=>∃x,Ha TT 150 x∧∃n n_1,Ret v [x,.int .i64 n,.int .i64 n_1]∧Br (n_1==0) (Br (n==((126::(su s 1 (↑s.length:Int))).length:Int)) (Qf (.val (.tuple [.d (.str (126::(su s 1 (↑s.length:Int)))),.d (.bool (intOf (fld x 0)==intOf (.int .i64 (intOf (fld x0 0)))&&(strOf (fld x 1)==strOf (.str (strOf (fld x0 1)))&&(intOf (fld x 2)==intOf (.int .i64 (intOf (fld x0 2)))&&(intOf (fld x 3)==intOf (.int .i64 0)&&true)))))])) g') (Qf (.val (.tuple [.d (.str (126::(su s 1 (↑s.length:Int)))),.d (.bool false)])) g')) (Qf (.val (.tuple [.d (.str (126::(su s 1 (↑s.length:Int)))),.d (.bool false)])) g')))) (Br (s==[]) (Qf (.val (.tuple [.d (.str []),.d (.bool false)])) g') (Br (decide (33<(↑s.length:Int))) (Qf (.val (.tuple [.d (.str []),.d (.bool false)])) g') (EvF TT 95 [.str s] g' (KQ Qf λv g'=>∃x,Ha TT 150 x∧∃n n_1,Ret v [x,.int .i64 n,.int .i64 n_1]∧Br (n_1==0) (Br (n==(↑s.length:Int)) (Qf (.val (.tuple [.d (.str s),.d (.bool (intOf (fld x 0)==intOf (.int .i64 (intOf (fld x0 0)))&&(strOf (fld x 1)==strOf (.str (strOf (fld x0 1)))&&(intOf (fld x 2)==intOf (.int .i64 (intOf (fld x0 2)))&&(intOf (fld x 3)==intOf (.int .i64 0)&&true)))))])) g') (Qf (.val (.tuple [.d (.str s),.d (.bool false)])) g')) (Qf (.val (.tuple [.d (.str s),.d (.bool false)])) g'))))))) (Br (strOf (fld x0 1)==[]) (Qf (.val (.tuple [.d (.str []),.d (.bool false)])) g) (Br (decide (33<((strOf (fld x0 1)).length:Int))) (Qf (.val (.tuple [.d (.str []),.d (.bool false)])) g) (EvF TT 95 [.str (strOf (fld x0 1))] g (KQ Qf λv g'=>∃x,Ha TT 150 x∧∃n n_1,Ret v [x,.int .i64 n,.int .i64 n_1]∧Br (n_1==0) (Br (n==((strOf (fld x0 1)).length:Int)) (Qf (.val (.tuple [.d (.str (strOf (fld x0 1))),.d (.bool (intOf (fld x 0)==intOf (.int .i64 (intOf (fld x0 0)))&&(strOf (fld x 1)==strOf (.str (strOf (fld x0 1)))&&(intOf (fld x 2)==intOf (.int .i64 (intOf (fld x0 2)))&&(intOf (fld x 3)==intOf (.int .i64 0)&&true)))))])) g') (Qf (.val (.tuple [.d (.str (strOf (fld x0 1))),.d (.bool false)])) g')) (Qf (.val (.tuple [.d (.str (strOf (fld x0 1))),.d (.bool false)])) g'))))))):
  EvF TT 232 [x0] g Qf:=
 sF Tryz.f232 [] [(150,x0)] ⟨h0,trivial⟩ h
def L233_12(x0:Dat)(s1:List UInt8)(n5:Int)(x39:Dat)(n40 n41:Int)(g:Glob)(Qf:OGP):=LC 233 Tryz.f233 [1,1,1,1,0,1,0] Qf 2 [(0,.v 82 (x0)),(1,.v 9 (.str s1)),(5,iv n5),(39,.v 82 (x39)),(40,iv n40),(41,iv n41)] [] g
def lo233:List CuI:=[⟨12,[K 0,K 1,K 5,K 39,K 40,K 41],[]⟩,⟨22,[K 1,K 8,K 63,K 64,K 65],[]⟩]
theorem w233(h0:Ha TT 82 x0)(h1:s1.length≤2^40)
 (h:Br (((elO x0).length:Int)==0) (Qf (.val (.d (.str []))) g) (Br (((elO x0).length:Int)==1) (InB 0 (elO x0).length∧Qf (.val (.d (.str (strOf (fld (gtE (elO x0) 0) 0))))) g) (Br (decide (0<(↑s1.length:Int))) (NeZ (IntKind.i64.wrap (((elO x0).length:Int)-1))∧Br (decide (IntKind.i64.wrap (Int.tdiv 9223372036854775807 (IntKind.i64.wrap (((elO x0).length:Int)-1)))≤(↑s1.length:Int))) (Qf (.panic (.iface 9 (.str [115,116,114,105,110,103,115,58,32,74,111,105,110,32,111,117,116,112,117,116,32,108,101,110,103,116,104,32,111,118,101,114,102,108,111,119]))) g) (L233_12 x0 s1 (IntKind.i64.wrap (0+IntKind.i64.wrap ((↑s1.length:Int)*IntKind.i64.wrap (((elO x0).length:Int)-1)))) x0 ((elO x0).length:Int) 0 g Qf)) (L233_12 x0 s1 0 x0 ((elO x0).length:Int) 0 g Qf)))):
 EvF TT 233 [x0,.str s1] g Qf:=
 sF Tryz.f233 lo233 [(82,x0),(9,.str s1)] ⟨h0,tyt rfl h1,trivial⟩ h
def L212_5(l4:List Dat)(x13:Dat)(n14 n15:Int)(g:Glob)(Qf:OGP):=LC 212 Tryz.f212 [1,1,1,0,1,0] Qf 1 [(4,.acc [(29,0)] 82 1 l4),(13,.v 105 (x13)),(14,iv n14),(15,iv n15)] [] g
def lo212:List CuI:=[⟨5,[(4,.acc [29]),K 13,K 14,K 15],[]⟩]
theorem w212(h0:Ha TT 105 x0)
 (h:Br (decide (4096<((elO x0).length:Int))) (Qf (.val (.tuple [.d (.str []),.d (.int .i64 3)])) g) (L212_5 [] x0 ((elO x0).length:Int) 0 g Qf)):
 EvF TT 212 [x0] g Qf:=
 sF Tryz.f212 lo212 [(105,x0)] ⟨h0,trivial⟩ h
theorem w212_5
 (h:Br (decide (n15<n14)) (InB n15 (elO x13).length∧EvF TT 232 [gtE (elO x13) n15] g (KQ Qf λv g'=>∃s,s.length.le 1099511627776∧∃b,Ret v [.str s,.bool b]∧Br (!b) (Qf (.val (.tuple [.d (.str []),.d (.int .i64 1)])) g') (Fits (l4.length+[Dat.str s].length) 16∧L212_5 (l4++[Dat.str s]) x13 n14 (IntKind.i64.wrap (n15+1)) g' Qf))) (EvF TT 233 [sOf 1 l4,.str [32]] g (KQ Qf λv g'=>∃s,s.length.le 1099511627776∧v=.d (.str s)∧Br (decide (8192<(↑s.length:Int))) (Qf (.val (.tuple [.d (.str []),.d (.int .i64 2)])) g') (Qf (.val (.tuple [.d (.str s),.d (.int .i64 0)])) g')))):
 L212_5 l4 x13 n14 n15 g Qf:=sC lo212 h
theorem w176(h1:s1.length≤2^40)
 (h:EvF TT 212 [.sl 4 [.agg [.int .i64 n0,.str s1,.int .i64 0,.int .i64 0]]] g (KQ Qf λv g'=>∃s,s.length.le 1099511627776∧∃n,Ret v [.str s,.int .i64 n]∧Qf (.val (.d (.bool (n==0)))) g')):
 EvF TT 176 [.int .i64 n0,.str s1] g Qf:=
 sF Tryz.f176 [] [(3,.int .i64 n0),(9,.str s1)] ⟨tyI rfl,tyt rfl h1,trivial⟩ h
end Go.Proofs.YtiheejdkkjfenaaGreatDoor.Pa
namespace Go.Proofs.YtiheejdkkjfenaaGreatDoor.Pa
open Go Go.Proofs.YtiheejdkkjfenaaGreatDoor.Am
theorem brA{a b:Bool}{g:Glob}{Qf:OGP}:Br a (Qf (.val (.d (.bool b))) g) (Qf (.val (.d (.bool false))) g)=Qf (.val (.d (.bool (a&&b)))) g:=by cases a<;>rfl
theorem brO{a b:Bool}{g:Glob}{Qf:OGP}:Br a (Qf (.val (.d (.bool true))) g) (Qf (.val (.d (.bool b))) g)=Qf (.val (.d (.bool (a||b)))) g:=by cases a<;>rfl
theorem qca{a b:Bool}{g:Glob}{Qf:OGP}(h:Qf (.val (.d (.bool a))) g)(e:a=b):Qf (.val (.d (.bool b))) g:=e▸h
def smB(n:Int):Bool:=decide (97≤n)&&decide (n≤122)
def cpB(n:Int):Bool:=decide (65≤n)&&decide (n≤90)
def dgB(n:Int):Bool:=decide (48≤n)&&decide (n≤57)
def ptB(n:Int):Bool:=smB n||(cpB n||(dgB n||n==95))
def inI(n:Int):Bool:=decide (-1073741824≤n)&&decide (n≤1073741823)
def kL:List Str:=[[116,121,112,101],[102,117,110],[108,101,116],[114,101,99],[105,110],[99,97,115,101],[111,102],[101,110,100],[105,102],[116,104,101,110],[101,108,115,101],[112,114,105,110,116]]
def keB(s:Str):Bool:=kL.any (λk=>k==s)
def sin:List Str:=[[45,62],[61,61],[124],[61],[40],[41],[59],[43],[45],[42],[47],[37],[60],[95]]
def wB(low:Bool):Str→Bool
 |[]=>false
 |c::r=>decide (r.length<32)&&((bif low then smB c.toNat else cpB c.toNat)&&r.all λc=>ptB c.toNat)
def ww(s:Str):Bool:=wB true s&&!keB s
def wUp(s:Str):Bool:=wB false s
def wV(s:Str):Bool:=wB true s
section
variable{n:Int}{s:Str}{g:Glob}{Qf:OGP}
theorem rsm(hQ:Qf (.val (.d (.bool (smB n)))) g):EvF TT 137 [.int .u8 n] g Qf:=w137 (by rw[brA];exact hQ)
theorem rca(hQ:Qf (.val (.d (.bool (cpB n)))) g):EvF TT 138 [.int .u8 n] g Qf:=w138 (by rw[brA];exact hQ)
theorem rdi(hQ:Qf (.val (.d (.bool (dgB n)))) g):EvF TT 193 [.int .u8 n] g Qf:=w193 (by rw[brA];exact hQ)
theorem rpa(hQ:Qf (.val (.d (.bool (ptB n)))) g):EvF TT 139 [.int .u8 n] g Qf:=by
 refine w139 (rsm ⟨_,rfl,Bi.2 ⟨λq=>?_,λq=>rca ⟨_,rfl,Bi.2 ⟨λq'=>?_,λq'=>rdi ⟨_,rfl,?_⟩⟩⟩⟩⟩)
 ·exact qca hQ (by simp[ptB,q])
 ·exact qca hQ (by simp[ptB,q'])
 ·rw[brO];exact qca hQ (by simp[ptB,q,q'])
theorem lm(hQ:Qf (.val (.d (.bool (smB n)))) g):EvF TT 147 [.int .i32 n] g Qf:=w147 (by rw[brA];exact hQ)
theorem leg(hQ:Qf (.val (.d (.bool (cpB n)))) g):EvF TT 149 [.int .i32 n] g Qf:=w149 (by rw[brA];exact hQ)
theorem lei(hQ:Qf (.val (.d (.bool (dgB n)))) g):EvF TT 150 [.int .i32 n] g Qf:=w150 (by rw[brA];exact hQ)
theorem lee(hQ:Qf (.val (.d (.bool (ptB n)))) g):EvF TT 146 [.int .i32 n] g Qf:=by
 refine w146 (lm ⟨_,rfl,Bi.2 ⟨λq=>?_,λq=>leg ⟨_,rfl,Bi.2 ⟨λq'=>?_,λq'=>lei ⟨_,rfl,?_⟩⟩⟩⟩⟩)
 ·exact qca hQ (by simp[ptB,q])
 ·exact qca hQ (by simp[ptB,q'])
 ·rw[brO];exact qca hQ (by simp[ptB,q,q'])
theorem rIn(hQ:Qf (.val (.d (.bool (inI n)))) g):EvF TT 196 [.int .i64 n] g Qf:=w196 (by rw[brA];exact hQ)
theorem ik(hQ:Qf (.val (.d (.bool (inI n)))) g):EvF TT 202 [.int .i64 n] g Qf:=w202 (by
 rw[brA];refine qca hQ ?_;unfold inI;congr 1;exact decide_eq_decide.2 (by omega))
theorem byA{i:Nat}(h:i<s.length):byteAt s (i:Int)=((s[i].toNat:Nat):Int):=by
 simp[byteAt,List.getElem?_eq_getElem h]
theorem rWo(low:Bool)(hs:s.length≤2^40)(hQ:Qf (.val (.d (.bool (wB low s)))) g):EvF TT 83 [.str s,.bool low] g Qf:=by
 refine w83 hs ?_;cases s with
 |nil=>exact hQ
 |cons c r=>
  rw[List.length_cons] at hs;refine Bi.2 ⟨λq=>?_,λ_=>Bi.2 ⟨λq=>?_,λq=>?_⟩⟩
  ·have q:=of_decide_eq_true q;rw[List.length_cons] at q;omega
  ·have q:=of_decide_eq_true q;rw[List.length_cons] at q;exact qca hQ (by simp only[wB];rw[decide_eq_false (by omega),Bool.false_and])
  ·have q:=of_decide_eq_false q;rw[List.length_cons] at q;have hQ:Qf (.val (.d (.bool ((bif low then smB c.toNat else cpB c.toNat)&&r.all λc=>ptB c.toNat)))) g:=qca hQ (by simp only[wB];rw[decide_eq_true (by omega),Bool.true_and]);have rest:Qf (.val (.d (.bool (r.all λc=>ptB c.toNat)))) g→L83_4 (c::r) 1 g Qf:=by
    intro hQ;refine lU (len:=r.length) (λi=>Qf (.val (.d (.bool ((r.drop i).all λc=>ptB c.toNat)))) g→L83_4 (c::r) ((i+1:Nat):Int) g Qf) ?_ ?_ 0 (Nat.zero_le _) hQ
    ·intro hQ;refine w83_4 ?_;rw[List.length_cons,Bg];rw[List.drop_length] at hQ;exact hQ
    ·intro i hi ih hQ;refine w83_4 ?_;have hi':i+1<(c::r).length:=by rw[List.length_cons];omega
     rw[Bl hi',byA hi',List.getElem_cons_succ];rw[List.drop_eq_getElem_cons hi,List.all_cons] at hQ;refine⟨inB hi',rpa ⟨_,rfl,Bi.2 ⟨λq=>?_,λq=>?_⟩⟩⟩
     ·exact qca hQ (by simp at q;simp[q])
     ·rw[wra (by omega)];exact ih (qca hQ (by simp at q;simp[q]))
   have hb:InB 0 (c::r).length:=inB (i:=0) (by simp);have hb0:byteAt (c::r) 0=(c.toNat:Int):=rfl;rw[hb0];cases low with
   |true=>
    refine⟨hb,rsm ⟨_,rfl,Bi.2 ⟨λq=>?_,λq=>?_⟩⟩⟩
    ·exact qca hQ (by simp at q;simp[q])
    ·exact rest (qca hQ (by simp at q;simp[q]))
   |false=>
    refine⟨hb,rca ⟨_,rfl,Bi.2 ⟨λq=>?_,λq=>?_⟩⟩⟩
    ·exact qca hQ (by simp at q;simp[q])
    ·exact rest (qca hQ (by simp at q;simp[q]))
theorem ram{x:Dat}{l:List Str}(hx:Ha TT 82 x)(hl:(elO x).map strOf=l)(hs:s.length≤2^40)(hQ:Qf (.val (.d (.bool (l.any λk=>k==s)))) g):EvF TT 192 [.str s,x] g Qf:=by
 have ex:=hx.els uS;have exl:=lel uS hx;refine w192 hs hx ?_;subst hl;refine lU (len:=(elO x).length) (λi=>Qf (.val (.d (.bool ((((elO x).drop i).map strOf).any λk=>k==s)))) g→L192_2 s x (i:Int) g Qf) ?_ ?_ 0 (Nat.zero_le _) hQ
 ·intro hQ;refine w192_2 ?_;rw[Bg];rw[List.drop_length] at hQ;exact hQ
 ·intro i hi ih hQ;refine w192_2 ?_;rw[Bl hi,geE hi];obtain⟨t1,d1,_⟩:=srt (ex.2 _ (List.getElem_mem hi));rw[List.drop_eq_getElem_cons hi,List.map_cons,List.any_cons] at hQ;rw[d1] at hQ⊢;refine⟨inB hi,Bi.2 ⟨λq=>?_,λq=>?_⟩⟩
  all_goals simp[fld,strOf] at q
  ·exact qca hQ (by simp[strOf,q])
  ·rw[wra (by omega)];exact ih (qca hQ (by simp[strOf,q]))
theorem tss{l:List Str}(hl:l.length≤2^30)(h:∀s∈l,s.length≤2^40)(hne:l≠[]):Ha TT 82 (.sl 1 (l.map .str)):=by
 have h1:=slt (t:=82) (xs:=l.map .str) uS (by kernel_rfl:TT.size 9=some 1) ⟨by simp;omega,λb hb=>by
  have:b=16:=by
   have e:TT.bytes 9=some 16:=by kernel_rfl
   rw[e] at hb;exact(Option.some.inj hb).symm
  subst this;simp only[List.length_map];omega⟩ (λx hx=>by
   obtain⟨s,hs,rfl⟩:=List.mem_map.1 hx;exact tsr (h s hs))
 cases l with
 |nil=>exact absurd rfl hne
 |cons a l=>exact h1
theorem rKe(hs:s.length≤2^40)(hQ:Qf (.val (.d (.bool (keB s)))) g):EvF TT 136 [.str s] g Qf:=by
 refine w136 hs ?_;refine ram (l:=kL) (tss (l:=kL) (by decide) (by decide) (by decide)) rfl hs ⟨_,rfl,hQ⟩
theorem rW(hs:s.length≤2^40)(hQ:Qf (.val (.d (.bool (ww s)))) g):EvF TT 82 [.str s] g Qf:=by
 refine w82 hs (rWo true hs ⟨_,rfl,Bi.2 ⟨λq=>rKe hs ⟨_,rfl,?_⟩,λq=>?_⟩⟩)
 ·exact qca hQ (by simp[ww,q])
 ·exact qca hQ (by simp[ww,q])
theorem rup(hs:s.length≤2^40)(hQ:Qf (.val (.d (.bool (wUp s)))) g):EvF TT 84 [.str s] g Qf:=
 w84 hs (rWo false hs ⟨_,rfl,hQ⟩)
theorem lek(hs:s.length≤2^40)(hQ:Qf (.val (.d (.bool (keB s)))) g):EvF TT 199 [.str s] g Qf:=by
 refine w199 hs ?_
 repeat' (first|refine Bi.2 ⟨λq=>?_,λq=>?_⟩)
 all_goals (refine qca hQ ?_)
 all_goals simp only[beq_iff_eq,beq_eq_false_iff_ne,ne_eq] at*
 all_goals simp_all[keB,kL]
 all_goals (simp only[eq_comm] at*;simp_all)
end
end Go.Proofs.YtiheejdkkjfenaaGreatDoor.Pa
namespace Go.Proofs.YtiheejdkkjfenaaGreatDoor.Pa
open Go Go.Proofs.YtiheejdkkjfenaaGreatDoor.Am
theorem gea{s:Str}{i:Nat}(h:i<s.length):((⟨s.toArray⟩:ByteArray).get! i)=s[i]:=by
 show(s.toArray)[i]! =s[i];rw[getElem!_pos s.toArray i (by simpa using h)];simp
theorem ruw{s:Str}{i:Nat}(h:i<s.length)(hc:s[i].toNat<128):rue s i=(s[i].toNat:Int)∧runeLen s i=1:=by
 have e:Utf8.decode ⟨s.toArray⟩ i=(s[i].toNat,1):=by
  unfold Utf8.decode;simp only[Nat.add_zero,gea h];rw[if_pos (show s[i].toNat<0x80 from hc)]
 simp[rue,runeLen,e]
theorem ruh{s:Str}{i:Nat}(h:i<s.length)(hc:¬s[i].toNat<128):(128:Int)≤rue s i:=by
 have e:128≤(Utf8.decode ⟨s.toArray⟩ i).1:=by
  unfold Utf8.decode;simp only[Nat.add_zero,gea h];rw[if_neg (show ¬s[i].toNat<0x80 from hc)];have hr:128≤Utf8.runeError:=by decide
  split
  ·split
   ·rename_i hh;exact hh
   ·exact hr
  ·split
   ·split
    ·rename_i hh;simp only[Bool.and_eq_true,decide_eq_true_eq] at hh;exact Nat.le_trans (by decide) hh.1
    ·exact hr
   ·split
    ·split
     ·rename_i hh;simp only[Bool.and_eq_true,decide_eq_true_eq] at hh;exact Nat.le_trans (by decide) hh.1
     ·exact hr
    ·exact hr
 show(128:Int)≤((Utf8.decode ⟨s.toArray⟩ i).1:Int)
 exact_mod_cast e
def runN(p:Int→Bool)(s:Str):Nat:=(s.takeWhile λc=>p c.toNat).length
theorem rul(p:Int→Bool)(s:Str):runN p s≤s.length:=by
 unfold runN;exact(List.takeWhile_sublist _).length_le
theorem rud(p:Int→Bool){s:Str}{i:Nat}(h:i<s.length):runN p (s.drop i)=bif p s[i].toNat then 1+runN p (s.drop (i+1)) else 0:=by
 unfold runN;rw[List.drop_eq_getElem_cons h,List.takeWhile_cons];cases p s[i].toNat
 ·rfl
 ·simp only[if_true,List.length_cons,cond_true];omega
section
variable{n:Int}{s:Str}{g:Glob}{Qf:OGP}
theorem leu(p:Int→Bool)(f:FuncId)(hf:∀(n:Int) (Qf:OGP),Qf (.val (.d (.bool (p n)))) g→EvF TT f [.int .i32 n] g Qf)(hp:∀n:Int,128≤n→p n=false)
 (hs:s.length≤2^40) (hQ:Qf (.val (.d (.int .i64 (runN p s:Nat)))) g):EvF TT 145 [.str s,.clo f []] g Qf:=by
 refine w145 hs ?_;refine lU (len:=s.length) (λi=>Qf (.val (.d (.int .i64 ((i+runN p (s.drop i):Nat))))) g→L145_2 s f [] s i g Qf) ?_ ?_ 0 (Nat.zero_le _) (by simpa using hQ)
 ·intro hQ;refine w145_2 ?_;rw[show decide (s.length<s.length)=false by simp,Bf];rw[List.drop_length] at hQ
  simpa[runN] using hQ
 ·intro i hi ih hQ;refine w145_2 ?_;rw[show decide (i<s.length)=true by simpa using hi,Be];rw[rud p hi] at hQ
  by_cases hc:s[i].toNat<128
  ·obtain⟨e1,e2⟩:=ruw hi hc;rw[e1,e2];refine hf _ _ ⟨_,rfl,Bi.2 ⟨λq=>?_,λq=>?_⟩⟩
   ·have q:p s[i].toNat=false:=by simpa using q
    rw[q] at hQ;exact hQ
   ·have q:p s[i].toNat=true:=by simpa using q
    rw[q] at hQ;refine ih ?_;rw[show i+1+runN p (s.drop (i+1))=i+(1+runN p (s.drop (i+1))) by omega];exact hQ
  ·have q:=hp _ (ruh hi hc);have q':p s[i].toNat=false:=hp _ (by omega);refine hf _ _ ⟨_,rfl,?_⟩;rw[q];rw[q'] at hQ;exact hQ
theorem pth(n:Int)(h:128≤n):ptB n=false:=by
 simp only[ptB,smB,cpB,dgB];rw[decide_eq_false (show ¬n≤122 by omega),decide_eq_false (show ¬n≤90 by omega),decide_eq_false (show ¬n≤57 by omega),show(n==95)=false from by simpa using(by omega:¬n=95)];simp
theorem dh(n:Int)(h:128≤n):dgB n=false:=by
 simp only[dgB];rw[decide_eq_false (show ¬n≤57 by omega)];simp
theorem lI(hs:s.length≤2^40)(hQ:Qf (.val (.d (.int .i64 (runN ptB s:Nat)))) g):EvF TT 145 [.str s,.clo 146 []] g Qf:=
 leu ptB _ (λn Qf h=>lee h) pth hs hQ
theorem ler(hs:s.length≤2^40)(hQ:Qf (.val (.d (.int .i64 (runN dgB s:Nat)))) g):EvF TT 145 [.str s,.clo 150 []] g Qf:=
 leu dgB _ (λn Qf h=>lei h) dh hs hQ
abbrev Tk:=Int×Str×Int
def tkD(t:Tk)(at':Int):Dat:=.agg [.int .i64 t.1,.str t.2.1,.int .i64 t.2.2,.int .i64 at']
def tkE(t:Tk)(e:Int):Out:=.val (.tuple [.d (tkD t 0),.d (.int .i64 e)])
def tN(t:Tk)(n e:Int):Out:=.val (.tuple [.d (tkD t 0),.d (.int .i64 n),.d (.int .i64 e)])
theorem tyk{t:Tk}{p:Int}(h:t.2.1.length≤2^40):Ha TT 150 (tkD t p):=
 stu (tys:=[3,9,3,3]) (by kernel_rfl) (by kernel_rfl) (by kernel_rfl) ⟨tyi,tsr h,tyi,tyi,trivial⟩
def wF(k:Int)(s:Str):Tk×Int:=if 32<s.length then((0,[],0),2) else((if k==1&&keB s then 5 else k,s,0),0)
theorem lw{k:Int}(hs:s.length≤2^40)(hQ:Qf (tkE (wF k s).1 (wF k s).2) g):EvF TT 148 [.int .i64 k,.str s] g Qf:=by
 refine w148 hs ?_;unfold wF at hQ;refine Bi.2 ⟨λq=>?_,λq=>?_⟩
 ·rw[if_pos (by have:=of_decide_eq_true q;omega)] at hQ;exact hQ
 ·rw[if_neg (by have:=of_decide_eq_false q;omega)] at hQ;refine Bi.2 ⟨λq=>lek hs ⟨_,rfl,Bi.2 ⟨λq'=>?_,λq'=>?_⟩⟩,λq=>?_⟩
  ·rw[q,q'] at hQ;exact hQ
  ·rw[q,q'] at hQ;exact hQ
  ·rw[q] at hQ;exact hQ
def nuF(s:Str):Tk×Int:=
 match nuT s with
 |some n=>((4,[],n),0)
 |none=>((0,[],0),110)
theorem nuo(s:Str):nuO (nuT s)=tkE (nuF s).1 (nuF s).2:=by
 unfold nuF;cases nuT s<;>rfl
theorem lem(hs:s.length≤2^40)(hQ:Qf (tkE (nuF s).1 (nuF s).2) g):EvF TT 151 [.str s] g Qf:=
 nue s (by omega) g Qf (by rw[nuo];exact hQ)
def siF(s:Str):List Str→Option Str
 |[]=>none
 |x::l=>if x.isPrefixOf s then some x else siF s l
def tokF:Str→Tk×Nat×Int
 |[]=>((0,[],0),0,110)
 |c::r=>
  let n:=1+runN ptB r
  let m:=1+runN dgB r
  let s:=c::r
  if smB c.toNat then((wF 1 (s.take n)).1,n,(wF 1 (s.take n)).2)
  else if cpB c.toNat then((wF 2 (s.take n)).1,n,(wF 2 (s.take n)).2)
  else if c.toNat==39&&(decide (1<n)&&(match r with|d::_=>smB d.toNat|[]=>false)) then((wF 3 (r.take (runN ptB r))).1,n,(wF 3 (r.take (runN ptB r))).2)
  else if c.toNat==126||dgB c.toNat then((nuF (s.take m)).1,m,(nuF (s.take m)).2)
  else match siF s sin with
   |some x=>((6,x,0),x.length,0)
   |none=>((0,[],0),0,110)
theorem haP{p:Str}(hs:s.length≤2^40)(hp:p.length≤2^40)(hQ:Qf (.val (.d (.bool (p.isPrefixOf s)))) g):EvF TT 153 [.str s,.str p] g Qf:=by
 refine w153 hs hp (w203 hs hp ?_);refine Bi.2 ⟨λq=>?_,λq=>?_⟩
 ·have q:p.length≤s.length:=by have:=of_decide_eq_true q;omega
  refine⟨⟨by omega,by omega,by omega⟩,_,rfl,qca hQ ?_⟩;have e:su s 0 (p.length:Int)=s.take p.length:=by simp[su]
  rw[e,Bool.eq_iff_iff];rw[List.isPrefixOf_iff_prefix,List.prefix_iff_eq_take,beq_iff_eq];exact eq_comm
 ·have q:¬p.length≤s.length:=by have:=of_decide_eq_false q;omega
  refine⟨_,rfl,qca hQ ?_⟩;rw[←Bool.not_eq_true,List.isPrefixOf_iff_prefix];exact λh=>q h.length_le
theorem nta{pre:List Dat}{x:Dat}{l:List Dat}:nth (pre++x::l) pre.length=x:=by
 induction pre with
 |nil=>rfl
 |cons y pre ih=>exact ih
theorem siL{y:Dat}(hs:s.length≤2^40):∀(l pre:List Str),sin=pre++l→Qf (match siF s l with|some x=>tN (6,x,0) x.length 0|none=>tN (0,[],0) 0 110) g→L95_17 s (.sl 1 (sin.map .str)) 14 (pre.length:Int) y g Qf
 |[],pre,hl,hQ=>by
  have:pre.length=14:=by rw[List.append_nil] at hl;rw[←hl];rfl
  refine w95_17 ?_;rw[this];exact hQ
 |x::l,pre,hl,hQ=>by
  have hlen:pre.length+(l.length+1)=14:=by
   have:=congrArg List.length hl;rw[List.length_append,List.length_cons] at this;exact this.symm
  refine w95_17 ?_;have hx:x.length≤2^40:=by
   have:∀x∈sin,x.length≤2^40:=by decide
   exact this _ (by rw[hl];simp)
  have hg:gtE (elO (.sl 1 (sin.map .str))) (pre.length:Int)=.str x:=by
   simp only[elO,gtE,Int.toNat_natCast,hl,List.map_append,List.map_cons];have:=nta (pre:=pre.map Dat.str) (x:=.str x) (l:=l.map .str);rw[List.length_map] at this;exact this
  rw[show(14:Int)=((14:Nat):Int) from rfl,Bl (show pre.length<14 by omega),hg];refine⟨inB (show pre.length<14 by omega),haP hs hx ⟨_,rfl,?_⟩⟩;have hQ:Qf (match (if x.isPrefixOf s then some x else siF s l) with|some x=>tN (6,x,0) x.length 0|none=>tN (0,[],0) 0 110) g:=hQ;show Br (x.isPrefixOf s) _ _;cases hq:x.isPrefixOf s with
  |true=>
   rw[hq] at hQ;exact hQ
  |false=>
   rw[hq] at hQ;rw[Bf,wra (by omega)];have:=siL (y:=y) hs l (pre++[x]) (by rw[hl,List.append_assoc];rfl) hQ;rw[List.length_append] at this;exact this
theorem take_len{s:Str}{n:Nat}(hs:s.length≤2^40):(s.take n).length≤2^40:=by rw[List.length_take];omega
theorem wap{m:Nat}(h:m≤2^41):IntKind.i64.wrap (1+(m:Int))=((1+m:Nat):Int):=by
 rw[wrp (by omega) (by omega)];omega
theorem sut{s:Str}{n:Nat}:su s 0 ((n:Nat):Int)=s.take n:=by simp[su]
theorem wrap32(b:UInt8):IntKind.i32.wrap (b.toNat:Int)=(b.toNat:Int):=by
 have:=b.toNat_lt;show(if (true&&decide ((b.toNat:Int)%2^32≥(2^(32-1):Int)))=true then(b.toNat:Int)%2^32-2^32 else(b.toNat:Int)%2^32)=_;have e:(b.toNat:Int)%2^32=(b.toNat:Int):=by omega
 have e2:¬(b.toNat:Int)≥2^(32-1):=by omega
 simp only[e,e2,decide_false,Bool.and_false,Bool.false_eq_true,if_false]
theorem wor(k:Int)(hs:s.length≤2^40):(wF k s).1.2.1.length≤2^40:=by
 unfold wF;split<;>simp<;>omega
theorem leo(h1:s≠[])(hs:s.length≤2^40)(hQ:Qf (tN (tokF s).1 (tokF s).2.1 (tokF s).2.2) g):EvF TT 95 [.str s] g Qf:=by
 refine w95 hs ?_;cases s with
 |nil=>exact absurd rfl h1
 |cons c r=>
  have hr:r.length≤2^40:=by rw[List.length_cons] at hs;omega
  have hsub:su (c::r) 1 ((c::r).length:Int)=r:=by simp[su]
  have hin:InS 1 ((c::r).length:Int) (c::r).length:=⟨by omega,by rw[List.length_cons];omega,by omega⟩
  have hb0:IntKind.i32.wrap (byteAt (c::r) 0)=(c.toNat:Int):=wrap32 c;have hn:=rul ptB r;have hm:=rul dgB r;simp only[tokF] at hQ;rw[hb0,hsub];have hin0:∀m:Nat,m≤r.length→InS 0 ((1+m:Nat):Int) (c::r).length:=λm h=>⟨by omega,by omega,by rw[List.length_cons];omega⟩
  have sub1:∀m:Nat,su (c::r) 1 ((1+m:Nat):Int)=r.take m:=λm=>by
   simp only[su,Int.toNat_natCast,Nat.add_comm 1 m,List.take_succ_cons];rfl
  refine⟨inB (i:=0) (by simp),hin,lI hr ⟨_,rfl,?_⟩⟩;rw[wap (by omega)];refine lm ⟨_,rfl,Bi.2 ⟨λq1=>⟨hin0 _ hn,?_⟩,λq1=>leg ⟨_,rfl,Bi.2 ⟨λq2=>⟨hin0 _ hn,?_⟩,λq2=>Bi.2 ⟨λq3=>Bi.2 ⟨λq4=>⟨?_,lm ⟨_,rfl,Bi.2 ⟨λq5=>⟨?_,?_⟩,λq5=>?_⟩⟩⟩,λq4=>?_⟩,λq3=>?_⟩⟩⟩⟩⟩
  ·rw[sut];refine lw (take_len hs) ⟨_,tyk (wor _ (take_len hs)),_,⟨rfl,rfl,trivial⟩,?_⟩;rw[if_pos q1] at hQ;exact hQ
  ·rw[sut];refine lw (take_len hs) ⟨_,tyk (wor _ (take_len hs)),_,⟨rfl,rfl,trivial⟩,?_⟩;rw[if_neg (by simp[q1]),if_pos q2] at hQ;exact hQ
  ·have:=of_decide_eq_true q4;exact⟨by omega,by rw[List.length_cons];omega⟩
  ·have:=of_decide_eq_true q4;exact⟨by omega,by omega,by rw[List.length_cons];omega⟩
  ·rw[sub1];refine lw (take_len hr) ⟨_,tyk (wor _ (take_len hr)),_,⟨rfl,rfl,trivial⟩,?_⟩;have h4:=of_decide_eq_true q4;rw[if_neg (by simp[q1]),if_neg (by simp[q2]),if_pos (by
    have q3:c.toNat=39:=by have:=beq_iff_eq.1 q3;omega
    cases r with
    |nil=>simp[runN] at h4
    |cons d r'=>
     have q5:smB d.toNat=true:=by rw[←wrap32];exact q5
     simp[q3,q5];omega)] at hQ
   exact hQ
  all_goals
   have hQ:Qf (if (c.toNat==126||dgB c.toNat)=true then tN (nuF ((c::r).take (1+runN dgB r))).1 ((1+runN dgB r:Nat):Int) (nuF ((c::r).take (1+runN dgB r))).2 else match siF (c::r) sin with|some x=>tN (6,x,0) x.length 0|none=>tN (0,[],0) 0 110) g:=by
    rw[if_neg (by simp[q1]),if_neg (by simp[q2]),if_neg ?_] at hQ
    ·split at hQ
     ·rename_i h;rw[if_pos h];exact hQ
     ·rename_i h;rw[if_neg h];split at hQ
      ·exact hQ
      ·exact hQ
    ·intro h;simp only[Bool.and_eq_true,decide_eq_true_eq,beq_iff_eq] at h;obtain⟨h1,h2,h3⟩:=h
     first
      |(have:=beq_eq_false_iff_ne.1 q3;omega)
      |(have:=of_decide_eq_false q4;omega)
      |(cases r with
       |nil=>cases h3
       |cons d r'=>
        have q5:smB d.toNat=false:=by rw[←wrap32];exact q5
        exact absurd (show smB d.toNat=true from h3) (by rw[q5];exact Bool.false_ne_true))
   have num:Qf (tN (nuF ((c::r).take (1+runN dgB r))).1 ((1+runN dgB r:Nat):Int) (nuF ((c::r).take (1+runN dgB r))).2) g→∀v,v=Val.d (.int .i64 ((runN dgB r:Nat):Int))→∃n,v=Val.d (.int .i64 n)∧InS 0 (IntKind.i64.wrap (1+n)) (c::r).length∧EvF TT 151 [.str (su (c::r) 0 (IntKind.i64.wrap (1+n)))] g (KQ Qf λv g'=>∃x,Ha TT 150 x∧∃n_1,Ret v [x,.int .i64 n_1]∧Qf (Out.val (Val.tuple [Val.d (.agg [.int .i64 (intOf (fld x 0)),.str (strOf (fld x 1)),.int .i64 (intOf (fld x 2)),.int .i64 (intOf (fld x 3))]),Val.d (.int .i64 (IntKind.i64.wrap (1+n))),Val.d (.int .i64 n_1)])) g'):=by
    intro hQ v hv;refine⟨_,hv,?_⟩;rw[wap (by omega),sut];refine⟨hin0 _ hm,lem (take_len hs) ⟨_,tyk (by unfold nuF;split<;>simp),_,⟨rfl,rfl,trivial⟩,hQ⟩⟩
   refine Bi.2 ⟨λq=>⟨hin,ler hr (num ?_ _ rfl)⟩,λq=>lei ⟨_,rfl,Bi.2 ⟨λq'=>⟨hin,ler hr (num ?_ _ rfl)⟩,λq'=>?_⟩⟩⟩
   ·rw[if_pos (by have:=beq_iff_eq.1 q;simp;left;omega)] at hQ;exact hQ
   ·rw[if_pos (by simp[q'])] at hQ;exact hQ
   ·rw[if_neg (by have:=beq_eq_false_iff_ne.1 q;simp[q'];omega)] at hQ;refine w152 ⟨_,tss (l:=sin) (by decide) (by decide) (by decide),rfl,?_⟩;exact siL hs sin [] rfl hQ
end
end Go.Proofs.YtiheejdkkjfenaaGreatDoor.Pa
namespace Go.Proofs.YtiheejdkkjfenaaGreatDoor.Pa
open Go Go.Proofs.YtiheejdkkjfenaaGreatDoor.Am
theorem leO{a b:Nat}(h:a≤b):Nat.le a b:=h
def spl(k:Int)(s:Str):Str:=if k=3 then 39::s else s
def spe(k:Int)(s:Str):Bool:=
 let s':=spl k s
 if s'=[]∨33<s'.length then false
 else decide ((tokF s').2.2=0∧((tokF s').2.1=s'.length∧(tokF s').1=(k,s,0)))
section
variable{n:Int}{s:Str}{g:Glob}{Qf:OGP}
theorem sil{s:Str}:∀{l:List Str} {x:Str},(∀y∈l,y.length≤2^40)→siF s l=some x→x.length≤2^40
 |[],x,_,h=>by cases h
 |y::l,x,hl,h=>by
  unfold siF at h;split at h
  ·cases h;exact hl _ List.mem_cons_self
  ·exact sil (λz hz=>hl _ (List.mem_cons_of_mem _ hz)) h
theorem nul(s:Str):(nuF s).1.2.1.length≤2^40:=by unfold nuF;split<;>simp
theorem ton{s:Str}(hs:s.length≤2^40):(tokF s).1.2.1.length≤2^40:=by
 cases s with
 |nil=>simp[tokF]
 |cons c r=>
  simp only[tokF];have hr:r.length≤2^40:=by rw[List.length_cons] at hs;omega
  generalize (c.toNat==39&&_)=b3;split
  ·exact wor _ (take_len hs)
  ·split
   ·exact wor _ (take_len hs)
   ·split
    ·exact wor _ (take_len hr)
    ·split
     ·exact nul _
     ·split
      ·rename_i x hx;exact sil (l:=sin) (by decide) hx
      ·simp
theorem tkq{a b:Tk}:(a.1==b.1&&(a.2.1==b.2.1&&(a.2.2==b.2.2&&(((0:Int)==0)&&true))))=decide (a=b):=by
 rw[Bool.eq_iff_iff];obtain⟨a1,a2,a3⟩:=a;obtain⟨b1,b2,b3⟩:=b;simp
theorem lep{k:Int}(hk:k≠4)(hs:s.length≤2^40)(h3:k=3→s.length<2^40)(hQ:spe k s=true→Qf (.val (.tuple [.d (.str (spl k s)),.d (.bool true)])) g)(hQ':spe k s=false→∀t,t.length≤33→Qf (.val (.tuple [.d (.str t),.d (.bool false)])) g):EvF TT 232 [tkD (k,s,0) 0] g Qf:=by
 refine w232 (tyk (by show s.length≤_;omega)) ?_;have tail:∀s':Str,s'≠[]→s'.length≤33→spl k s=s'→EvF TT 95 [.str s'] g (KQ Qf λv g'=>∃x,Ha TT 150 x∧∃n n_1,Ret v [x,Dat.int IntKind.i64 n,Dat.int IntKind.i64 n_1]∧Br (n_1==0) (Br (n==(s'.length:Int)) (Qf (Out.val (Val.tuple [Val.d (Dat.str s'),Val.d (Dat.bool (intOf (fld x 0)==k&&(strOf (fld x 1)==s&&(intOf (fld x 2)==0&&(intOf (fld x 3)==0&&true)))))])) g') (Qf (Out.val (Val.tuple [Val.d (Dat.str s'),Val.d (Dat.bool false)])) g')) (Qf (Out.val (Val.tuple [Val.d (Dat.str s'),Val.d (Dat.bool false)])) g')):=by
  intro s' h1 h2 h3;have hB:spe k s=decide ((tokF s').2.2=0∧((tokF s').2.1=s'.length∧(tokF s').1=(k,s,0))):=by
   unfold spe;rw[h3];simp only[h1,false_or];rw[if_neg (by omega)]
  refine leo h1 (by omega) ⟨_,tyk (ton (by omega)),_,_,⟨rfl,rfl,rfl,trivial⟩,Bi.2 ⟨λq=>Bi.2 ⟨λq'=>?_,λq'=>?_⟩,λq=>?_⟩⟩
  ·have q:=beq_iff_eq.1 q;have q':(tokF s').2.1=s'.length:=by have:=beq_iff_eq.1 q';omega
   have e:(intOf (fld (tkD (tokF s').1 0) 0)==k&&(strOf (fld (tkD (tokF s').1 0) 1)==s&&(intOf (fld (tkD (tokF s').1 0) 2)==0&&(intOf (fld (tkD (tokF s').1 0) 3)==0&&true))))=spe k s:=by
    rw[hB];refine(tkq (a:=(tokF s').1) (b:=(k,s,0))).trans (decide_eq_decide.2 ?_);simp[q,q']
   rw[e];cases hb:spe k s with
   |true=>rw[←h3];exact hQ hb
   |false=>exact hQ' hb _ h2
  ·refine hQ' ?_ _ h2;rw[hB];refine decide_eq_false λh=>?_;have:=beq_eq_false_iff_ne.1 q';omega
  ·refine hQ' ?_ _ h2;rw[hB];refine decide_eq_false λh=>?_;have:=beq_eq_false_iff_ne.1 q;omega
 refine Bi.2 ⟨λq=>?_,λq=>Bi.2 ⟨λq'=>?_,λq'=>?_⟩⟩
 ·have q:k=3:=beq_iff_eq.1 q;have e:spl k s=39::s:=if_pos q;have h3:=h3 q;refine⟨leO (by show 1+s.length≤_;omega),Bi.2 ⟨λq'=>?_,λq'=>?_⟩⟩
  ·refine hQ' ?_ [] (by simp);unfold spe;rw[e];have q':=of_decide_eq_true q';have:33<(39::s).length:=by have q':(33:Int)<((39::s).length:Int):=q';omega
   simp only[this,or_true,if_true]
  ·have q':¬(33:Int)<((39::s).length:Int):=of_decide_eq_false q';exact tail (39::s) (by simp) (by omega) e
 ·exact absurd (beq_iff_eq.1 q') hk
 ·have e:spl k s=s:=if_neg (beq_eq_false_iff_ne.1 q);refine Bi.2 ⟨λq1=>?_,λq1=>Bi.2 ⟨λq2=>?_,λq2=>?_⟩⟩
  ·have q1:s=[]:=beq_iff_eq.1 q1;refine hQ' ?_ [] (by simp);unfold spe;rw[e,q1];rfl
  ·have q2:(33:Int)<(s.length:Int):=of_decide_eq_true q2;refine hQ' ?_ [] (by simp);unfold spe;rw[e];have:33<s.length:=by omega
   simp only[this,or_true,if_true]
  ·have q1:¬s=[]:=beq_eq_false_iff_ne.1 q1;have q2:¬(33:Int)<(s.length:Int):=of_decide_eq_false q2;exact tail s q1 (by omega) e
theorem ji{t sep:Str}(ht:t.length≤2^40)(hp:sep.length≤2^40)(hQ:Qf (.val (.d (.str t))) g):EvF TT 233 [.sl 1 [.str t],.str sep] g Qf:=by
 refine w233 (tss (l:=[t]) (by simp) (λs hs=>by simp at hs;subst hs;exact ht) (by simp)) hp ?_;exact⟨inB (i:=0) (by simp[elO]),hQ⟩
theorem ftS{n:Nat}(h:n≤2^30):Fits n 16:=⟨by omega,by omega⟩
theorem pas{k:Int}(hk:k≠4)(hs:s.length≤2^40)(h3:k=3→s.length<2^40)(hQ:Qf (.val (.d (.bool (spe k s)))) g):EvF TT 176 [.int .i64 k,.str s] g Qf:=by
 refine w176 (by omega) ?_;have hty:Ha TT 105 (.sl 4 [tkD (k,s,0) 0]):=slt (xs:=[tkD (k,s,0) 0]) (by kernel_rfl) (by kernel_rfl:TT.size 150=some 4) ⟨by simp,λb hb=>by
  have e:TT.bytes 150=some 40:=by kernel_rfl
  rw[e] at hb;cases hb;simp⟩ (λx hx=>by simp at hx;subst hx;exact tyk (by show s.length≤_;omega))
 refine w212 hty (w212_5 ?_);refine⟨inB (i:=0) (by simp[elO]),lep hk hs h3 (λhb=>?_) (λhb t ht=>?_)⟩
 ·have hl:(spl k s).length≤33:=by
   unfold spe at hb;simp only at hb;split at hb
   ·cases hb
   ·omega
  refine⟨_,leO (by omega),_,⟨rfl,rfl,trivial⟩,ftS (by simp),w212_5 ?_⟩;refine ji (by omega) (by simp) ⟨_,leO (by omega),rfl,Bi.2 ⟨λq=>?_,λq=>?_⟩⟩
  ·have q:=of_decide_eq_true q;omega
  ·refine⟨_,leO (by omega),_,⟨rfl,rfl,trivial⟩,?_⟩;rw[hb] at hQ;exact hQ
 ·refine⟨_,leO (by omega),_,⟨rfl,rfl,trivial⟩,?_⟩;refine⟨[],leO (by simp),_,⟨rfl,rfl,trivial⟩,?_⟩;rw[hb] at hQ;exact hQ
end
end Go.Proofs.YtiheejdkkjfenaaGreatDoor.Pa
