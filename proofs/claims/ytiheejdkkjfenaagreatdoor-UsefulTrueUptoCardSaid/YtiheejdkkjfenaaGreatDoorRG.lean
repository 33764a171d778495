/- What functions of the program do, printed by wip/tools/sx/sx.py. Words: letters, keywords, what the two packages say of them. Tokens of the program's lexer: one token, its text. The program's question whether a text is a word of a kind. -/
import Derived.Test.YtiheejdkkjfenaaGreatDoorRF
set_option linter.all false
set_option autoImplicit false
set_option maxRecDepth 100000
namespace Go.Proofs.YtiheejdkkjfenaaGreatDoor.Pa
open Go Go.Proofs.YtiheejdkkjfenaaGreatDoor.Am
def lo137:List CutI:=[]
theorem w137{n0:Int}{g:Glob}{Qf:OGP}
 (h:Br (decide (97≤n0)) (Qf (.val (.d (.bool (decide (n0≤122))))) g) (Qf (.val (.d (.bool false))) g)):
 EvF TT 137 [.int .u8 n0] g Qf:=
 sx_fun (rk:=rk) (fn:=Tryz.f137) (loops:=lo137) (joins:=[]) (n:=100000) (args:=[(5,.int .u8 n0)]) rfl rfl rfl rfl ⟨tyInt rfl,trivial⟩ (by kernel_rfl) h
def lo138:List CutI:=[]
theorem w138{n0:Int}{g:Glob}{Qf:OGP}
 (h:Br (decide (65≤n0)) (Qf (.val (.d (.bool (decide (n0≤90))))) g) (Qf (.val (.d (.bool false))) g)):
 EvF TT 138 [.int .u8 n0] g Qf:=
 sx_fun (rk:=rk) (fn:=Tryz.f138) (loops:=lo138) (joins:=[]) (n:=100000) (args:=[(5,.int .u8 n0)]) rfl rfl rfl rfl ⟨tyInt rfl,trivial⟩ (by kernel_rfl) h
def lo193:List CutI:=[]
theorem w193{n0:Int}{g:Glob}{Qf:OGP}
 (h:Br (decide (48≤n0)) (Qf (.val (.d (.bool (decide (n0≤57))))) g) (Qf (.val (.d (.bool false))) g)):
 EvF TT 193 [.int .u8 n0] g Qf:=
 sx_fun (rk:=rk) (fn:=Tryz.f193) (loops:=lo193) (joins:=[]) (n:=100000) (args:=[(5,.int .u8 n0)]) rfl rfl rfl rfl ⟨tyInt rfl,trivial⟩ (by kernel_rfl) h
def lo139:List CutI:=[]
theorem w139{n0:Int}{g:Glob}{Qf:OGP}
 (h:EvF TT 137 [.int .u8 n0] g (KQ Qf λv g'=>∃b,v=.d (.bool b)∧Br b (Qf (.val (.d (.bool true))) g') (EvF TT 138 [.int .u8 n0] g' (KQ Qf λv g'=>∃b,v=.d (.bool b)∧Br b (Qf (.val (.d (.bool true))) g') (EvF TT 193 [.int .u8 n0] g' (KQ Qf λv g'=>∃b,v=.d (.bool b)∧Br b (Qf (.val (.d (.bool true))) g') (Qf (.val (.d (.bool (n0==95)))) g'))))))):
 EvF TT 139 [.int .u8 n0] g Qf:=
 sx_fun (rk:=rk) (fn:=Tryz.f139) (loops:=lo139) (joins:=[]) (n:=100000) (args:=[(5,.int .u8 n0)]) rfl rfl rfl rfl ⟨tyInt rfl,trivial⟩ (by kernel_rfl) h
def L192_2(s0:List UInt8)(x1:Dat)(n5:Int)(g:Glob)(Qf:OGP):Prop:=CutP TT Tryz.f192 [1,0,1,0] Qf (mkC TT 192 Tryz.f192 2 [(0,.v 9 (.str s0)),(1,.v 82 (x1)),(5,.v 3 (.int .i64 n5))] [] g)
def lo192:List CutI:=[⟨2,[(0,.keep),(1,.keep),(5,.keep)],[]⟩]
theorem w192{s0:List UInt8}{x1:Dat}{g:Glob}{Qf:OGP}(h0:s0.length≤2^40)(h1:HasTy TT 82 x1)
 (h:L192_2 s0 x1 0 g Qf):
 EvF TT 192 [.str s0,x1] g Qf:=
 sx_fun (rk:=rk) (fn:=Tryz.f192) (loops:=lo192) (joins:=[]) (n:=100000) (args:=[(9,.str s0),(82,x1)]) rfl rfl rfl rfl ⟨tyStr rfl h0,h1,trivial⟩ (by kernel_rfl) h
theorem w192_2{s0:List UInt8}{x1:Dat}{n5:Int}{g:Glob}{Qf:OGP}
 (h:Br (decide (n5<(↑(elsOf x1).length:Int))) (InB n5 (elsOf x1).length∧Br (strOf (fld (getE (elsOf x1) n5) 0)==s0) (Qf (.val (.d (.bool true))) g) (L192_2 s0 x1 (IntKind.i64.wrap (n5+1)) g Qf)) (Qf (.val (.d (.bool false))) g)):
 L192_2 s0 x1 n5 g Qf:=sx_cut (rk:=rk) (loops:=lo192) (joins:=[]) (n:=100000) (by kernel_rfl) h
def lo136:List CutI:=[]
theorem w136{s0:List UInt8}{g:Glob}{Qf:OGP}(h0:s0.length≤2^40)
 (h:EvF TT 192 [.str s0,.sl 1 [.str [116,121,112,101],.str [102,117,110],.str [108,101,116],.str [114,101,99],.str [105,110],.str [99,97,115,101],.str [111,102],.str [101,110,100],.str [105,102],.str [116,104,101,110],.str [101,108,115,101],.str [112,114,105,110,116]]] g (KQ Qf λv g'=>∃b,v=.d (.bool b)∧Qf (.val (.d (.bool b))) g')):
 EvF TT 136 [.str s0] g Qf:=
 sx_fun (rk:=rk) (fn:=Tryz.f136) (loops:=lo136) (joins:=[]) (n:=100000) (args:=[(9,.str s0)]) rfl rfl rfl rfl ⟨tyStr rfl h0,trivial⟩ (by kernel_rfl) h
def L83_4(s0:List UInt8)(n5:Int)(g:Glob)(Qf:OGP):Prop:=CutP TT Tryz.f83 [1,1,0,1,0] Qf (mkC TT 83 Tryz.f83 2 [(0,.v 9 (.str s0)),(5,.v 3 (.int .i64 n5))] [] g)
def lo83:List CutI:=[⟨4,[(0,.keep),(5,.keep)],[]⟩]
theorem w83{s0:List UInt8}{b1:Bool}{g:Glob}{Qf:OGP}(h0:s0.length≤2^40)
 (h:Br (decide ((↑s0.length:Int)<1)) (Qf (.val (.d (.bool false))) g) (Br (decide (32<(↑s0.length:Int))) (Qf (.val (.d (.bool false))) g) (Br b1 (InB 0 s0.length∧EvF TT 137 [.int .u8 (byteAt s0 0)] g (KQ Qf λv g'=>∃b,v=.d (.bool b)∧Br (!b) (Qf (.val (.d (.bool false))) g') (Br (!b1) (InB 0 s0.length∧EvF TT 138 [.int .u8 (byteAt s0 0)] g' (KQ Qf λv g'=>∃b,v=.d (.bool b)∧Br (!b) (Qf (.val (.d (.bool false))) g') (L83_4 s0 1 g' Qf))) (L83_4 s0 1 g' Qf)))) (Br (!b1) (InB 0 s0.length∧EvF TT 138 [.int .u8 (byteAt s0 0)] g (KQ Qf λv g'=>∃b,v=.d (.bool b)∧Br (!b) (Qf (.val (.d (.bool false))) g') (L83_4 s0 1 g' Qf))) (L83_4 s0 1 g Qf))))):
 EvF TT 83 [.str s0,.bool b1] g Qf:=
 sx_fun (rk:=rk) (fn:=Tryz.f83) (loops:=lo83) (joins:=[]) (n:=100000) (args:=[(9,.str s0),(4,.bool b1)]) rfl rfl rfl rfl ⟨tyStr rfl h0,tyBool rfl,trivial⟩ (by kernel_rfl) h
theorem w83_4{s0:List UInt8}{n5:Int}{g:Glob}{Qf:OGP}
 (h:Br (decide (n5<(↑s0.length:Int))) (InB n5 s0.length∧EvF TT 139 [.int .u8 (byteAt s0 n5)] g (KQ Qf λv g'=>∃b,v=.d (.bool b)∧Br (!b) (Qf (.val (.d (.bool false))) g') (L83_4 s0 (IntKind.i64.wrap (n5+1)) g' Qf))) (Qf (.val (.d (.bool true))) g)):
 L83_4 s0 n5 g Qf:=sx_cut (rk:=rk) (loops:=lo83) (joins:=[]) (n:=100000) (by kernel_rfl) h
def lo82:List CutI:=[]
theorem w82{s0:List UInt8}{g:Glob}{Qf:OGP}(h0:s0.length≤2^40)
 (h:EvF TT 83 [.str s0,.bool true] g (KQ Qf λv g'=>∃b,v=.d (.bool b)∧Br b (EvF TT 136 [.str s0] g' (KQ Qf λv g'=>∃b,v=.d (.bool b)∧Qf (.val (.d (.bool !b))) g')) (Qf (.val (.d (.bool false))) g'))):
 EvF TT 82 [.str s0] g Qf:=
 sx_fun (rk:=rk) (fn:=Tryz.f82) (loops:=lo82) (joins:=[]) (n:=100000) (args:=[(9,.str s0)]) rfl rfl rfl rfl ⟨tyStr rfl h0,trivial⟩ (by kernel_rfl) h
def lo84:List CutI:=[]
theorem w84{s0:List UInt8}{g:Glob}{Qf:OGP}(h0:s0.length≤2^40)
 (h:EvF TT 83 [.str s0,.bool false] g (KQ Qf λv g'=>∃b,v=.d (.bool b)∧Qf (.val (.d (.bool b))) g')):
 EvF TT 84 [.str s0] g Qf:=
 sx_fun (rk:=rk) (fn:=Tryz.f84) (loops:=lo84) (joins:=[]) (n:=100000) (args:=[(9,.str s0)]) rfl rfl rfl rfl ⟨tyStr rfl h0,trivial⟩ (by kernel_rfl) h
def lo196:List CutI:=[]
theorem w196{n0:Int}{g:Glob}{Qf:OGP}
 (h:Br (decide (-1073741824≤n0)) (Qf (.val (.d (.bool (decide (n0≤1073741823))))) g) (Qf (.val (.d (.bool false))) g)):
 EvF TT 196 [.int .i64 n0] g Qf:=
 sx_fun (rk:=rk) (fn:=Tryz.f196) (loops:=lo196) (joins:=[]) (n:=100000) (args:=[(3,.int .i64 n0)]) rfl rfl rfl rfl ⟨tyInt rfl,trivial⟩ (by kernel_rfl) h
def lo220:List CutI:=[]
theorem w220{g:Glob}{Qf:OGP}
 (h:Qf (.val (.uq 1 [.str [],.str [43],.str [45],.str [42],.str [47],.str [37],.str [60],.str [61,61]])) g):
 EvF TT 220 [] g Qf:=
 sx_fun (rk:=rk) (fn:=Tryz.f220) (loops:=lo220) (joins:=[]) (n:=100000) (args:=[]) rfl rfl rfl rfl trivial (by kernel_rfl) h
def L197_2(s0:List UInt8)(n3:Int)(g:Glob)(Qf:OGP):Prop:=CutP TT Tryz.f197 [1,0,1,0] Qf (mkC TT 197 Tryz.f197 1 [(0,.v 9 (.str s0)),(3,.v 3 (.int .i64 n3))] [] g)
def lo197:List CutI:=[⟨2,[(0,.keep),(3,.keep)],[]⟩]
theorem w197{s0:List UInt8}{g:Glob}{Qf:OGP}(h0:s0.length≤2^40)
 (h:L197_2 s0 1 g Qf):
 EvF TT 197 [.str s0] g Qf:=
 sx_fun (rk:=rk) (fn:=Tryz.f197) (loops:=lo197) (joins:=[]) (n:=100000) (args:=[(9,.str s0)]) rfl rfl rfl rfl ⟨tyStr rfl h0,trivial⟩ (by kernel_rfl) h
theorem w197_2{s0:List UInt8}{n3:Int}{g:Glob}{Qf:OGP}
 (h:EvF TT 220 [] g (KQ Qf λv g'=>∃x,HasTy TT 82 x∧RetV v x∧Br (decide (n3<(↑(elsOf x).length:Int))) (EvF TT 220 [] g' (KQ Qf λv g'=>∃x,HasTy TT 82 x∧RetV v x∧InB n3 (elsOf x).length∧Br (strOf (fld (getE (elsOf x) n3) 0)==s0) (Qf (.val (.d (.int .i64 n3))) g') (L197_2 s0 (IntKind.i64.wrap (n3+1)) g' Qf))) (Qf (.val (.d (.int .i64 0))) g'))):
 L197_2 s0 n3 g Qf:=sx_cut (rk:=rk) (loops:=lo197) (joins:=[]) (n:=100000) (by kernel_rfl) h
end Go.Proofs.YtiheejdkkjfenaaGreatDoor.Pa
namespace Go.Proofs.YtiheejdkkjfenaaGreatDoor.Pa
open Go Go.Proofs.YtiheejdkkjfenaaGreatDoor.Am
theorem brAnd{a b:Bool}{g:Glob}{Qf:OGP}:Br a (Qf (.val (.d (.bool b))) g) (Qf (.val (.d (.bool false))) g)=Qf (.val (.d (.bool (a&&b)))) g:=by cases a<;>rfl
theorem brOr{a b:Bool}{g:Glob}{Qf:OGP}:Br a (Qf (.val (.d (.bool true))) g) (Qf (.val (.d (.bool b))) g)=Qf (.val (.d (.bool (a||b)))) g:=by cases a<;>rfl
theorem qcast{a b:Bool}{g:Glob}{Qf:OGP}(h:Qf (.val (.d (.bool a))) g)(e:a=b):Qf (.val (.d (.bool b))) g:=e▸h
def smB(n:Int):Bool:=decide (97≤n)&&decide (n≤122)
def cpB(n:Int):Bool:=decide (65≤n)&&decide (n≤90)
def dgB(n:Int):Bool:=decide (48≤n)&&decide (n≤57)
def ptB(n:Int):Bool:=smB n||(cpB n||(dgB n||n==95))
def inI(n:Int):Bool:=decide (-1073741824≤n)&&decide (n≤1073741823)
def keyL:List Str:=[[116,121,112,101],[102,117,110],[108,101,116],[114,101,99],[105,110],[99,97,115,101],[111,102],[101,110,100],[105,102],[116,104,101,110],[101,108,115,101],[112,114,105,110,116]]
def keyB(s:Str):Bool:=keyL.any (λk=>k==s)
def wordB(low:Bool):Str→Bool
 |[]=>false
 |c::r=>decide (r.length<32)&&((bif low then smB c.toNat else cpB c.toNat)&&r.all λc=>ptB c.toNat)
def wLow(s:Str):Bool:=wordB true s&&!keyB s
def wUp(s:Str):Bool:=wordB false s
def wVar(s:Str):Bool:=wordB true s
section
variable{n:Int}{s:Str}{g:Glob}{Qf:OGP}
theorem r11small_ok(hQ:Qf (.val (.d (.bool (smB n)))) g):EvF TT 137 [.int .u8 n] g Qf:=w137 (by rw[brAnd];exact hQ)
theorem r11capital_ok(hQ:Qf (.val (.d (.bool (cpB n)))) g):EvF TT 138 [.int .u8 n] g Qf:=w138 (by rw[brAnd];exact hQ)
theorem r11digit_ok(hQ:Qf (.val (.d (.bool (dgB n)))) g):EvF TT 193 [.int .u8 n] g Qf:=w193 (by rw[brAnd];exact hQ)
theorem r11part_ok(hQ:Qf (.val (.d (.bool (ptB n)))) g):EvF TT 139 [.int .u8 n] g Qf:=by
 refine w139 (r11small_ok ⟨_,rfl,Br_iff.2 ⟨λq=>?_,λq=>r11capital_ok ⟨_,rfl,Br_iff.2 ⟨λq'=>?_,λq'=>r11digit_ok ⟨_,rfl,?_⟩⟩⟩⟩⟩)
 ·exact qcast hQ (by simp[ptB,q])
 ·exact qcast hQ (by simp[ptB,q'])
 ·rw[brOr]
  exact qcast hQ (by simp[ptB,q,q'])
theorem r10In_ok(hQ:Qf (.val (.d (.bool (inI n)))) g):EvF TT 196 [.int .i64 n] g Qf:=w196 (by rw[brAnd];exact hQ)
theorem byteAt_nat{i:Nat}(h:i<s.length):byteAt s (i:Int)=((s[i].toNat:Nat):Int):=by
 simp[byteAt,List.getElem?_eq_getElem h]
theorem r11Word_ok(low:Bool)(hs:s.length≤2^40)(hQ:Qf (.val (.d (.bool (wordB low s)))) g):EvF TT 83 [.str s,.bool low] g Qf:=by
 refine w83 hs ?_
 cases s with
 |nil=>exact hQ
 |cons c r=>
  rw[List.length_cons] at hs
  refine Br_iff.2 ⟨λq=>?_,λ_=>Br_iff.2 ⟨λq=>?_,λq=>?_⟩⟩
  ·have q:=of_decide_eq_true q
   rw[List.length_cons] at q
   omega
  ·have q:=of_decide_eq_true q
   rw[List.length_cons] at q
   exact qcast hQ (by simp only[wordB];rw[decide_eq_false (by omega),Bool.false_and])
  ·have q:=of_decide_eq_false q
   rw[List.length_cons] at q
   have hQ:Qf (.val (.d (.bool ((bif low then smB c.toNat else cpB c.toNat)&&r.all λc=>ptB c.toNat)))) g:=qcast hQ (by simp only[wordB];rw[decide_eq_true (by omega),Bool.true_and])
   have rest:Qf (.val (.d (.bool (r.all λc=>ptB c.toNat)))) g→L83_4 (c::r) 1 g Qf:=by
    intro hQ
    refine loopUp (len:=r.length) (λi=>Qf (.val (.d (.bool ((r.drop i).all λc=>ptB c.toNat)))) g→L83_4 (c::r) ((i+1:Nat):Int) g Qf) ?_ ?_ 0 (Nat.zero_le _) hQ
    ·intro hQ
     refine w83_4 ?_
     rw[List.length_cons,Br_ge]
     rw[List.drop_length] at hQ
     exact hQ
    ·intro i hi ih hQ
     refine w83_4 ?_
     have hi':i+1<(c::r).length:=by rw[List.length_cons];omega
     rw[Br_lt hi',byteAt_nat hi',List.getElem_cons_succ]
     rw[List.drop_eq_getElem_cons hi,List.all_cons] at hQ
     refine⟨inB hi',r11part_ok ⟨_,rfl,Br_iff.2 ⟨λq=>?_,λq=>?_⟩⟩⟩
     ·exact qcast hQ (by simp at q;simp[q])
     ·rw[wrap_nat (by omega)]
      exact ih (qcast hQ (by simp at q;simp[q]))
   have hb:InB 0 (c::r).length:=inB (i:=0) (by simp)
   have hb0:byteAt (c::r) 0=(c.toNat:Int):=rfl
   rw[hb0]
   cases low with
   |true=>
    refine⟨hb,r11small_ok ⟨_,rfl,Br_iff.2 ⟨λq=>?_,λq=>?_⟩⟩⟩
    ·exact qcast hQ (by simp at q;simp[q])
    ·exact rest (qcast hQ (by simp at q;simp[q]))
   |false=>
    refine⟨hb,r11capital_ok ⟨_,rfl,Br_iff.2 ⟨λq=>?_,λq=>?_⟩⟩⟩
    ·exact qcast hQ (by simp at q;simp[q])
    ·exact rest (qcast hQ (by simp at q;simp[q]))
theorem r11among_ok{x:Dat}{l:List Str}(hx:HasTy TT 82 x)(hl:(elsOf x).map strOf=l)(hs:s.length≤2^40)(hQ:Qf (.val (.d (.bool (l.any λk=>k==s)))) g):EvF TT 192 [.str s,x] g Qf:=by
 have ex:=hx.els undStrs
 have exl:=len_le undStrs hx
 refine w192 hs hx ?_
 subst hl
 refine loopUp (len:=(elsOf x).length) (λi=>Qf (.val (.d (.bool ((((elsOf x).drop i).map strOf).any λk=>k==s)))) g→L192_2 s x (i:Int) g Qf) ?_ ?_ 0 (Nat.zero_le _) hQ
 ·intro hQ
  refine w192_2 ?_
  rw[Br_ge]
  rw[List.drop_length] at hQ
  exact hQ
 ·intro i hi ih hQ
  refine w192_2 ?_
  rw[Br_lt hi,getE_nat hi]
  obtain⟨t1,d1,_⟩:=str_ty (ex.2 _ (List.getElem_mem hi))
  rw[List.drop_eq_getElem_cons hi,List.map_cons,List.any_cons] at hQ
  rw[d1] at hQ⊢
  refine⟨inB hi,Br_iff.2 ⟨λq=>?_,λq=>?_⟩⟩
  all_goals simp[fld,strOf] at q
  ·exact qcast hQ (by simp[strOf,q])
  ·rw[wrap_nat (by omega)]
   exact ih (qcast hQ (by simp[strOf,q]))
theorem ty_strs{l:List Str}(hl:l.length≤2^30)(h:∀s∈l,s.length≤2^40)(hne:l≠[]):HasTy TT 82 (.sl 1 (l.map .str)):=by
 have h1:=sl_ty (t:=82) (xs:=l.map .str) undStrs (by kernel_rfl:TT.size 9=some 1) ⟨by simp;omega,λb hb=>by
  have:b=16:=by
   have e:TT.bytes 9=some 16:=by kernel_rfl
   rw[e] at hb
   exact(Option.some.inj hb).symm
  subst this
  simp only[List.length_map]
  omega⟩ (λx hx=>by
   obtain⟨s,hs,rfl⟩:=List.mem_map.1 hx
   exact ty_str (h s hs))
 cases l with
 |nil=>exact absurd rfl hne
 |cons a l=>exact h1
theorem r11Key_ok(hs:s.length≤2^40)(hQ:Qf (.val (.d (.bool (keyB s)))) g):EvF TT 136 [.str s] g Qf:=by
 refine w136 hs ?_
 refine r11among_ok (l:=keyL) (ty_strs (l:=keyL) (by decide) (by decide) (by decide)) rfl hs ⟨_,rfl,hQ⟩
theorem r12lowWord_ok(hs:s.length≤2^40)(hQ:Qf (.val (.d (.bool (wLow s)))) g):EvF TT 82 [.str s] g Qf:=by
 refine w82 hs (r11Word_ok true hs ⟨_,rfl,Br_iff.2 ⟨λq=>r11Key_ok hs ⟨_,rfl,?_⟩,λq=>?_⟩⟩)
 ·exact qcast hQ (by simp[wLow,q])
 ·exact qcast hQ (by simp[wLow,q])
theorem r12upWord_ok(hs:s.length≤2^40)(hQ:Qf (.val (.d (.bool (wUp s)))) g):EvF TT 84 [.str s] g Qf:=
 w84 hs (r11Word_ok false hs ⟨_,rfl,hQ⟩)
end
end Go.Proofs.YtiheejdkkjfenaaGreatDoor.Pa
namespace Go.Proofs.YtiheejdkkjfenaaGreatDoor.Pa
open Go Go.Proofs.YtiheejdkkjfenaaGreatDoor.Am
section
variable{n:Int}{s:Str}{g:Glob}{Qf:OGP}
theorem nth_app{pre:List Dat}{x:Dat}{l:List Dat}:nth (pre++x::l) pre.length=x:=by
 induction pre with
 |nil=>rfl
 |cons y pre ih=>exact ih
end
end Go.Proofs.YtiheejdkkjfenaaGreatDoor.Pa
namespace Go.Proofs.YtiheejdkkjfenaaGreatDoor.Pa
open Go Go.Proofs.YtiheejdkkjfenaaGreatDoor.Am
section
variable{n:Int}{s:Str}{g:Glob}{Qf:OGP}
end
end Go.Proofs.YtiheejdkkjfenaaGreatDoor.Pa
