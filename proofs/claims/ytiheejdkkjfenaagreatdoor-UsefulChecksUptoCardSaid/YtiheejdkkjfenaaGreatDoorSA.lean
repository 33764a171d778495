/- What functions of the program do, printed by wip/tools/sx/sx.py. All types that there are, and where a constructor is: the law ScopeFinds answers true. -/
import Derived.Test.YtiheejdkkjfenaaGreatDoorRI
set_option linter.all false
set_option autoImplicit false
set_option maxRecDepth 100000
namespace Go.Proofs.YtiheejdkkjfenaaGreatDoor.Pa
open Go Go.Proofs.YtiheejdkkjfenaaGreatDoor.Am
variable{x0 x11 x19 x25 x6 y1 y2:Dat}{g:Glob}{Qf:OGP}{l3:List Dat}{n12 n13 n20 n21 n26 n27 n7 n8:Int}{s1:List UInt8}
def L118_3(l3:List Dat)(x6:Dat)(n7 n8:Int)(g:Glob)(Qf:OGP):=LC 118 Tryz.f118 [1,1,0,1,0] Qf 1 [(3,.acc [(19,0)] 59 4 l3),(6,.v 59 (x6)),(7,iv n7),(8,iv n8)] [] g
def lo118:List CuI:=[⟨3,[(3,.acc [19]),K 6,K 7,K 8],[]⟩]
theorem w118(h0:Ha TT 59 x0)
 (h:L118_3 [] x0 ((elO x0).length:Int) 0 g Qf):
 EvF TT 118 [x0] g Qf:=
 sF Tryz.f118 lo118 [(59,x0)] ⟨h0,trivial⟩ h
theorem w118_3
 (h:Br (decide (n8<n7)) (InB n8 (elO x6).length∧EvF TT 118 [fld (gtE (elO x6) n8) 3] g (KQ Qf λv g'=>∃x,Ha TT 59 x∧Rt v x∧Fits (l3.length+[Dat.agg [.int .i64 (intOf (fld (gtE (elO x6) n8) 0)),.str (strOf (fld (gtE (elO x6) n8) 1)),.int .i64 (intOf (fld (gtE (elO x6) n8) 2)),x]].length) 56∧L118_3 (l3++[Dat.agg [.int .i64 (intOf (fld (gtE (elO x6) n8) 0)),.str (strOf (fld (gtE (elO x6) n8) 1)),.int .i64 (intOf (fld (gtE (elO x6) n8) 2)),x]]) x6 n7 (IntKind.i64.wrap (n8+1)) g' Qf)) (Qf (.val (rf 4 l3)) g)):
 L118_3 l3 x6 n7 n8 g Qf:=sC lo118 h
def L67_4(l3:List Dat)(x11:Dat)(n12 n13:Int)(y2 y1:Dat)(g:Glob)(Qf:OGP):=LC 67 Tryz.f67 [1,1,1,0,1,0] Qf 1 [(1,.loc 1 0 0),(2,.loc 2 0 0),(3,.acc [(25,0)] 81 2 l3),(11,.v 81 (x11)),(12,iv n12),(13,iv n13)] [(2,.whole 84 y2),(1,.whole 84 y1)] g
def lo67:List CuI:=[⟨4,[K 1,K 2,(3,.acc [25]),(11,.read),K 12,K 13],[(2,.whole 84),(1,.whole 84)]⟩]
theorem w67(h0:Ha TT 84 x0)
 (h:EvF TT 117 [fld x0 1] g (KQ Qf λv g'=>∃x,Ha TT 82 x∧Rt v x∧L67_4 [] (fld x0 2) ((elO (fld x0 2)).length:Int) 0 (.agg [.str [],.nil,.nil,.int .i64 0]) (.agg [.str (strOf (fld x0 0)),x,fld x0 2,.int .i64 (intOf (fld x0 3))]) g' Qf)):
 EvF TT 67 [x0] g Qf:=
 sF Tryz.f67 lo67 [(84,x0)] ⟨h0,trivial⟩ h
theorem w67_4
 (h:Br (decide (n13<n12)) (InB n13 (elO x11).length∧EvF TT 118 [fld (gtE (elO x11) n13) 1] g (KQ Qf λv g'=>∃x,Ha TT 59 x∧Rt v x∧Fits (l3.length+[Dat.agg [.str (strOf (fld (gtE (elO x11) n13) 0)),x]].length) 40∧L67_4 (l3++[Dat.agg [.str (strOf (fld (gtE (elO x11) n13) 0)),x]]) x11 n12 (IntKind.i64.wrap (n13+1)) y2 y1 g' Qf)) (Qf (.val (.d (.agg [.str (strOf (.str (strOf (fld y1 0)))),fld (.agg [.str (strOf (fld y1 0)),fld y1 1,sOf 2 l3,.int .i64 (intOf (fld y1 3))]) 1,fld (.agg [.str (strOf (fld y1 0)),fld y1 1,sOf 2 l3,.int .i64 (intOf (fld y1 3))]) 2,.int .i64 (intOf (.int .i64 (intOf (fld y1 3))))]))) g)):
 L67_4 l3 x11 n12 n13 y2 y1 g Qf:=sC lo67 h
def L37_3(l3:List Dat)(x25:Dat)(n26 n27:Int)(g:Glob)(Qf:OGP):=LC 37 Tryz.f37 [1,1,0,1,0] Qf 1 [(3,.own 23 0 22 4 l3),(25,.v 22 (x25)),(26,iv n26),(27,iv n27)] [] g
def lo37:List CuI:=[⟨3,[K 3,K 25,K 26,K 27],[]⟩]
theorem w37(h0:Ha TT 28 x0)
 (h:L37_3 [.agg [.str [117,110,105,116],.nil,.sl 2 [.agg [.str [85,110,105,116],.nil]],.int .i64 0],.agg [.str [98,111,111,108],.nil,.sl 2 [.agg [.str [70,97,108,115,101],.nil],.agg [.str [84,114,117,101],.nil]],.int .i64 0],.agg [.str [108,105,115,116],.sl 1 [.str [97]],.sl 2 [.agg [.str [78,105,108],.nil],.agg [.str [67,111,110,115],.sl 4 [.agg [.int .i64 2,.str [97],.int .i64 0,.nil],.agg [.int .i64 4,.str [108,105,115,116],.int .i64 0,.sl 4 [.agg [.int .i64 2,.str [97],.int .i64 0,.nil]]]]]],.int .i64 0]] (fld x0 0) ((elO (fld x0 0)).length:Int) 0 g Qf):
 EvF TT 37 [x0] g Qf:=
 sF Tryz.f37 lo37 [(28,x0)] ⟨h0,trivial⟩ h
theorem w37_3
 (h:Br (decide (n27<n26)) (InB n27 (elO x25).length∧EvF TT 67 [gtE (elO x25) n27] g (KQ Qf λv g'=>∃x,Ha TT 84 x∧v=.d x∧Fits (l3.length+[x].length) 72∧L37_3 (l3++[x]) x25 n26 (IntKind.i64.wrap (n27+1)) g' Qf)) (Qf (.val (.uq 4 l3)) g)):
 L37_3 l3 x25 n26 n27 g Qf:=sC lo37 h
theorem w15(h0:Ha TT 28 x0)
 (h:EvF TT 17 [fld x0 0] g (KQ Qf λv g'=>∃x,Ha TT 22 x∧Rt v x∧Fits (3+(elO x).length) 72∧Qf (.val (.uq 4 (.agg [.str [117,110,105,116],.nil,.sl 2 [.agg [.str [85,110,105,116],.nil]],.int .i64 0]::.agg [.str [98,111,111,108],.nil,.sl 2 [.agg [.str [70,97,108,115,101],.nil],.agg [.str [84,114,117,101],.nil]],.int .i64 0]::.agg [.str [108,105,115,116],.sl 1 [.str [97]],.sl 2 [.agg [.str [78,105,108],.nil],.agg [.str [67,111,110,115],.sl 4 [.agg [.int .i64 2,.str [97],.int .i64 0,.nil],.agg [.int .i64 4,.str [108,105,115,116],.int .i64 0,.sl 4 [.agg [.int .i64 2,.str [97],.int .i64 0,.nil]]]]]],.int .i64 0]::(elO x)))) g')):
 EvF TT 15 [x0] g Qf:=
 sF Tryz.f15 [] [(28,x0)] ⟨h0,trivial⟩ h
def L49_2(s1:List UInt8)(x11:Dat)(n12 n13:Int)(g:Glob)(Qf:OGP):=LC 49 Tryz.f49 [1,0,1,0] Qf 2 [(1,.v 9 (.str s1)),(11,.v 22 (x11)),(12,iv n12),(13,iv n13)] [] g
def L49_5(s1:List UInt8)(n7:Int)(x11:Dat)(n12 n13:Int)(x19:Dat)(n20 n21:Int)(g:Glob)(Qf:OGP):=LC 49 Tryz.f49 [1,0,1,0,0,1,1,0,0,1,1,0] Qf 2 [(1,.v 9 (.str s1)),(7,iv n7),(11,.v 22 (x11)),(12,iv n12),(13,iv n13),(19,.v 81 (x19)),(20,iv n20),(21,iv n21)] [] g
def lo49:List CuI:=[⟨2,[K 1,K 11,K 12,K 13],[]⟩,⟨5,[K 1,K 7,K 11,K 12,K 13,K 19,K 20,K 21],[]⟩]
theorem w49(h0:Ha TT 22 x0)(h1:s1.length≤2^40)
 (h:L49_2 s1 x0 ((elO x0).length:Int) 0 g Qf):
 EvF TT 49 [x0,.str s1] g Qf:=
 sF Tryz.f49 lo49 [(22,x0),(9,.str s1)] ⟨h0,tyt rfl h1,trivial⟩ h
theorem w49_2
 (h:Br (decide (n13<n12)) (InB n13 (elO x11).length∧L49_5 s1 n13 x11 n12 n13 (fld (gtE (elO x11) n13) 2) ((elO (fld (gtE (elO x11) n13) 2)).length:Int) 0 g Qf) (Qf (.val (.tuple [.d (.int .i64 0),.d (.int .i64 0),.d (.bool false)])) g)):
 L49_2 s1 x11 n12 n13 g Qf:=sC lo49 h
theorem w49_5
 (h:Br (decide (n21<n20)) (InB n21 (elO x19).length∧Br (strOf (fld (gtE (elO x19) n21) 0)==s1) (Qf (.val (.tuple [.d (.int .i64 n7),.d (.int .i64 n21),.d (.bool true)])) g) (L49_5 s1 n7 x11 n12 n13 x19 n20 (IntKind.i64.wrap (n21+1)) g Qf)) (L49_2 s1 x11 n12 (IntKind.i64.wrap (n13+1)) g Qf)):
 L49_5 s1 n7 x11 n12 n13 x19 n20 n21 g Qf:=sC lo49 h
def L50_2(x0:Dat)(s1:List UInt8)(n7:Int)(g:Glob)(Qf:OGP):=LC 50 Tryz.f50 [1,0,1,0] Qf 2 [(0,.v 22 (x0)),(1,.v 9 (.str s1)),(7,iv n7)] [] g
def L50_5(x0:Dat)(s1:List UInt8)(n7 n8:Int)(g:Glob)(Qf:OGP):=LC 50 Tryz.f50 [1,0,1,0,0,1,0,0,1,0] Qf 2 [(0,.v 22 (x0)),(1,.v 9 (.str s1)),(7,iv n7),(8,iv n8)] [] g
def lo50:List CuI:=[⟨2,[K 0,K 1,K 7],[]⟩,⟨5,[K 0,K 1,K 7,K 8],[]⟩]
theorem w50(h0:Ha TT 22 x0)(h1:s1.length≤2^40)
 (h:L50_2 x0 s1 0 g Qf):
 EvF TT 50 [x0,.str s1] g Qf:=
 sF Tryz.f50 lo50 [(22,x0),(9,.str s1)] ⟨h0,tyt rfl h1,trivial⟩ h
theorem w50_2
 (h:Br (decide (n7<((elO x0).length:Int))) (L50_5 x0 s1 n7 0 g Qf) (Qf (.val (.tuple [.d (.int .i64 0),.d (.int .i64 0),.d (.bool false)])) g)):
 L50_2 x0 s1 n7 g Qf:=sC lo50 h
theorem w50_5
 (h:InB n7 (elO x0).length∧Br (decide (n8<((elO (fld (gtE (elO x0) n7) 2)).length:Int))) (InB n7 (elO x0).length∧InB n8 (elO (fld (gtE (elO x0) n7) 2)).length∧Br (strOf (fld (gtE (elO (fld (gtE (elO x0) n7) 2)) n8) 0)==s1) (Qf (.val (.tuple [.d (.int .i64 n7),.d (.int .i64 n8),.d (.bool true)])) g) (L50_5 x0 s1 n7 (IntKind.i64.wrap (n8+1)) g Qf)) (L50_2 x0 s1 (IntKind.i64.wrap (n7+1)) g Qf)):
 L50_5 x0 s1 n7 n8 g Qf:=sC lo50 h
end Go.Proofs.YtiheejdkkjfenaaGreatDoor.Pa
namespace Go.Proofs.YtiheejdkkjfenaaGreatDoor.Pa
open Go Go.Proofs.YtiheejdkkjfenaaGreatDoor.Am
theorem twi:∀(k:Nat) (x:Dat) (g:Glob),SizeOf.sizeOf x<k→Ha TT 59 x→∀(Qf:OGP),(∀l:List Dat,(∀y∈l,Ha TT 61 y)→l.length=(elO x).length→l.map aT=(elO x).map aT→Qf (.val (rf 4 l)) g)→EvF TT 118 [x] g Qf
 |0,x,g,hk,_=>by omega
 |k+1,x,g,hk,hx=>by
  intro Qf hQ;have ex:=hx.els uT;have exl:=ex.1.1;refine w118 hx ?_;refine lU (len:=(elO x).length) (λi=>∀l:List Dat,l.length=i→(∀y∈l,Ha TT 61 y)→l.map aT=((elO x).take i).map aT→L118_3 l x ((elO x).length:Int) (i:Int) g Qf) ?_ ?_ 0 (Nat.zero_le _) [] rfl (λy h=>by cases h) rfl
  ·intro l h1 h2 h3;refine w118_3 ?_;rw[Bg];rw[List.take_length] at h3;exact hQ l h2 h1 h3
  ·intro i hi ih l h1 h2 h3;refine w118_3 ?_;rw[Bl hi,geE hi];have hsz:=siz hi;obtain⟨k1,s1,n1,a1,e1,hs1,t1⟩:=tpe (ex.2 _ (List.getElem_mem hi));have hab:aT (elO x)[i]=.mk k1 s1 n1 (abT a1):=by rw[e1];rfl
   rw[e1] at hsz⊢;have hc:=sO (cs:=[.int .i64 k1,.str s1,.int .i64 n1,a1]) (c:=a1) (by simp);refine⟨inB hi,twi k a1 g (by omega) t1 _ λl' hl' hn' ha'=>?_⟩;have ta:Ha TT 59 (sOf 4 l'):=slf uT szT (by rw[hn'];exact(t1.els uT).1) hl';refine⟨sOf 4 l',ta,rO _ _,(ex.1.le (by simp;omega)).fits byType,?_⟩;rw[wra (by omega)];refine ih _ (by simp[h1]) (λy hy=>?_) (take_snoc hi h3 ?_)
   ·rcases List.mem_append.1 hy with hy|hy
    ·exact h2 y hy
    ·simp only[List.mem_singleton] at hy;subst hy;exact tty hs1 ta
   ·rw[hab];show Ty.mk k1 s1 n1 (abT (sOf 4 l'))=_;rw[ay,slO,ha',←ay]
theorem alS:∀(l:List Dat),(∀y∈l,Ha TT 9 y)→aS l=true
 |[],_=>rfl
 |x::l,h=>by
  obtain⟨s,rfl,_⟩:=srt (h x (by simp));exact alS l λy hy=>h y (List.mem_cons_of_mem _ hy)
theorem elf(m:Nat)(xs:List Dat):elO (.sl m xs)=xs:=rfl
theorem cne(x:Dat)(g:Glob)(hx:Ha TT 82 x)(Qf:OGP)(hQ:Qf (.val (.d (.sl 1 (elO x)))) g):EvF TT 117 [x] g Qf:=by
 refine clr (r:=.val (.d (.sl 1 (elO x)))) g ?_ Qf hQ;have ex:=hx.els uS;cases x with
 |nil=>rfl
 |gsl t m xs=>
  have h1:aS xs=true:=alS xs ex.2;have h2:xs.length≤2^40:=ex.1.1;have h3:m=1:=by
   cases hx with
   |gsl _ e _ _ _ h hm _ _=>
    rw[uS] at h;cases h;rw[szS] at hm;cases hm;rfl
  subst h3;show(bif Nat.beq 1 1&&aS xs&&Nat.ble xs.length 8796093022208 then some (Out.val (.d (.sl 1 xs)),g) else none)=_;rw[h1,Nat.ble_eq_true_of_le (by omega)];rfl
 |sl m xs=>
  have h1:aS xs=true:=alS xs ex.2;have h2:xs.length≤2^40:=ex.1.1;have h3:m=1:=by
   cases hx with
   |sl _ e _ _ h hm _ _=>
    rw[uS] at h;cases h;rw[szS] at hm;cases hm;rfl
  subst h3;show(bif Nat.beq 1 1&&aS xs&&Nat.ble xs.length 8796093022208 then some (Out.val (.d (.sl 1 xs)),g) else none)=_;rw[h1,Nat.ble_eq_true_of_le (by omega)];rfl
 |_=>exact absurd hx (by intro h;cases h<;>simp_all[uS,iA0,iI,iP,isM,isF,isI,isAgg?,isB,isP,z0])
theorem twn(x:Dat)(g:Glob)(hx:Ha TT 84 x)(Qf:OGP)(hQ:∀r,Ha TT 84 r→abD r=abD x→Qf (.val (.d r)) g):EvF TT 67 [x] g Qf:=by
 refine w67 hx ?_;obtain⟨s2,a2,b2,p2,rfl,hs2,ha2,hb2⟩:=det hx;have ea:=ha2.els uS;have eb:=hb2.els uC;have ebl:=eb.1.1;simp only[fld,nth,strOf,intOf];have hcl:Ha TT 82 (.sl 1 (elO a2)):=.sl _ _ _ _ uS szS ea.1 ea.2;refine cne a2 g ha2 _ ⟨_,hcl,rfl,?_⟩;refine lU (len:=(elO b2).length) (λi=>∀l:List Dat,l.length=i→(∀y∈l,Ha TT 80 y)→l.map aC=((elO b2).take i).map aC→L67_4 l b2 ((elO b2).length:Int) (i:Int) (Dat.agg [Dat.str [],Dat.nil,Dat.nil,Dat.int IntKind.i64 0]) (.agg [.str s2,.sl 1 (elO a2),b2,.int .i64 p2]) g Qf) ?_ ?_ 0 (Nat.zero_le _) [] rfl (λy h=>by cases h) rfl
 ·intro l h1 h2 h3;refine w67_4 ?_;rw[Bg];rw[List.take_length] at h3;have tl:Ha TT 81 (sOf 2 l):=slf uC szC (by rw[h1];exact eb.1) h2;refine hQ (.agg [.str s2,.sl 1 (elO a2),sOf 2 l,.int .i64 p2]) (tyc hs2 hcl tl) ?_;rw[aba,aba,slO,elf,h3]
 ·intro i hi ih l h1 h2 h3;refine w67_4 ?_;rw[Bl hi,geE hi];obtain⟨s3,f1,e3,hs3,hf1⟩:=coy (eb.2 _ (List.getElem_mem hi));have hab:aC (elO b2)[i]=⟨s3,abT f1⟩:=by rw[e3];rfl
  rw[e3];refine⟨inB hi,twi _ f1 g (Nat.lt_succ_self _) hf1 _ λl' hl' hn' ha'=>?_⟩;have ta:Ha TT 59 (sOf 4 l'):=slf uT szT (by rw[hn'];exact(hf1.els uT).1) hl';refine⟨sOf 4 l',ta,rO _ _,(eb.1.le (by simp;omega)).fits byC,?_⟩;rw[wra (by omega)];refine ih _ (by simp[h1]) (λy hy=>?_) (take_snoc hi h3 ?_)
  ·rcases List.mem_append.1 hy with hy|hy
   ·exact h2 y hy
   ·simp only[List.mem_singleton] at hy;subst hy;exact tco hs3 ta
  ·rw[hab];show(⟨s3,abT (sOf 4 l')⟩:Cn)=_;rw[ay,slO,ha',←ay]
def bas:List Dat:=[Dat.agg [Dat.str [117,110,105,116],Dat.nil,Dat.sl 2 [Dat.agg [Dat.str [85,110,105,116],Dat.nil]],Dat.int IntKind.i64 0],Dat.agg [Dat.str [98,111,111,108],Dat.nil,Dat.sl 2 [Dat.agg [Dat.str [70,97,108,115,101],Dat.nil],Dat.agg [Dat.str [84,114,117,101],Dat.nil]],Dat.int IntKind.i64 0],Dat.agg [Dat.str [108,105,115,116],Dat.sl 1 [Dat.str [97]],Dat.sl 2 [Dat.agg [Dat.str [78,105,108],Dat.nil],Dat.agg [Dat.str [67,111,110,115],Dat.sl 4 [Dat.agg [Dat.int IntKind.i64 2,Dat.str [97],Dat.int IntKind.i64 0,Dat.nil],Dat.agg [Dat.int IntKind.i64 4,Dat.str [108,105,115,116],Dat.int IntKind.i64 0,Dat.sl 4 [Dat.agg [Dat.int IntKind.i64 2,Dat.str [97],Dat.int IntKind.i64 0,Dat.nil]]]]]],Dat.int IntKind.i64 0]]
theorem fiO{e:TypeId}{b n:Nat}(he:TT.bytes e=some b)(hb:b≤200)(h:n≤2^30):Sl TT e n:=⟨by omega,λb' hb'=>by
 rw[he] at hb';cases hb';have:=Nat.mul_le_mul h hb;omega⟩
theorem baL:∀y∈bas,Ha TT 84 y:=by
 have nilS:Ha TT 82 .nil:=.nil _ (by rw[uS];rfl);have nilT:Ha TT 59 .nil:=.nil _ (by rw[uT];rfl);have st:∀s:Str,s.length≤30→s.length≤2^40:=λs h=>by omega
 have con:∀(s:Str) (a:Dat),s.length≤30→Ha TT 59 a→Ha TT 80 (.agg [.str s,a]):=λs a h1 h2=>tco (st s h1) h2;have cons:∀(xs:List Dat),xs.length≤30→xs≠[]→(∀x∈xs,Ha TT 80 x)→Ha TT 81 (.sl 2 xs):=λxs h1 h2 h3=>by
  have:=slt (xs:=xs) uC szC (fiO byC (by omega) (by omega)) h3;cases xs with
  |nil=>exact absurd rfl h2
  |cons a l=>exact this
 have types:∀(xs:List Dat),xs.length≤30→xs≠[]→(∀x∈xs,Ha TT 61 x)→Ha TT 59 (.sl 4 xs):=λxs h1 h2 h3=>by
  have:=slt (xs:=xs) uT szT (fiO byType (by omega) (by omega)) h3;cases xs with
  |nil=>exact absurd rfl h2
  |cons a l=>exact this
 have tv:Ha TT 61 (Dat.agg [Dat.int IntKind.i64 2,Dat.str [97],Dat.int IntKind.i64 0,Dat.nil]):=tty (by simp) nilT;have tl:Ha TT 61 (Dat.agg [Dat.int IntKind.i64 4,Dat.str [108,105,115,116],Dat.int IntKind.i64 0,Dat.sl 4 [Dat.agg [Dat.int IntKind.i64 2,Dat.str [97],Dat.int IntKind.i64 0,Dat.nil]]]):=tty (by simp) (types _ (by simp) (by simp) (by simpa using tv));intro y hy;simp only[bas,List.mem_cons,List.not_mem_nil,or_false] at hy;rcases hy with rfl|rfl|rfl
 ·exact tyc (by simp) nilS (cons _ (by simp) (by simp) (by simpa using con _ _ (by simp) nilT))
 ·exact tyc (by simp) nilS (cons _ (by simp) (by simp) (by simpa using⟨con _ _ (by simp) nilT,con _ _ (by simp) nilT⟩))
 ·exact tyc (by simp) (tss (l:=[[97]]) (by simp) (by simp) (by simp)) (cons _ (by simp) (by simp) (by simpa using⟨con _ _ (by simp) nilT,con _ _ (by simp) (types _ (by simp) (by simp) (by simpa using⟨tv,tl⟩))⟩))
def alD(P:Pg):List Dc:=bas.map abD++P.ds
theorem sco(x:Dat)(g:Glob)(hx:Ha TT 28 x)(hn:(abg x).ds.length≤2^22)(Qf:OGP)(hQ:∀r,Ha TT 22 r→(elO r).map abD=alD (abg x)→∀v,Rt v r→Qf (.val v) g):EvF TT 37 [x] g Qf:=by
 refine w37 hx ?_;obtain⟨d1,k1,s1,r1,n1,a1,b1,p1,rfl,hd1,he1⟩:=pro hx;have ed:=hd1.els uD;have hn:(elO d1).length≤2^22:=by
  have:(abg (.agg [d1,.int .i64 k1,.str s1,.str r1,.int .i64 n1,a1,b1,.int .i64 p1])).ds.length=(elO d1).length:=List.length_map _;omega
 have h0:fld (.agg [d1,.int .i64 k1,.str s1,.str r1,.int .i64 n1,a1,b1,.int .i64 p1]) 0=d1:=rfl;rw[h0];refine lU (len:=(elO d1).length) (λi=>∀l:List Dat,l.length=3+i→(∀y∈l,Ha TT 84 y)→l.map abD=bas.map abD++((elO d1).take i).map abD→L37_3 l d1 ((elO d1).length:Int) (i:Int) g Qf) ?_ ?_ 0 (Nat.zero_le _) bas rfl baL (by simp)
 ·intro l h1 h2 h3;refine w37_3 ?_;rw[Bg];rw[List.take_length] at h3;have hne:l≠[]:=λe=>by rw[e] at h1;simp at h1;omega
  have hty:Ha TT 22 (.sl 4 l):=by
   have:=slt (xs:=l) uD szD (fiO byD (by omega) (by omega)) h2;cases l with
   |nil=>exact absurd rfl hne
   |cons a l=>exact this
  exact hQ _ hty h3 _ rfl
 ·intro i hi ih l h1 h2 h3;refine w37_3 ?_;rw[Bl hi,geE hi];refine⟨inB hi,twn _ g (ed.2 _ (List.getElem_mem hi)) _ λr hr er=>⟨r,hr,rfl,(fiO byD (by omega) (by simp;omega)).fits byD,?_⟩⟩;rw[wra (by omega)];refine ih _ (by simp[h1];omega) (λy hy=>?_) ?_
  ·rcases List.mem_append.1 hy with hy|hy
   ·exact h2 y hy
   ·simp only[List.mem_singleton] at hy;subst hy;exact hr
  ·rw[List.map_append,h3,List.append_assoc,List.take_succ,List.getElem?_eq_getElem hi,List.map_append];simp[er]
theorem rAl(x:Dat)(g:Glob)(hx:Ha TT 28 x)(hn:(abg x).ds.length≤2^22)(Qf:OGP)(hQ:∀r,Ha TT 22 r→(elO r).map abD=alD (abg x)→∀v,Rt v r→Qf (.val v) g):EvF TT 15 [x] g Qf:=by
 refine w15 hx ?_;obtain⟨d1,k1,s1,r1,n1,a1,b1,p1,rfl,hd1,he1⟩:=pro hx;have ed:=hd1.els uD;have hn:(elO d1).length≤2^22:=by
  have:(abg (.agg [d1,.int .i64 k1,.str s1,.str r1,.int .i64 n1,a1,b1,.int .i64 p1])).ds.length=(elO d1).length:=List.length_map _;omega
 refine coD d1 g hd1 _ λl hl hn' ha'=>?_;have tl:Ha TT 22 (sOf 4 l):=slf uD szD (by rw[hn'];exact ed.1) hl;refine⟨sOf 4 l,tl,rO _ _,(fiO byD (by omega) (by rw[slO];omega)).fits byD,?_⟩;rw[slO];have hty:Ha TT 22 (.sl 4 (bas++l)):=slt (xs:=bas++l) uD szD (fiO byD (by omega) (by simp[bas];omega)) (λy hy=>(List.mem_append.1 hy).elim (baL y) (hl y));refine hQ (.sl 4 (bas++l)) hty ?_ _ rfl;rw[elO,List.map_append,ha'];rfl
def fiC(s:Str):List Cn→Int→Option Int
 |[],_=>none
 |c::l,i=>bif c.s==s then some i else fiC s l (i+1)
def fD(s:Str):List Dc→Int→Int×Int×Bool
 |[],_=>(0,0,false)
 |d::l,i=>match fiC s d.cs 0 with
  |some k=>(i,k,true)
  |none=>fD s l (i+1)
def oA0(r:Int×Int×Bool):Out:=.val (.tuple [.d (.int .i64 r.1),.d (.int .i64 r.2.1),.d (.bool r.2.2)])
theorem find_ok(x:Dat)(s:Str)(g:Glob)(hx:Ha TT 22 x)(hs:s.length≤2^40)(Qf:OGP)(hQ:Qf (oA0 (fD s ((elO x).map abD) 0)) g):EvF TT 49 [x,.str s] g Qf:=by
 have ed:=hx.els uD;have edl:=ed.1.1;refine w49 hx hs ?_;refine lU (len:=(elO x).length) (λi=>Qf (oA0 (fD s (((elO x).drop i).map abD) (i:Int))) g→L49_2 s x ((elO x).length:Int) (i:Int) g Qf) ?_ ?_ 0 (Nat.zero_le _) hQ
 ·intro hQ;refine w49_2 ?_;rw[Bg];rw[List.drop_length] at hQ;exact hQ
 ·intro i hi ih hQ;refine w49_2 ?_;rw[Bl hi,geE hi];rw[dm hi,fD,asD] at hQ;obtain⟨s2,a2,b2,p2,e2,_,ha2,hb2⟩:=det (ed.2 _ (List.getElem_mem hi));rw[e2] at hQ⊢;have f2:fld (Dat.agg [.str s2,a2,b2,.int .i64 p2]) 2=b2:=rfl;rw[f2] at hQ⊢;have eb:=hb2.els uC;have ebl:=eb.1.1;refine⟨inB hi,?_⟩;refine lU (len:=(elO b2).length) (λj=>Qf (match fiC s (((elO b2).drop j).map aC) (j:Int) with|some k=>oA0 ((i:Int),k,true)|none=>oA0 (fD s (((elO x).drop (i+1)).map abD) ((i:Int)+1))) g→L49_5 s (i:Int) x ((elO x).length:Int) (i:Int) b2 ((elO b2).length:Int) (j:Int) g Qf) ?_ ?_ 0 (Nat.zero_le _) ?_
  ·intro hQ;refine w49_5 ?_;rw[Bg,wra (by omega)];rw[List.drop_length] at hQ;exact ih hQ
  ·intro j hj ihj hQ;refine w49_5 ?_;rw[Bl hj,geE hj];rw[dm hj,fiC] at hQ;refine⟨inB hj,?_⟩;show Br ((aC (elO b2)[j]).s==s) _ _;cases hc:((aC (elO b2)[j]).s==s) with
   |true=>rw[hc] at hQ;exact hQ
   |false=>
    rw[hc] at hQ;rw[Bf,wra (by omega)];exact ihj hQ
  ·rw[List.drop_zero];cases hf:fiC s ((elO b2).map aC) 0 with
   |none=>
    rw[hf] at hQ;exact hQ
   |some k=>
    rw[hf] at hQ;exact hQ
theorem rF(x:Dat)(s:Str)(g:Glob)(hx:Ha TT 22 x)(hs:s.length≤2^40)(Qf:OGP)(hQ:Qf (oA0 (fD s ((elO x).map abD) 0)) g):EvF TT 50 [x,.str s] g Qf:=by
 have ed:=hx.els uD;have edl:=ed.1.1;refine w50 hx hs ?_;refine lU (len:=(elO x).length) (λi=>Qf (oA0 (fD s (((elO x).drop i).map abD) (i:Int))) g→L50_2 x s (i:Int) g Qf) ?_ ?_ 0 (Nat.zero_le _) hQ
 ·intro hQ;refine w50_2 ?_;rw[Bg];rw[List.drop_length] at hQ;exact hQ
 ·intro i hi ih hQ;refine w50_2 ?_;rw[Bl hi];rw[dm hi,fD,asD] at hQ;obtain⟨s2,a2,b2,p2,e2,_,ha2,hb2⟩:=det (ed.2 _ (List.getElem_mem hi));rw[e2] at hQ;have f2:fld (Dat.agg [.str s2,a2,b2,.int .i64 p2]) 2=b2:=rfl;rw[f2] at hQ;have eb:=hb2.els uC;have ebl:=eb.1.1;refine lU (len:=(elO b2).length) (λj=>Qf (match fiC s (((elO b2).drop j).map aC) (j:Int) with|some k=>oA0 ((i:Int),k,true)|none=>oA0 (fD s (((elO x).drop (i+1)).map abD) ((i:Int)+1))) g→L50_5 x s (i:Int) (j:Int) g Qf) ?_ ?_ 0 (Nat.zero_le _) ?_
  ·intro hQ;refine w50_5 ⟨inB hi,?_⟩;rw[geE hi,e2,f2,Bg,wra (by omega)];rw[List.drop_length] at hQ;exact ih hQ
  ·intro j hj ihj hQ;refine w50_5 ⟨inB hi,?_⟩;rw[geE hi,e2,f2,Bl hj,geE hj];rw[dm hj,fiC] at hQ;refine⟨inB hi,inB hj,?_⟩;show Br ((aC (elO b2)[j]).s==s) _ _;cases hc:((aC (elO b2)[j]).s==s) with
   |true=>rw[hc] at hQ;exact hQ
   |false=>
    rw[hc] at hQ;rw[Bf,wra (by omega)];exact ihj hQ
  ·rw[List.drop_zero];cases hf:fiC s ((elO b2).map aC) 0 with
   |none=>
    rw[hf] at hQ;exact hQ
   |some k=>
    rw[hf] at hQ;exact hQ
theorem srl{x:Dat}(h:Sr x):(elO x).length≤2^21:=by
 cases h with
 |sl m xs hl h=>exact hl
 |_=>simp[elO]
end Go.Proofs.YtiheejdkkjfenaaGreatDoor.Pa
