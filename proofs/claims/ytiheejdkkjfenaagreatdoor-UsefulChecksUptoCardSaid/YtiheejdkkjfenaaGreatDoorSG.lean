/- Useful: the program's asking. Useful: the program's asking, whole. -/
import Derived.Test.YtiheejdkkjfenaaGreatDoorSF
set_option linter.all false
set_option autoImplicit false
set_option maxRecDepth 100000
namespace Go.Proofs.YtiheejdkkjfenaaGreatDoor.Pa
open Go Go.Proofs.YtiheejdkkjfenaaGreatDoor.Am
theorem gsm{t:TypeId}{d:TypeDesc}{g g':Glob}{i:Nat}{x:Dat}(hu:TT.und t=some d)(hs:TT.size t=some 1)(ha:ig d=false)(h:g.boxes[i]?=some (.cells [.d x]))(h':g'.boxes[i]?=some (.cells [.d x])):Gm TT t i 0 g g':=
 ⟨_,_,gld hu hs ha h rfl,gld hu hs ha h' rfl,by simp[Val.same,Dat.ber]⟩
theorem gpn{g:Glob}{z x:Dat}(h1:x.one=true):Gu (gne g [z]) g.boxes.length 0 1∧gp (gne g [z]) g.boxes.length 0 x=gne g [x]:=by
 obtain⟨a,b⟩:=gpu (x:=x) (gnw g [z]) h1;exact⟨a,b.trans (by simp[gne])⟩
theorem uA:TT.und 131=some (.pointer 137):=by kernel_rfl
theorem szA:TT.size 131=some 1:=by kernel_rfl
theorem iA2:isF (TT.und 182)=true:=by kernel_rfl
theorem sA6:TT.size 182=some 1:=by kernel_rfl
theorem iA1:isF (TT.und 183)=true:=by kernel_rfl
theorem szF:TT.size 183=some 1:=by kernel_rfl
abbrev DD(l:Dat):List Dc:=(elO l).map abD
def Ak(g:Glob)(p0:Nat)(l:Dat)(m:Nat):Prop:=g.boxes[p0]?=some (.cells [.d l,.d (.int .i64 ((65536-m:Nat):Int))])
def tou:Out:=.panic (.iface 130 (.agg []))
def Us(l:Dat)(f:Nat):Prop:=∀(m p0:Nat) (X Y:Dat) (g:Glob) (Qf:OGP),m<f→m≤65536→f≤65537→Ha TT 86 X→Ha TT 24 Y→Ak g p0 l m→IU (DD l) ((65538-f)*2097152) (ros X) (roA Y)→
 (∀b m' g',uU (DD l) f m (ros X) (roA Y)=some (b,m')→Kp [p0] 0 g g'→Ak g' p0 l m'→Qf (.val (.d (.bool b))) g')→(∀g',uU (DD l) f m (ros X) (roA Y)=none→Kp [p0] 0 g g'→Qf tou g')→
 EvF TT 81 [.ptr (some (p0,0)),X,Y] g Qf
structure UE where
 p0:Nat
 pu:Nat
 p4:Nat
 p5:Nat
 p7:Nat
 X:Dat
 Y:Dat
structure UOk(V:UE)(g:Glob):Prop where
 u:g.boxes[V.pu]?=some (.cells [.d (.ptr (some (V.p0,0)))])
 x:g.boxes[V.p4]?=some (.cells [.d V.X])
 y:g.boxes[V.p5]?=some (.cells [.d V.Y])
 s:g.boxes[V.p7]?=some (.cells [.d (.clo 126 [.ptr (some (V.p4,0))])])
structure UD(V:UE):Prop where
 u:V.pu≠V.p0
 x:V.p4≠V.p0
 y:V.p5≠V.p0
 s:V.p7≠V.p0
 tX:Ha TT 86 V.X
 tY:Ha TT 24 V.Y
theorem UOk.keep{V:UE}{g g':Glob}(h:UOk V g)(hd:UD V)(hk:Kp [V.p0] 0 g g'):UOk V g':=
 ⟨hk.at h.u (by simpa using hd.u),hk.at h.x (by simpa using hd.x),hk.at h.y (by simpa using hd.y),hk.at h.s (by simpa using hd.s)⟩
theorem UOk.kee{V:UE}{g g':Glob}(h:UOk V g)(hk:Kp [] 0 g g'):UOk V g':=
 ⟨hk.at h.u (by simp),hk.at h.x (by simp),hk.at h.y (by simp),hk.at h.s (by simp)⟩
theorem kp0{p:Nat}{g g':Glob}(h:Kp [] 0 g g'):Kp [p] 0 g g':=h.le (λj hj=>by cases hj) (Nat.le_refl _)
theorem Ak.kee{g g':Glob}{p0 m:Nat}{l:Dat}(h:Ak g p0 l m)(hk:Kp [] 0 g g'):Ak g' p0 l m:=hk.at h (by simp)
theorem UOk.ptr{V:UE}{g:Glob}(h:UOk V g):GOk TT 131 g V.pu 0 (.ptr (some (V.p0,0))):=gok uA szA rfl h.u rfl
theorem UOk.sp{V:UE}{g:Glob}(h:UOk V g):GOk TT 182 g V.p7 0 (.clo 126 [.ptr (some (V.p4,0))]):=unn iA2 sA6 h.s
theorem UOk.psa{V:UE}{g g':Glob}(h:UOk V g)(h':UOk V g'):Gm TT 131 V.pu 0 g g':=gsm uA szA rfl h.u h'.u
theorem UOk.ysa{V:UE}{g g':Glob}(h:UOk V g)(h':UOk V g'):Gm TT 24 V.p5 0 g g':=gsm uP szR rfl h.y h'.y
theorem IU.roO{D:List Dc}{B:Nat}{rows:List (List Pt)}{x:Pt}{r:List Pt}(h:IU D B rows (x::r))(hB:B≤2^38):∀q∈rows,0<q.length∧q.length≤2^38:=λq hq=>by
 have h1:=h.len q hq;have h2:=h.le;simp only[List.length_cons] at h1 h2;omega
theorem dro{Y:Dat}:List.drop 1 (List.take ((elO Y).length:Int).toNat (elO Y))=(elO Y).tail:=by rw[Int.toNat_natCast,List.take_length,List.drop_one]
theorem tai{Y:Dat}(h:Ha TT 24 Y):Ha TT 24 (.sl 5 (elO Y).tail):=by
 have e:=h.els uP;exact tya (e.1.le (by rw[List.length_tail];omega)) λy hy=>e.2 y (List.mem_of_mem_tail hy)
theorem roc{Y:Dat}{x:Pt}{r:List Pt}(h:roA Y=x::r):0<(elO Y).length∧(elO Y).tail.map aP=r:=by
 unfold roA at h;cases hE:elO Y with
 |nil=>rw[hE] at h;cases h
 |cons a t=>rw[hE] at h;cases h;exact⟨by simp,rfl⟩
theorem tal{Y:Dat}{x:Pt}{r:List Pt}(h:roA Y=x::r):roA (.sl 5 (elO Y).tail)=r:=(roc h).2
section
variable{l:Dat}{f m:Nat}{V:UE}{g:Glob}{x:Pt}{r:List Pt}{Qf:OGP}
theorem asC{s:Str}{A:Dat}(hU:Us l f)(hm:m<f)(hm':m≤65536)(hf:f≤65536)(hd:UD V)(ho:UOk V g)(ha:Ak g V.p0 l m)(hs:s.length≤2^40)(tA:Ha TT 24 A)(hY:roA V.Y=x::r)
 (hA:(elO A).length≤2^21) (hi:IU (DD l) ((65538-(f+1))*2097152) (ros V.X) (x::r)) (hi':IU (DD l) ((65538-f)*2097152) ((ros V.X).filterMap (tu (seC s (elO A).length))) (roA A++r))
 (h1:∀b m' g',uU (DD l) f m ((ros V.X).filterMap (tu (seC s (elO A).length))) (roA A++r)=some (b,m')→Kp [V.p0] 0 g g'→Ak g' V.p0 l m'→Qf (.val (.d (.bool b))) g')
 (h2:∀g',uU (DD l) f m ((ros V.X).filterMap (tu (seC s (elO A).length))) (roA A++r)=none→Kp [V.p0] 0 g g'→Qf tou g'):
 EvF TT 128 [.str s,A,.ptr (some (V.pu,0)),.ptr (some (V.p7,0)),.ptr (some (V.p5,0))] g Qf:=by
 have hB:(65538-(f+1))*2097152≤2^38:=by omega
 obtain⟨hY0,hYt⟩:=roc hY;have k1:Kp [] 0 g (gne (gne g [.str s]) [A]):=(kw g _ 0).trans (kw _ _ 0);have o1:=ho.kee k1;have bA:(gne (gne g [.str s]) [A]).boxes[(gne g [.str s]).boxes.length]?=some (.cells [.d A]):=gnw _ _;have bs:(gne (gne g [.str s]) [A]).boxes[g.boxes.length]?=some (.cells [.d (.str s)]):=by rw[gno _ (by rw[gnl];omega)];exact gnw _ _
 refine w128 hs tA ⟨V.p0,0,o1.ptr,_,_,o1.sp,?_⟩;refine spc hd.tX o1.x (prc tA hs bA bs) (hi.roO hB) (λy k hk=>?_) _ λv Y1 g1 tY1 hv hY1 k2=>?_
 ·have:=(seo (D:=[]) y k hk).1;omega
 have o2:=o1.kee k2;have bA2:=k2.at bA (by simp);refine⟨Y1,tY1,hv,o1.psa o2,A,tA,goo bA2,gsm uP szR rfl bA bA2,V.Y,hd.tY,goo o2.y,o1.ysa o2,⟨by omega,by omega,by omega⟩,?_⟩;rw[dro];have hYl:=hi.le;have hYl':(roA V.Y).length=(elO V.Y).length:=List.length_map _;rw[hY] at hYl';refine cno tA (tai hd.tY) (by rw[show elO (.sl 5 (elO V.Y).tail)=(elO V.Y).tail from rfl,List.length_tail];omega) _ λv2 x3 g2 t3 hv3 hx3 k3=>⟨x3,t3,hv3,o2.psa (o2.kee k3),?_⟩
 have kk:Kp [] 0 g g2:=(k1.trans k2).trans k3;have hrow:roA x3=roA A++r:=by
  unfold roA;rw[hx3,List.map_append];congr 1
 rw[←hY1,←hrow] at hi' h1 h2;exact hU m V.p0 Y1 x3 g2 _ hm hm' (by omega) tY1 t3 (ha.kee kk) hi' (λb m' g' e k a=>⟨b,rfl,h1 b m' g' e ((kp0 kk).trans k) a⟩) (λg' e k=>h2 g' e ((kp0 kk).trans k))
theorem asT{sem:Pt→Option (List Pt)}{Y1:Dat}{g1:Glob}(hU:Us l f)(hm:m<f)(hm':m≤65536)(hf:f≤65536)(hd:UD V)(ho:UOk V g)(ha:Ak g V.p0 l m)(hY:roA V.Y=x::r)
 (hi':IU (DD l) ((65538-f)*2097152) ((ros V.X).filterMap (tu sem)) r) (tY1:Ha TT 86 Y1) (hY1:ros Y1=(ros V.X).filterMap (tu sem)) (k2:Kp [] 0 g g1)
 (h1:∀b m' g',uU (DD l) f m ((ros V.X).filterMap (tu sem)) r=some (b,m')→Kp [V.p0] 0 g g'→Ak g' V.p0 l m'→Qf (.val (.d (.bool b))) g')
 (h2:∀g',uU (DD l) f m ((ros V.X).filterMap (tu sem)) r=none→Kp [V.p0] 0 g g'→Qf tou g'):
 Gm TT 131 V.pu 0 g g1∧∃x_1,Ha TT 24 x_1∧GOk TT 24 g1 V.p5 0 x_1∧Gm TT 24 V.p5 0 g g1∧InS 1 ((elO x_1).length:Int) (elO x_1).length∧
  EvF TT 81 [Dat.ptr (some (V.p0,0)),Y1,Dat.sl 5 (List.drop 1 (List.take ((elO x_1).length:Int).toNat (elO x_1)))] g1 (KQ Qf λv g'=>∃b,v=Val.d (Dat.bool b)∧Qf (Out.val (Val.d (Dat.bool b))) g'):=by
 have o2:=ho.kee k2;have hY0:=(roc hY).1;refine⟨ho.psa o2,V.Y,hd.tY,goo o2.y,ho.ysa o2,⟨by omega,by omega,by omega⟩,?_⟩;rw[dro];rw[←hY1,←tal hY] at hi' h1 h2;exact hU m V.p0 Y1 _ g1 _ hm hm' (by omega) tY1 (tai hd.tY) (ha.kee k2) hi' (λb m' g' e k a=>⟨b,rfl,h1 b m' g' e ((kp0 k2).trans k) a⟩) (λg' e k=>h2 g' e ((kp0 k2).trans k))
theorem aso{xs:Dat}{p8:Nat}(hU:Us l f)(hf:f≤65536)(hd:UD V)(hY:roA V.Y=x::r)(hp8:p8≠V.p0)(hxs:Ha TT 81 xs)(hN:∀c∈(elO xs).map aC,c.fs.length≤2097152)
 (hi:IU (DD l) ((65538-(f+1))*2097152) (ros V.X) (x::r))
 (hi':∀c∈(elO xs).map aC,IU (DD l) ((65538-f)*2097152) ((ros V.X).filterMap (tu (seC c.s c.fs.length))) (List.replicate c.fs.length ayP++r)) (g0:Glob) (m0:Nat) (ho:UOk V g0) (ha:Ak g0 V.p0 l m0) (hm:m0<f) (hm':m0≤65536)
 (h8:g0.boxes[p8]?=some (.cells [.d (.clo 128 [.ptr (some (V.pu,0)),.ptr (some (V.p7,0)),.ptr (some (V.p5,0))])]))
 (h1:∀b m' g',aU (λm c=>uU (DD l) f m ((ros V.X).filterMap (tu (seC c.s c.fs.length))) (List.replicate c.fs.length ayP++r)) ((elO xs).map aC) m0=some (b,m')→Kp [V.p0] 0 g0 g'→Ak g' V.p0 l m'→Qf (.val (.d (.bool b))) g')
 (h2:∀g',aU (λm c=>uU (DD l) f m ((ros V.X).filterMap (tu (seC c.s c.fs.length))) (List.replicate c.fs.length ayP++r)) ((elO xs).map aC) m0=none→Kp [V.p0] 0 g0 g'→Qf tou g'):
 EvF TT 133 [xs,.clo 134 [.ptr (some (p8,0))]] g0 Qf:=by
 have ex:=hxs.els uC;have exl:=ex.1.1;generalize hgo:(λ(m:Nat) (c:Cn)=>uU (DD l) f m ((ros V.X).filterMap (tu (seC c.s c.fs.length))) (List.replicate c.fs.length ayP++r))=go at h1 h2;have hgo':∀m c,go m c=uU (DD l) f m ((ros V.X).filterMap (tu (seC c.s c.fs.length))) (List.replicate c.fs.length ayP++r):=λm c=>by rw[←hgo]
 refine w133 hxs (w191 hxs ?_);refine lU (len:=(elO xs).length) (λi=>∀(g:Glob) (m:Nat),Kp [V.p0] 0 g0 g→UOk V g→Ak g V.p0 l m→m<f→m≤65536→g.boxes[p8]?=some (.cells [.d (.clo 128 [.ptr (some (V.pu,0)),.ptr (some (V.p7,0)),.ptr (some (V.p5,0))])])→
  aU go (((elO xs).drop i).map aC) m=aU go ((elO xs).map aC) m0→L191_2 xs 134 [.ptr (some (p8,0))] ((elO xs).length:Int) (i:Int) g ((KQ Qf λv g'=>∃n,v=Val.d (Dat.int IntKind.i64 n)∧Qf (Out.val (Val.d (Dat.bool (decide (0≤n))))) g'))) ?_ ?_ 0 (Nat.zero_le _) g0 m0 (Kp.refl _ _ _) ho ha hm hm' h8 rfl
 ·intro g m k o a q1 q2 q3 e;refine w191_2 ?_;rw[Bg];rw[List.drop_length] at e;exact⟨_,rfl,h1 false m g e.symm k a⟩
 ·intro i hi0 ih g m k o a q1 q2 q3 e;have tc:=ex.2 _ (List.getElem_mem hi0);obtain⟨f1,f2,f3,f4⟩:=cof tc;have hmem:aC (elO xs)[i]∈(elO xs).map aC:=List.mem_map_of_mem (List.getElem_mem hi0);have hn:=hN _ hmem;have hinv:=hi' _ hmem;rw[dm hi0] at e;refine w191_2 ?_;rw[Bl hi0,geE hi0];refine⟨inB hi0,w134 tc ⟨_,_,unn iA1 szF q3,?_⟩⟩;rw[f1,f2];have tW:=tan (n:=(aC (elO xs)[i]).fs.length) (ftP (by omega));have hWl:(elO (.sl 5 (List.replicate (aC (elO xs)[i]).fs.length anP))).length=(aC (elO xs)[i]).fs.length:=by simp[elO]
  refine wio (by omega) g _ ⟨_,tW,rfl,?_,?_⟩
  ·obtain⟨d,d1,d2⟩:=isu iA1;exact gsm d1 szF d2 q3 q3
  refine asC (A:=.sl 5 (List.replicate (aC (elO xs)[i]).fs.length anP)) hU q1 q2 hf hd o a f3 tW hY (by rw[hWl];omega) hi ?_ (λb m' g' eu ku au=>?_) (λg' eu ku=>?_)
  ·rw[hWl,rob];exact hinv
  ·rw[hWl,rob,←hgo'] at eu;refine⟨b,rfl,b,rfl,?_⟩;have kk:=k.trans ku;cases b with
   |true=>
    rw[Be];refine⟨_,rfl,?_⟩;have:decide ((0:Int)≤(i:Int))=true:=decide_eq_true (by omega);rw[this];refine h1 true m' g' ?_ kk au;rw[←e];simp only[aU,eu]
   |false=>
    rw[Bf,wra (by omega)];have hle:=usU _ _ _ _ _ _ _ ((hgo' _ _).symm.trans eu);refine ih g' m' kk (o.keep hd ku) au (by omega) (by omega) (ku.at q3 (by simpa using hp8)) ?_;rw[←e];simp only[aU,eu]
  ·rw[hWl,rob,←hgo'] at eu;refine h2 g' ?_ (k.trans ku);rw[←e];simp only[aU,eu]
end
end Go.Proofs.YtiheejdkkjfenaaGreatDoor.Pa
namespace Go.Proofs.YtiheejdkkjfenaaGreatDoor.Pa
open Go Go.Proofs.YtiheejdkkjfenaaGreatDoor.Am
theorem gow{g:Glob}{i:Nat}{x:Dat}(hb:g.boxes[i]?=some (.cells [.d x])):GOk TT 86 g i 0 x:=gok uo szo rfl hb rfl
section
variable{l:Dat}{f m:Nat}{V:UE}{g:Glob}{x:Pt}{r:List Pt}{Qf:OGP}
theorem wik{p8:Nat}(hl:Ha TT 22 l)(hF:Few (DD l) 2097152)(hU:Us l f)(hm:m<f)(hm':m≤65536)(hf:f≤65536)(hd:UD V)(ho:UOk V g)(ha:Ak g V.p0 l m)(hY:roA V.Y=x::r)(hp8:p8≠V.p0)
 (h8:g.boxes[p8]?=some (.cells [.d (.clo 128 [.ptr (some (V.pu,0)),.ptr (some (V.p7,0)),.ptr (some (V.p5,0))])])) (hi:IU (DD l) ((65538-(f+1))*2097152) (ros V.X) (x::r)) (k4:(kPt x==4)=false) (k3:(kPt x==3)=false)
 (h1:∀b m' g',uU (DD l) (f+1) (m+1) (ros V.X) (x::r)=some (b,m')→Kp [V.p0] 0 g g'→Ak g' V.p0 l m'→Qf (.val (.d (.bool b))) g')
 (h2:∀g',uU (DD l) (f+1) (m+1) (ros V.X) (x::r)=none→Kp [V.p0] 0 g g'→Qf tou g'):
 L81_13 V.pu V.p4 V.p5 V.p7 p8 g Qf:=by
 have hB:(65538-(f+1))*2097152≤2^38:=by omega
 have hBf:(65538-(f+1))*2097152+2097152=(65538-f)*2097152:=by omega
 have hro:=hi.roO hB;have hu:uU (DD l) (f+1) (m+1) (ros V.X) (x::r)=match whl (DD l) (ros V.X) with
  |none=>uU (DD l) f m ((ros V.X).filterMap (tu sW)) r
  |some cs=>aU (λm c=>uU (DD l) f m ((ros V.X).filterMap (tu (seC c.s c.fs.length))) (List.replicate c.fs.length ayP++r)) cs m:=by
  conv=>lhs;unfold uU
  simp only[k4,k3,Bool.false_eq_true,if_false];cases whl (DD l) (ros V.X)<;>rfl
 rw[hu] at h1 h2;refine w81_13 ⟨V.p0,0,ho.ptr,V.X,hd.tX,gow ho.x,?_⟩;refine alk hl hd.tX ha (λq hq=>(hro q hq).1) (λq hq=>hi.rows q hq) _ λxs g1 tx kx b hb1 hb0 us hus=>⟨xs,tx,b,hus,?_⟩
 have o1:=ho.kee kx;have a1:=ha.kee kx;cases b with
 |true=>
  have hw:=hb1 rfl;rw[hw] at h1 h2;rw[Be];have hcs:∃s,(elO xs).map aC=cO (DD l) s:=by
   unfold whl at hw;split at hw
   ·cases hw
   ·rename_i s hs;split at hw
    ·exact⟨s,(Option.some.inj hw).symm⟩
    ·cases hw
  obtain⟨s,hcs⟩:=hcs;refine aso hU hf hd hY hp8 tx (λc hc=>?_) hi (λc hc=>?_) g1 m o1 a1 hm hm' (kx.at h8 (by simp)) (λb m' g' e k a=>⟨b,rfl,h1 b m' g' e ((kp0 kx).trans k) a⟩) (λg' e k=>h2 g' e ((kp0 kx).trans k))
  ·rw[hcs] at hc;obtain⟨d,d1,d2⟩:=cnO hc;exact hF d d1 c d2
  ·rw[hcs] at hc;rw[←hBf];exact hi.cons hF hc
 |false=>
  have hw:=hb0 rfl;rw[hw] at h1 h2;rw[Bf];refine⟨V.p0,0,o1.ptr,_,_,o1.sp,?_⟩;refine spc hd.tX o1.x (prw g1) hro (λy k hk=>?_) _ λv Y1 g2 tY1 hv hY1 k2=>⟨Y1,tY1,hv,?_⟩
  ·have:=(seW (D:=[]) y k hk).1;omega
  refine asT hU hm hm' hf hd o1 a1 hY ?_ tY1 hY1 k2 (λb m' g' e k a=>h1 b m' g' e ((kp0 kx).trans k) a) (λg' e k=>h2 g' e ((kp0 kx).trans k));rw[←hBf];exact hi.wA4
theorem nin{p8 p9:Nat}{y:Dat}(hl:Ha TT 22 l)(hF:Few (DD l) 2097152)(hU:Us l f)(hm:m<f)(hm':m≤65536)(hf:f≤65536)(hd:UD V)(ho:UOk V g)(ha:Ak g V.p0 l m)(hY:roA V.Y=aP y::r)(hp8:p8≠V.p0)(hp9:p9≠V.p0)
 (ty:Ha TT 52 y)
 (h8:g.boxes[p8]?=some (.cells [.d (.clo 128 [.ptr (some (V.pu,0)),.ptr (some (V.p7,0)),.ptr (some (V.p5,0))])])) (h9:g.boxes[p9]?=some (.cells (y.cells.map .d))) (hi:IU (DD l) ((65538-(f+1))*2097152) (ros V.X) (aP y::r))
 (h1:∀b m' g',uU (DD l) (f+1) (m+1) (ros V.X) (aP y::r)=some (b,m')→Kp [V.p0] 0 g g'→Ak g' V.p0 l m'→Qf (.val (.d (.bool b))) g')
 (h2:∀g',uU (DD l) (f+1) (m+1) (ros V.X) (aP y::r)=none→Kp [V.p0] 0 g g'→Qf tou g'):
 L81_9 V.pu V.p4 V.p5 V.p7 p8 p9 (kPt (aP y)) g Qf:=by
 have hB:(65538-(f+1))*2097152≤2^38:=by omega
 have hBf:(65538-(f+1))*2097152+2097152=(65538-f)*2097152:=by omega
 have hro:=hi.roO hB;obtain⟨k1,s1,n1,a1,q1,rfl,hs1,t1⟩:=ptt ty;have hab:aP (.agg [.int .i64 k1,.str s1,.int .i64 n1,a1,.int .i64 q1])=.mk k1 s1 n1 (roA a1) q1:=by unfold roA;rw[←abP];rfl
 rw[hab] at hY hi h1 h2⊢;have e1:=t1.els uP;have hxo:=hi.row _ (List.mem_cons_self ..);have hl1:(roA a1).length=(elO a1).length:=List.length_map _;refine w81_9 ?_;refine Bi.2 ⟨λq=>?_,λq=>Bi.2 ⟨λq2=>?_,λq2=>wik hl hF hU hm hm' hf hd ho ha hY hp8 h8 hi q q2 h1 h2⟩⟩
 ·have hu:uU (DD l) (f+1) (m+1) (ros V.X) (.mk k1 s1 n1 (roA a1) q1::r)=uU (DD l) f m ((ros V.X).filterMap (tu (seC s1 (elO a1).length))) (roA a1++r):=by
   conv=>lhs;unfold uU
   rw[if_pos q,←hl1];rfl
  rw[hu] at h1 h2;have hfl:=(okc hxo q).2;have hfl':nFi (DD l) s1=(roA a1).length:=hfl;refine⟨_,_,unn iA1 szF h8,s1,by show s1.length≤1099511627776;omega,gok unS szS rfl h9 rfl,a1,t1,gok uP szR rfl h9 rfl,?_⟩;refine asC hU hm hm' hf hd ho ha hs1 t1 hY ?_ hi ?_ (λb m' g' e k a=>⟨b,rfl,h1 b m' g' e k a⟩) (λg' e k=>h2 g' e k)
  ·have:=nFe hF s1;omega
  ·rw[←hBf,←hl1];exact hi.con hF q
 ·have hu:uU (DD l) (f+1) (m+1) (ros V.X) (.mk k1 s1 n1 (roA a1) q1::r)=uU (DD l) f m ((ros V.X).filterMap (tu (seI n1))) r:=by
   conv=>lhs;unfold uU
   rw[if_neg (by have q:(k1==4)=false:=q;show ¬(k1==4)=true;rw[q];simp),if_pos q2];rfl
  rw[hu] at h1 h2;refine⟨V.p0,0,ho.ptr,_,_,ho.sp,?_⟩;refine spc hd.tX ho.x (pri h9) hro (λy k hk=>?_) _ λv Y1 g2 tY1 hv hY1 k2=>⟨Y1,tY1,hv,?_⟩
  ·have:=(sen (D:=[]) y k hk).1;omega
  refine asT hU hm hm' hf hd ho ha hY ?_ tY1 hY1 k2 h1 h2;rw[←hBf];exact hi.int
end
theorem ueo{l:Dat}(hl:Ha TT 22 l)(hF:Few (DD l) 2097152):∀f,Us l f
 |0=>λm _ _ _ _ _ h=>by omega
 |f+1=>by
  intro m p0 X Y g Qf hm hm' hf tX tY ha hi h1 h2;have hU:=ueo hl hF f;have hp0:=(List.getElem?_eq_some_iff.1 ha).1
  -- the boxes of the arguments
  have kA:Kp [] 0 g (gne (gne (gne g [Dat.ptr (some (p0,0))]) [X]) [Y]):=((kw g _ 0).trans (kw _ _ 0)).trans (kw _ _ 0);have l1:(gne g [Dat.ptr (some (p0,0))]).boxes.length=g.boxes.length+1:=gnl _ _;have l2:(gne (gne g [Dat.ptr (some (p0,0))]) [X]).boxes.length=g.boxes.length+2:=by rw[gnl,gnl]
  have l3:(gne (gne (gne g [Dat.ptr (some (p0,0))]) [X]) [Y]).boxes.length=g.boxes.length+3:=by rw[gnl,gnl,gnl]
  have b3:(gne (gne (gne g [Dat.ptr (some (p0,0))]) [X]) [Y]).boxes[g.boxes.length]?=some (.cells [.d (.ptr (some (p0,0)))]):=by
   rw[gno _ (by omega),gno _ (by omega)];exact gnw _ _
  have b4:(gne (gne (gne g [Dat.ptr (some (p0,0))]) [X]) [Y]).boxes[(gne g [Dat.ptr (some (p0,0))]).boxes.length]?=some (.cells [.d X]):=by
   rw[gno _ (by omega)];exact gnw _ _
  have b5:(gne (gne (gne g [Dat.ptr (some (p0,0))]) [X]) [Y]).boxes[(gne (gne g [Dat.ptr (some (p0,0))]) [X]).boxes.length]?=some (.cells [.d Y]):=gnw _ _;have aA:=ha.kee kA;generalize hG:gne (gne (gne g [Dat.ptr (some (p0,0))]) [X]) [Y]=GA at*;refine w81 tX tY ?_;rw[hG];refine⟨p0,0,gok uA szA rfl b3 rfl,aok aA (by omega) _ ⟨_,rfl,?_⟩⟩
  -- a step more
  have oB:Oe p0 GA ⟨GA.boxes.set p0 (.cells [.d l,.d (.int .i64 ((65536-m+1:Nat):Int))]),GA.toks⟩:=⟨_,rfl⟩
  have kB:=bK oB 0;have aB:(⟨GA.boxes.set p0 (.cells [.d l,.d (.int .i64 ((65536-m+1:Nat):Int))]),GA.toks⟩:Glob).boxes[p0]?=some (.cells [.d l,.d (.int .i64 ((65536-m+1:Nat):Int))]):=by
   show(GA.boxes.set p0 _)[p0]?=_;rw[List.getElem?_set_self (by omega)]
  generalize hGB:(⟨GA.boxes.set p0 (.cells [.d l,.d (.int .i64 ((65536-m+1:Nat):Int))]),GA.toks⟩:Glob)=GB at*;have kAB:Kp [p0] 0 g GB:=(kp0 kA).trans kB;have lB:GB.boxes.length=g.boxes.length+3:=by rw[←hGB];simp[l3]
  have ne:∀j,g.boxes.length≤j→j ∉ [p0]:=λj hj=>by simp;omega
  have c3:=kB.at b3 (ne _ (Nat.le_refl _));have c4:=kB.at b4 (ne _ (by omega));have c5:=kB.at b5 (ne _ (by omega));have tm:Out.panic (Dat.iface 130 (Dat.agg []))=tou:=rfl;cases m with
  |zero=>
   rw[show decide ((65536:Int)<((65536-0+1:Nat):Int))=true from rfl,Be,tm];exact h2 GB rfl kAB
  |succ m=>
   have hlt:decide ((65536:Int)<((65536-(m+1)+1:Nat):Int))=false:=decide_eq_false (by omega);rw[hlt,Bf];have aB':Ak GB p0 l m:=by
    unfold Ak;rw[aB,show 65536-(m+1)+1=65536-m by omega]
   refine⟨Y,tY,goo c5,?_⟩;have hYl:(roA Y).length=(elO Y).length:=List.length_map _;refine Bi.2 ⟨λq=>?_,λq=>?_⟩
   ·have hq0:((elO Y).length:Int)=0:=by simpa using q
    have h0:roA Y=[]:=List.eq_nil_of_length_eq_zero (by omega);refine⟨X,tX,gow c4,?_⟩;have hXl:(((elO X).length:Int)==0)=(ros X).isEmpty:=by
     have:(ros X).length=(elO X).length:=List.length_map _;rw[←this];cases ros X with
     |nil=>rfl
     |cons a b=>exact decide_eq_false (by simp;omega)
    rw[hXl];rw[h0] at h1;exact h1 _ m GB rfl kAB aB'
   ·have hY0:0<(elO Y).length:=by
     have:((elO Y).length:Int)≠0:=by simpa using q
     omega
    have hrow:roA Y=aP (elO Y)[0]::(elO Y).tail.map aP:=mah hY0;have ty0:=(tY.els uP).2 _ (List.getElem_mem hY0);obtain⟨z1,z2⟩:=gpn (g:=GB) (z:=.nilFn) (x:=.clo 126 [.ptr (some ((gne g [Dat.ptr (some (p0,0))]).boxes.length,0))]) rfl;refine w81_5 ⟨z1,?_⟩;rw[z2];have k5:=kw GB [.clo 126 [.ptr (some ((gne g [Dat.ptr (some (p0,0))]).boxes.length,0))]] 0;have d7:=gnw GB [.clo 126 [.ptr (some ((gne g [Dat.ptr (some (p0,0))]).boxes.length,0))]];have l5:=gnl GB [.clo 126 [.ptr (some ((gne g [Dat.ptr (some (p0,0))]).boxes.length,0))]];generalize gne GB [.clo 126 [.ptr (some ((gne g [Dat.ptr (some (p0,0))]).boxes.length,0))]]=G5 at*;obtain⟨z3,z4⟩:=gpn (g:=G5) (z:=.nilFn) (x:=.clo 128 [.ptr (some (g.boxes.length,0)),.ptr (some (GB.boxes.length,0)),.ptr (some ((gne (gne g [Dat.ptr (some (p0,0))]) [X]).boxes.length,0))]) rfl;refine w81_6 ⟨z3,?_⟩;rw[z4];have k6:=kw G5 [.clo 128 [.ptr (some (g.boxes.length,0)),.ptr (some (GB.boxes.length,0)),.ptr (some ((gne (gne g [Dat.ptr (some (p0,0))]) [X]).boxes.length,0))]] 0;have d8:=gnw G5 [.clo 128 [.ptr (some (g.boxes.length,0)),.ptr (some (GB.boxes.length,0)),.ptr (some ((gne (gne g [Dat.ptr (some (p0,0))]) [X]).boxes.length,0))]];have l6:=gnl G5 [.clo 128 [.ptr (some (g.boxes.length,0)),.ptr (some (GB.boxes.length,0)),.ptr (some ((gne (gne g [Dat.ptr (some (p0,0))]) [X]).boxes.length,0))]];generalize gne G5 [.clo 128 [.ptr (some (g.boxes.length,0)),.ptr (some (GB.boxes.length,0)),.ptr (some ((gne (gne g [Dat.ptr (some (p0,0))]) [X]).boxes.length,0))]]=G6 at*;have e5:=(k5.trans k6).at c5 (by simp);have hg0:gtE (elO Y) 0=(elO Y)[0]:=geE (i:=0) hY0;have hcells:(elO Y)[0].cells.length=5:=by
     obtain⟨a1,a2,a3,a4,a5,e,_⟩:=ptt ty0;rw[e];rfl
    have hagg:.agg (elO Y)[0].cells=(elO Y)[0]:=by
     obtain⟨a1,a2,a3,a4,a5,e,_⟩:=ptt ty0;rw[e];rfl
    obtain⟨z5,z6⟩:=gpe (g:=G6) (z:=[Dat.int IntKind.i64 0,Dat.str [],Dat.int IntKind.i64 0,Dat.nil,Dat.int IntKind.i64 0]) (ds:=(elO Y)[0].cells) (n:=5) rfl hcells;rw[hagg] at z6;refine w81_7 ⟨Y,tY,goo e5,⟨by simp,by omega⟩,z5,?_⟩;rw[hg0,z6];have k7:=kw G6 (elO Y)[0].cells 0;have d9:=gnw G6 (elO Y)[0].cells;generalize gne G6 (elO Y)[0].cells=G7 at*;have kBC:Kp [] 0 GB G7:=(k5.trans k6).trans k7;have hk0:GOk TT 3 G7 G6.boxes.length 0 (.int .i64 (kPt (aP (elO Y)[0]))):=by
     obtain⟨a1,a2,a3,a4,a5,e,_⟩:=ptt ty0;rw[e] at d9⊢;exact gok uI szI rfl d9 rfl
    refine w81_8 ⟨_,hk0,?_⟩;rw[hrow] at hi h1 h2;exact nin (V:=⟨p0,g.boxes.length,(gne g [Dat.ptr (some (p0,0))]).boxes.length,(gne (gne g [Dat.ptr (some (p0,0))]) [X]).boxes.length,GB.boxes.length,X,Y⟩) hl hF hU (m:=m) (by omega) (by omega) (by omega)
     ⟨by show g.boxes.length≠p0;omega,by show(gne g [Dat.ptr (some (p0,0))]).boxes.length≠p0;omega,by show(gne (gne g [Dat.ptr (some (p0,0))]) [X]).boxes.length≠p0;omega,by show GB.boxes.length≠p0;omega,tX,tY⟩
     ⟨kBC.at c3 (by simp),kBC.at c4 (by simp),kBC.at c5 (by simp),(k6.trans k7).at d7 (by simp)⟩ (aB'.kee kBC) hrow (by show G5.boxes.length≠p0;omega) (by show G6.boxes.length≠p0;omega) ty0 (k7.at d8 (by simp)) d9 hi
     (λb m' g' e k a=>h1 b m' g' e ((kAB.trans (kp0 kBC)).trans k) a) (λg' e k=>h2 g' e ((kAB.trans (kp0 kBC)).trans k))
end Go.Proofs.YtiheejdkkjfenaaGreatDoor.Pa
