/- Useful: the program's asking. Useful: the program's asking, whole. -/
import Derived.Test.YtiheejdkkjfenaaGreatDoorSF
set_option linter.all false
set_option autoImplicit false
set_option maxRecDepth 100000
namespace Go.Proofs.YtiheejdkkjfenaaGreatDoor.Pa
open Go Go.Proofs.YtiheejdkkjfenaaGreatDoor.Am
theorem gsame17{t:TypeId}{d:TypeDesc}{g g':Glob}{i:Nat}{x:Dat}(hu:TT.und t=some d)(hs:TT.size t=some 1)(ha:isAggD d=false)(h:g.boxes[i]?=some (.cells [.d x]))(h':g'.boxes[i]?=some (.cells [.d x])):GSame TT t i 0 g g':=
 ⟨_,_,gloadD hu hs ha h rfl,gloadD hu hs ha h' rfl,by simp[Val.same,Dat.beq_refl]⟩
theorem gput_new1{g:Glob}{z x:Dat}(h1:x.one=true):GPut (gnew g [z]) g.boxes.length 0 1∧gput (gnew g [z]) g.boxes.length 0 x=gnew g [x]:=by
 obtain⟨a,b⟩:=gput_one (x:=x) (gnew_get g [z]) h1
 exact⟨a,b.trans (by simp[gnew])⟩
theorem undAsk:TT.und 131=some (.pointer 137):=by kernel_rfl
theorem szAsk:TT.size 131=some 1:=by kernel_rfl
theorem isF1:isF (TT.und 182)=true:=by kernel_rfl
theorem szF1:TT.size 182=some 1:=by kernel_rfl
theorem isF2:isF (TT.und 183)=true:=by kernel_rfl
theorem szF2:TT.size 183=some 1:=by kernel_rfl
abbrev DD(l:Dat):List Dc:=(elsOf l).map absDc
def AskOk(g:Glob)(p0:Nat)(l:Dat)(m:Nat):Prop:=g.boxes[p0]?=some (.cells [.d l,.d (.int .i64 ((65536-m:Nat):Int))])
def tooMuch:Out:=.panic (.iface 130 (.agg []))
def UseSpec(l:Dat)(f:Nat):Prop:=∀(m p0:Nat) (X Y:Dat) (g:Glob) (Qf:OGP),m<f→m≤65536→f≤65537→HasTy TT 86 X→HasTy TT 24 Y→AskOk g p0 l m→InvU (DD l) ((65538-f)*2097152) (rowsAbs X) (rowAbs Y)→
 (∀b m' g',useU (DD l) f m (rowsAbs X) (rowAbs Y)=some (b,m')→Kp [p0] 0 g g'→AskOk g' p0 l m'→Qf (.val (.d (.bool b))) g')→(∀g',useU (DD l) f m (rowsAbs X) (rowAbs Y)=none→Kp [p0] 0 g g'→Qf tooMuch g')→
 EvF TT 81 [.ptr (some (p0,0)),X,Y] g Qf
structure UEnv where
 p0:Nat
 pu:Nat
 p4:Nat
 p5:Nat
 p7:Nat
 X:Dat
 Y:Dat
structure UOk(V:UEnv)(g:Glob):Prop where
 u:g.boxes[V.pu]?=some (.cells [.d (.ptr (some (V.p0,0)))])
 x:g.boxes[V.p4]?=some (.cells [.d V.X])
 y:g.boxes[V.p5]?=some (.cells [.d V.Y])
 s:g.boxes[V.p7]?=some (.cells [.d (.clo 126 [.ptr (some (V.p4,0))])])
structure UDis(V:UEnv):Prop where
 u:V.pu≠V.p0
 x:V.p4≠V.p0
 y:V.p5≠V.p0
 s:V.p7≠V.p0
 tX:HasTy TT 86 V.X
 tY:HasTy TT 24 V.Y
theorem UOk.keep{V:UEnv}{g g':Glob}(h:UOk V g)(hd:UDis V)(hk:Kp [V.p0] 0 g g'):UOk V g':=
 ⟨hk.at h.u (by simpa using hd.u),hk.at h.x (by simpa using hd.x),hk.at h.y (by simpa using hd.y),hk.at h.s (by simpa using hd.s)⟩
theorem UOk.keep0{V:UEnv}{g g':Glob}(h:UOk V g)(hk:Kp [] 0 g g'):UOk V g':=
 ⟨hk.at h.u (by simp),hk.at h.x (by simp),hk.at h.y (by simp),hk.at h.s (by simp)⟩
theorem kp0{p:Nat}{g g':Glob}(h:Kp [] 0 g g'):Kp [p] 0 g g':=h.le (λj hj=>by cases hj) (Nat.le_refl _)
theorem AskOk.keep0{g g':Glob}{p0 m:Nat}{l:Dat}(h:AskOk g p0 l m)(hk:Kp [] 0 g g'):AskOk g' p0 l m:=hk.at h (by simp)
theorem UOk.ptr{V:UEnv}{g:Glob}(h:UOk V g):GOk TT 131 g V.pu 0 (.ptr (some (V.p0,0))):=gokD undAsk szAsk rfl h.u rfl
theorem UOk.sp{V:UEnv}{g:Glob}(h:UOk V g):GOk TT 182 g V.p7 0 (.clo 126 [.ptr (some (V.p4,0))]):=undFn0 isF1 szF1 h.s
theorem UOk.psame{V:UEnv}{g g':Glob}(h:UOk V g)(h':UOk V g'):GSame TT 131 V.pu 0 g g':=gsame17 undAsk szAsk rfl h.u h'.u
theorem UOk.ysame{V:UEnv}{g g':Glob}(h:UOk V g)(h':UOk V g'):GSame TT 24 V.p5 0 g g':=gsame17 undPats szRow rfl h.y h'.y
theorem InvU.rowsOk{D:List Dc}{B:Nat}{rows:List (List Pt)}{x:Pt}{r:List Pt}(h:InvU D B rows (x::r))(hB:B≤2^38):∀q∈rows,0<q.length∧q.length≤2^38:=λq hq=>by
 have h1:=h.len q hq
 have h2:=h.le
 simp only[List.length_cons] at h1 h2
 omega
theorem drop_tail{Y:Dat}:List.drop 1 (List.take ((elsOf Y).length:Int).toNat (elsOf Y))=(elsOf Y).tail:=by rw[Int.toNat_natCast,List.take_length,List.drop_one]
theorem tail_ty{Y:Dat}(h:HasTy TT 24 Y):HasTy TT 24 (.sl 5 (elsOf Y).tail):=by
 have e:=h.els undPats
 exact tyPats_sl (e.1.le (by rw[List.length_tail];omega)) λy hy=>e.2 y (List.mem_of_mem_tail hy)
theorem row_cons{Y:Dat}{x:Pt}{r:List Pt}(h:rowAbs Y=x::r):0<(elsOf Y).length∧(elsOf Y).tail.map absPt=r:=by
 unfold rowAbs at h
 cases hE:elsOf Y with
 |nil=>rw[hE] at h;cases h
 |cons a t=>rw[hE] at h;cases h;exact⟨by simp,rfl⟩
theorem tail_abs{Y:Dat}{x:Pt}{r:List Pt}(h:rowAbs Y=x::r):rowAbs (.sl 5 (elsOf Y).tail)=r:=(row_cons h).2
section
variable{l:Dat}{f m:Nat}{V:UEnv}{g:Glob}{x:Pt}{r:List Pt}{Qf:OGP}
theorem askCon_ok{s:Str}{A:Dat}(hU:UseSpec l f)(hm:m<f)(hm':m≤65536)(hf:f≤65536)(hd:UDis V)(ho:UOk V g)(ha:AskOk g V.p0 l m)(hs:s.length≤2^40)(tA:HasTy TT 24 A)(hY:rowAbs V.Y=x::r)
 (hA:(elsOf A).length≤2^21) (hi:InvU (DD l) ((65538-(f+1))*2097152) (rowsAbs V.X) (x::r)) (hi':InvU (DD l) ((65538-f)*2097152) ((rowsAbs V.X).filterMap (turnR (semCon s (elsOf A).length))) (rowAbs A++r))
 (h1:∀b m' g',useU (DD l) f m ((rowsAbs V.X).filterMap (turnR (semCon s (elsOf A).length))) (rowAbs A++r)=some (b,m')→Kp [V.p0] 0 g g'→AskOk g' V.p0 l m'→Qf (.val (.d (.bool b))) g')
 (h2:∀g',useU (DD l) f m ((rowsAbs V.X).filterMap (turnR (semCon s (elsOf A).length))) (rowAbs A++r)=none→Kp [V.p0] 0 g g'→Qf tooMuch g'):
 EvF TT 128 [.str s,A,.ptr (some (V.pu,0)),.ptr (some (V.p7,0)),.ptr (some (V.p5,0))] g Qf:=by
 have hB:(65538-(f+1))*2097152≤2^38:=by omega
 obtain⟨hY0,hYt⟩:=row_cons hY
 have k1:Kp [] 0 g (gnew (gnew g [.str s]) [A]):=(kp_gnew g _ 0).trans (kp_gnew _ _ 0)
 have o1:=ho.keep0 k1
 have bA:(gnew (gnew g [.str s]) [A]).boxes[(gnew g [.str s]).boxes.length]?=some (.cells [.d A]):=gnew_get _ _
 have bs:(gnew (gnew g [.str s]) [A]).boxes[g.boxes.length]?=some (.cells [.d (.str s)]):=by rw[gnew_old _ (by rw[gnew_len];omega)];exact gnew_get _ _
 refine w128 hs tA ⟨V.p0,0,o1.ptr,_,_,o1.sp,?_⟩
 refine special_ok hd.tX o1.x (parts_con tA hs bA bs) (hi.rowsOk hB) (λy k hk=>?_) _ λv Y1 g1 tY1 hv hY1 k2=>?_
 ·have:=(semCon_ok (D:=[]) y k hk).1;omega
 have o2:=o1.keep0 k2
 have bA2:=k2.at bA (by simp)
 refine⟨Y1,tY1,hv,o1.psame o2,A,tA,gokRow bA2,gsame17 undPats szRow rfl bA bA2,V.Y,hd.tY,gokRow o2.y,o1.ysame o2,⟨by omega,by omega,by omega⟩,?_⟩
 rw[drop_tail]
 have hYl:=hi.le
 have hYl':(rowAbs V.Y).length=(elsOf V.Y).length:=List.length_map _
 rw[hY] at hYl'
 refine concat_ok tA (tail_ty hd.tY) (by rw[show elsOf (.sl 5 (elsOf V.Y).tail)=(elsOf V.Y).tail from rfl,List.length_tail];omega) _ λv2 x3 g2 t3 hv3 hx3 k3=>⟨x3,t3,hv3,o2.psame (o2.keep0 k3),?_⟩
 have kk:Kp [] 0 g g2:=(k1.trans k2).trans k3
 have hrow:rowAbs x3=rowAbs A++r:=by
  unfold rowAbs
  rw[hx3,List.map_append]
  congr 1
 rw[←hY1,←hrow] at hi' h1 h2
 exact hU m V.p0 Y1 x3 g2 _ hm hm' (by omega) tY1 t3 (ha.keep0 kk) hi' (λb m' g' e k a=>⟨b,rfl,h1 b m' g' e ((kp0 kk).trans k) a⟩) (λg' e k=>h2 g' e ((kp0 kk).trans k))
theorem askTail_ok{sem:Pt→Option (List Pt)}{Y1:Dat}{g1:Glob}(hU:UseSpec l f)(hm:m<f)(hm':m≤65536)(hf:f≤65536)(hd:UDis V)(ho:UOk V g)(ha:AskOk g V.p0 l m)(hY:rowAbs V.Y=x::r)
 (hi':InvU (DD l) ((65538-f)*2097152) ((rowsAbs V.X).filterMap (turnR sem)) r) (tY1:HasTy TT 86 Y1) (hY1:rowsAbs Y1=(rowsAbs V.X).filterMap (turnR sem)) (k2:Kp [] 0 g g1)
 (h1:∀b m' g',useU (DD l) f m ((rowsAbs V.X).filterMap (turnR sem)) r=some (b,m')→Kp [V.p0] 0 g g'→AskOk g' V.p0 l m'→Qf (.val (.d (.bool b))) g')
 (h2:∀g',useU (DD l) f m ((rowsAbs V.X).filterMap (turnR sem)) r=none→Kp [V.p0] 0 g g'→Qf tooMuch g'):
 GSame TT 131 V.pu 0 g g1∧∃x_1,HasTy TT 24 x_1∧GOk TT 24 g1 V.p5 0 x_1∧GSame TT 24 V.p5 0 g g1∧InS 1 (↑(elsOf x_1).length:Int) (elsOf x_1).length∧
  EvF TT 81 [Dat.ptr (some (V.p0,0)),Y1,Dat.sl 5 (List.drop 1 (List.take (↑(elsOf x_1).length:Int).toNat (elsOf x_1)))] g1 (KQ Qf λv g'=>∃b,v=Val.d (Dat.bool b)∧Qf (Out.val (Val.d (Dat.bool b))) g'):=by
 have o2:=ho.keep0 k2
 have hY0:=(row_cons hY).1
 refine⟨ho.psame o2,V.Y,hd.tY,gokRow o2.y,ho.ysame o2,⟨by omega,by omega,by omega⟩,?_⟩
 rw[drop_tail]
 rw[←hY1,←tail_abs hY] at hi' h1 h2
 exact hU m V.p0 Y1 _ g1 _ hm hm' (by omega) tY1 (tail_ty hd.tY) (ha.keep0 k2) hi' (λb m' g' e k a=>⟨b,rfl,h1 b m' g' e ((kp0 k2).trans k) a⟩) (λg' e k=>h2 g' e ((kp0 k2).trans k))
theorem askCons_ok{xs:Dat}{p8:Nat}(hU:UseSpec l f)(hf:f≤65536)(hd:UDis V)(hY:rowAbs V.Y=x::r)(hp8:p8≠V.p0)(hxs:HasTy TT 81 xs)(hN:∀c∈(elsOf xs).map absCn,c.fs.length≤2097152)
 (hi:InvU (DD l) ((65538-(f+1))*2097152) (rowsAbs V.X) (x::r))
 (hi':∀c∈(elsOf xs).map absCn,InvU (DD l) ((65538-f)*2097152) ((rowsAbs V.X).filterMap (turnR (semCon c.s c.fs.length))) (List.replicate c.fs.length anyP++r)) (g0:Glob) (m0:Nat) (ho:UOk V g0) (ha:AskOk g0 V.p0 l m0) (hm:m0<f) (hm':m0≤65536)
 (h8:g0.boxes[p8]?=some (.cells [.d (.clo 128 [.ptr (some (V.pu,0)),.ptr (some (V.p7,0)),.ptr (some (V.p5,0))])]))
 (h1:∀b m' g',anyU (λm c=>useU (DD l) f m ((rowsAbs V.X).filterMap (turnR (semCon c.s c.fs.length))) (List.replicate c.fs.length anyP++r)) ((elsOf xs).map absCn) m0=some (b,m')→Kp [V.p0] 0 g0 g'→AskOk g' V.p0 l m'→Qf (.val (.d (.bool b))) g')
 (h2:∀g',anyU (λm c=>useU (DD l) f m ((rowsAbs V.X).filterMap (turnR (semCon c.s c.fs.length))) (List.replicate c.fs.length anyP++r)) ((elsOf xs).map absCn) m0=none→Kp [V.p0] 0 g0 g'→Qf tooMuch g'):
 EvF TT 133 [xs,.clo 134 [.ptr (some (p8,0))]] g0 Qf:=by
 have ex:=hxs.els undCons
 have exl:=ex.1.1
 generalize hgo:(λ(m:Nat) (c:Cn)=>useU (DD l) f m ((rowsAbs V.X).filterMap (turnR (semCon c.s c.fs.length))) (List.replicate c.fs.length anyP++r))=go at h1 h2
 have hgo':∀m c,go m c=useU (DD l) f m ((rowsAbs V.X).filterMap (turnR (semCon c.s c.fs.length))) (List.replicate c.fs.length anyP++r):=λm c=>by rw[←hgo]
 refine w133 hxs (w191 hxs ?_)
 refine loopUp (len:=(elsOf xs).length) (λi=>∀(g:Glob) (m:Nat),Kp [V.p0] 0 g0 g→UOk V g→AskOk g V.p0 l m→m<f→m≤65536→g.boxes[p8]?=some (.cells [.d (.clo 128 [.ptr (some (V.pu,0)),.ptr (some (V.p7,0)),.ptr (some (V.p5,0))])])→
  anyU go (((elsOf xs).drop i).map absCn) m=anyU go ((elsOf xs).map absCn) m0→L191_2 xs 134 [.ptr (some (p8,0))] ((elsOf xs).length:Int) (i:Int) g ((KQ Qf λv g'=>∃n,v=Val.d (Dat.int IntKind.i64 n)∧Qf (Out.val (Val.d (Dat.bool (decide (0≤n))))) g'))) ?_ ?_ 0 (Nat.zero_le _) g0 m0 (Kp.refl _ _ _) ho ha hm hm' h8 rfl
 ·intro g m k o a q1 q2 q3 e
  refine w191_2 ?_
  rw[Br_ge]
  rw[List.drop_length] at e
  exact⟨_,rfl,h1 false m g e.symm k a⟩
 ·intro i hi0 ih g m k o a q1 q2 q3 e
  have tc:=ex.2 _ (List.getElem_mem hi0)
  obtain⟨f1,f2,f3,f4⟩:=con_flds tc
  have hmem:absCn (elsOf xs)[i]∈(elsOf xs).map absCn:=List.mem_map_of_mem (List.getElem_mem hi0)
  have hn:=hN _ hmem
  have hinv:=hi' _ hmem
  rw[drop_map_cons hi0] at e
  refine w191_2 ?_
  rw[Br_lt hi0,getE_nat hi0]
  refine⟨inB hi0,w134 tc ⟨_,_,undFn0 isF2 szF2 q3,?_⟩⟩
  rw[f1,f2]
  have tW:=ty_anys (n:=(absCn (elsOf xs)[i]).fs.length) (fitP (by omega))
  have hWl:(elsOf (.sl 5 (List.replicate (absCn (elsOf xs)[i]).fs.length anyPat))).length=(absCn (elsOf xs)[i]).fs.length:=by simp[elsOf]
  refine wild_ok (by omega) g _ ⟨_,tW,rfl,?_,?_⟩
  ·obtain⟨d,d1,d2⟩:=isF_und isF2
   exact gsame17 d1 szF2 d2 q3 q3
  refine askCon_ok (A:=.sl 5 (List.replicate (absCn (elsOf xs)[i]).fs.length anyPat)) hU q1 q2 hf hd o a f3 tW hY (by rw[hWl];omega) hi ?_ (λb m' g' eu ku au=>?_) (λg' eu ku=>?_)
  ·rw[hWl,rowAbs_any]
   exact hinv
  ·rw[hWl,rowAbs_any,←hgo'] at eu
   refine⟨b,rfl,b,rfl,?_⟩
   have kk:=k.trans ku
   cases b with
   |true=>
    rw[Br_true]
    refine⟨_,rfl,?_⟩
    have:decide ((0:Int)≤(i:Int))=true:=decide_eq_true (by omega)
    rw[this]
    refine h1 true m' g' ?_ kk au
    rw[←e]
    simp only[anyU,eu]
   |false=>
    rw[Br_false,wrap_nat (by omega)]
    have hle:=useU_le _ _ _ _ _ _ _ ((hgo' _ _).symm.trans eu)
    refine ih g' m' kk (o.keep hd ku) au (by omega) (by omega) (ku.at q3 (by simpa using hp8)) ?_
    rw[←e]
    simp only[anyU,eu]
  ·rw[hWl,rowAbs_any,←hgo'] at eu
   refine h2 g' ?_ (k.trans ku)
   rw[←e]
   simp only[anyU,eu]
end
end Go.Proofs.YtiheejdkkjfenaaGreatDoor.Pa
namespace Go.Proofs.YtiheejdkkjfenaaGreatDoor.Pa
open Go Go.Proofs.YtiheejdkkjfenaaGreatDoor.Am
theorem gokRows{g:Glob}{i:Nat}{x:Dat}(hb:g.boxes[i]?=some (.cells [.d x])):GOk TT 86 g i 0 x:=gokD undRows szRows rfl hb rfl
section
variable{l:Dat}{f m:Nat}{V:UEnv}{g:Glob}{x:Pt}{r:List Pt}{Qf:OGP}
theorem wilds_ok{p8:Nat}(hl:HasTy TT 22 l)(hF:FewF (DD l) 2097152)(hU:UseSpec l f)(hm:m<f)(hm':m≤65536)(hf:f≤65536)(hd:UDis V)(ho:UOk V g)(ha:AskOk g V.p0 l m)(hY:rowAbs V.Y=x::r)(hp8:p8≠V.p0)
 (h8:g.boxes[p8]?=some (.cells [.d (.clo 128 [.ptr (some (V.pu,0)),.ptr (some (V.p7,0)),.ptr (some (V.p5,0))])])) (hi:InvU (DD l) ((65538-(f+1))*2097152) (rowsAbs V.X) (x::r)) (k4:(kPt x==4)=false) (k3:(kPt x==3)=false)
 (h1:∀b m' g',useU (DD l) (f+1) (m+1) (rowsAbs V.X) (x::r)=some (b,m')→Kp [V.p0] 0 g g'→AskOk g' V.p0 l m'→Qf (.val (.d (.bool b))) g')
 (h2:∀g',useU (DD l) (f+1) (m+1) (rowsAbs V.X) (x::r)=none→Kp [V.p0] 0 g g'→Qf tooMuch g'):
 L81_13 V.pu V.p4 V.p5 V.p7 p8 g Qf:=by
 have hB:(65538-(f+1))*2097152≤2^38:=by omega
 have hBf:(65538-(f+1))*2097152+2097152=(65538-f)*2097152:=by omega
 have hro:=hi.rowsOk hB
 have hu:useU (DD l) (f+1) (m+1) (rowsAbs V.X) (x::r)=match wholeF (DD l) (rowsAbs V.X) with
  |none=>useU (DD l) f m ((rowsAbs V.X).filterMap (turnR semWild)) r
  |some cs=>anyU (λm c=>useU (DD l) f m ((rowsAbs V.X).filterMap (turnR (semCon c.s c.fs.length))) (List.replicate c.fs.length anyP++r)) cs m:=by
  conv=>lhs;unfold useU
  simp only[k4,k3,Bool.false_eq_true,if_false]
  cases wholeF (DD l) (rowsAbs V.X)<;>rfl
 rw[hu] at h1 h2
 refine w81_13 ⟨V.p0,0,ho.ptr,V.X,hd.tX,gokRows ho.x,?_⟩
 refine all_ok hl hd.tX ha (λq hq=>(hro q hq).1) (λq hq=>hi.rows q hq) _ λxs g1 tx kx b hb1 hb0 us hus=>⟨xs,tx,b,hus,?_⟩
 have o1:=ho.keep0 kx
 have a1:=ha.keep0 kx
 cases b with
 |true=>
  have hw:=hb1 rfl
  rw[hw] at h1 h2
  rw[Br_true]
  have hcs:∃s,(elsOf xs).map absCn=consOf (DD l) s:=by
   unfold wholeF at hw
   split at hw
   ·cases hw
   ·rename_i s hs
    split at hw
    ·exact⟨s,(Option.some.inj hw).symm⟩
    ·cases hw
  obtain⟨s,hcs⟩:=hcs
  refine askCons_ok hU hf hd hY hp8 tx (λc hc=>?_) hi (λc hc=>?_) g1 m o1 a1 hm hm' (kx.at h8 (by simp)) (λb m' g' e k a=>⟨b,rfl,h1 b m' g' e ((kp0 kx).trans k) a⟩) (λg' e k=>h2 g' e ((kp0 kx).trans k))
  ·rw[hcs] at hc
   obtain⟨d,d1,d2⟩:=consOf_mem hc
   exact hF d d1 c d2
  ·rw[hcs] at hc
   rw[←hBf]
   exact hi.cons hF hc
 |false=>
  have hw:=hb0 rfl
  rw[hw] at h1 h2
  rw[Br_false]
  refine⟨V.p0,0,o1.ptr,_,_,o1.sp,?_⟩
  refine special_ok hd.tX o1.x (parts_wild g1) hro (λy k hk=>?_) _ λv Y1 g2 tY1 hv hY1 k2=>⟨Y1,tY1,hv,?_⟩
  ·have:=(semWild_ok (D:=[]) y k hk).1;omega
  refine askTail_ok hU hm hm' hf hd o1 a1 hY ?_ tY1 hY1 k2 (λb m' g' e k a=>h1 b m' g' e ((kp0 kx).trans k) a) (λg' e k=>h2 g' e ((kp0 kx).trans k))
  rw[←hBf]
  exact hi.wild
theorem nine_ok{p8 p9:Nat}{y:Dat}(hl:HasTy TT 22 l)(hF:FewF (DD l) 2097152)(hU:UseSpec l f)(hm:m<f)(hm':m≤65536)(hf:f≤65536)(hd:UDis V)(ho:UOk V g)(ha:AskOk g V.p0 l m)(hY:rowAbs V.Y=absPt y::r)(hp8:p8≠V.p0)(hp9:p9≠V.p0)
 (ty:HasTy TT 52 y)
 (h8:g.boxes[p8]?=some (.cells [.d (.clo 128 [.ptr (some (V.pu,0)),.ptr (some (V.p7,0)),.ptr (some (V.p5,0))])])) (h9:g.boxes[p9]?=some (.cells (y.cells.map .d))) (hi:InvU (DD l) ((65538-(f+1))*2097152) (rowsAbs V.X) (absPt y::r))
 (h1:∀b m' g',useU (DD l) (f+1) (m+1) (rowsAbs V.X) (absPt y::r)=some (b,m')→Kp [V.p0] 0 g g'→AskOk g' V.p0 l m'→Qf (.val (.d (.bool b))) g')
 (h2:∀g',useU (DD l) (f+1) (m+1) (rowsAbs V.X) (absPt y::r)=none→Kp [V.p0] 0 g g'→Qf tooMuch g'):
 L81_9 V.pu V.p4 V.p5 V.p7 p8 p9 (kPt (absPt y)) g Qf:=by
 have hB:(65538-(f+1))*2097152≤2^38:=by omega
 have hBf:(65538-(f+1))*2097152+2097152=(65538-f)*2097152:=by omega
 have hro:=hi.rowsOk hB
 obtain⟨k1,s1,n1,a1,q1,rfl,hs1,t1⟩:=pat_ty ty
 have hab:absPt (.agg [.int .i64 k1,.str s1,.int .i64 n1,a1,.int .i64 q1])=.mk k1 s1 n1 (rowAbs a1) q1:=by unfold rowAbs;rw[←absPtA_map];rfl
 rw[hab] at hY hi h1 h2⊢
 have e1:=t1.els undPats
 have hxo:=hi.row _ (List.mem_cons_self ..)
 have hl1:(rowAbs a1).length=(elsOf a1).length:=List.length_map _
 refine w81_9 ?_
 refine Br_iff.2 ⟨λq=>?_,λq=>Br_iff.2 ⟨λq2=>?_,λq2=>wilds_ok hl hF hU hm hm' hf hd ho ha hY hp8 h8 hi q q2 h1 h2⟩⟩
 ·have hu:useU (DD l) (f+1) (m+1) (rowsAbs V.X) (.mk k1 s1 n1 (rowAbs a1) q1::r)=useU (DD l) f m ((rowsAbs V.X).filterMap (turnR (semCon s1 (elsOf a1).length))) (rowAbs a1++r):=by
   conv=>lhs;unfold useU
   rw[if_pos q,←hl1]
   rfl
  rw[hu] at h1 h2
  have hfl:=(okP_con hxo q).2
  have hfl':nFields (DD l) s1=(rowAbs a1).length:=hfl
  refine⟨_,_,undFn0 isF2 szF2 h8,s1,by show s1.length≤1099511627776;omega,gokD undStr szStr rfl h9 rfl,a1,t1,gokD undPats szRow rfl h9 rfl,?_⟩
  refine askCon_ok hU hm hm' hf hd ho ha hs1 t1 hY ?_ hi ?_ (λb m' g' e k a=>⟨b,rfl,h1 b m' g' e k a⟩) (λg' e k=>h2 g' e k)
  ·have:=nFields_le hF s1
   omega
  ·rw[←hBf,←hl1]
   exact hi.con hF q
 ·have hu:useU (DD l) (f+1) (m+1) (rowsAbs V.X) (.mk k1 s1 n1 (rowAbs a1) q1::r)=useU (DD l) f m ((rowsAbs V.X).filterMap (turnR (semInt n1))) r:=by
   conv=>lhs;unfold useU
   rw[if_neg (by have q:(k1==4)=false:=q;show ¬(k1==4)=true;rw[q];simp),if_pos q2]
   rfl
  rw[hu] at h1 h2
  refine⟨V.p0,0,ho.ptr,_,_,ho.sp,?_⟩
  refine special_ok hd.tX ho.x (parts_int h9) hro (λy k hk=>?_) _ λv Y1 g2 tY1 hv hY1 k2=>⟨Y1,tY1,hv,?_⟩
  ·have:=(semInt_ok (D:=[]) y k hk).1;omega
  refine askTail_ok hU hm hm' hf hd ho ha hY ?_ tY1 hY1 k2 h1 h2
  rw[←hBf]
  exact hi.int
end
theorem use_ok{l:Dat}(hl:HasTy TT 22 l)(hF:FewF (DD l) 2097152):∀f,UseSpec l f
 |0=>λm _ _ _ _ _ h=>by omega
 |f+1=>by
  intro m p0 X Y g Qf hm hm' hf tX tY ha hi h1 h2
  have hU:=use_ok hl hF f
  have hp0:=(List.getElem?_eq_some_iff.1 ha).1
  -- the boxes of the arguments
  have kA:Kp [] 0 g (gnew (gnew (gnew g [Dat.ptr (some (p0,0))]) [X]) [Y]):=((kp_gnew g _ 0).trans (kp_gnew _ _ 0)).trans (kp_gnew _ _ 0)
  have l1:(gnew g [Dat.ptr (some (p0,0))]).boxes.length=g.boxes.length+1:=gnew_len _ _
  have l2:(gnew (gnew g [Dat.ptr (some (p0,0))]) [X]).boxes.length=g.boxes.length+2:=by rw[gnew_len,gnew_len]
  have l3:(gnew (gnew (gnew g [Dat.ptr (some (p0,0))]) [X]) [Y]).boxes.length=g.boxes.length+3:=by rw[gnew_len,gnew_len,gnew_len]
  have b3:(gnew (gnew (gnew g [Dat.ptr (some (p0,0))]) [X]) [Y]).boxes[g.boxes.length]?=some (.cells [.d (.ptr (some (p0,0)))]):=by
   rw[gnew_old _ (by omega),gnew_old _ (by omega)];exact gnew_get _ _
  have b4:(gnew (gnew (gnew g [Dat.ptr (some (p0,0))]) [X]) [Y]).boxes[(gnew g [Dat.ptr (some (p0,0))]).boxes.length]?=some (.cells [.d X]):=by
   rw[gnew_old _ (by omega)];exact gnew_get _ _
  have b5:(gnew (gnew (gnew g [Dat.ptr (some (p0,0))]) [X]) [Y]).boxes[(gnew (gnew g [Dat.ptr (some (p0,0))]) [X]).boxes.length]?=some (.cells [.d Y]):=gnew_get _ _
  have aA:=ha.keep0 kA
  generalize hG:gnew (gnew (gnew g [Dat.ptr (some (p0,0))]) [X]) [Y]=GA at*
  refine w81 tX tY ?_
  rw[hG]
  refine⟨p0,0,gokD undAsk szAsk rfl b3 rfl,add_ok aA (by omega) _ ⟨_,rfl,?_⟩⟩
  -- a step more
  have oB:OneBox p0 GA ⟨GA.boxes.set p0 (.cells [.d l,.d (.int .i64 ((65536-m+1:Nat):Int))]),GA.toks⟩:=⟨_,rfl⟩
  have kB:=boxKp oB 0
  have aB:(⟨GA.boxes.set p0 (.cells [.d l,.d (.int .i64 ((65536-m+1:Nat):Int))]),GA.toks⟩:Glob).boxes[p0]?=some (.cells [.d l,.d (.int .i64 ((65536-m+1:Nat):Int))]):=by
   show(GA.boxes.set p0 _)[p0]?=_
   rw[List.getElem?_set_self (by omega)]
  generalize hGB:(⟨GA.boxes.set p0 (.cells [.d l,.d (.int .i64 ((65536-m+1:Nat):Int))]),GA.toks⟩:Glob)=GB at*
  have kAB:Kp [p0] 0 g GB:=(kp0 kA).trans kB
  have lB:GB.boxes.length=g.boxes.length+3:=by rw[←hGB];simp[l3]
  have ne:∀j,g.boxes.length≤j→j ∉ [p0]:=λj hj=>by simp;omega
  have c3:=kB.at b3 (ne _ (Nat.le_refl _))
  have c4:=kB.at b4 (ne _ (by omega))
  have c5:=kB.at b5 (ne _ (by omega))
  have tm:Out.panic (Dat.iface 130 (Dat.agg []))=tooMuch:=rfl
  cases m with
  |zero=>
   rw[show decide ((65536:Int)<((65536-0+1:Nat):Int))=true from rfl,Br_true,tm]
   exact h2 GB rfl kAB
  |succ m=>
   have hlt:decide ((65536:Int)<((65536-(m+1)+1:Nat):Int))=false:=decide_eq_false (by omega)
   rw[hlt,Br_false]
   have aB':AskOk GB p0 l m:=by
    unfold AskOk
    rw[aB,show 65536-(m+1)+1=65536-m by omega]
   refine⟨Y,tY,gokRow c5,?_⟩
   have hYl:(rowAbs Y).length=(elsOf Y).length:=List.length_map _
   refine Br_iff.2 ⟨λq=>?_,λq=>?_⟩
   ·have hq0:((elsOf Y).length:Int)=0:=by simpa using q
    have h0:rowAbs Y=[]:=List.eq_nil_of_length_eq_zero (by omega)
    refine⟨X,tX,gokRows c4,?_⟩
    have hXl:(((elsOf X).length:Int)==0)=(rowsAbs X).isEmpty:=by
     have:(rowsAbs X).length=(elsOf X).length:=List.length_map _
     rw[←this]
     cases rowsAbs X with
     |nil=>rfl
     |cons a b=>exact decide_eq_false (by simp;omega)
    rw[hXl]
    rw[h0] at h1
    exact h1 _ m GB rfl kAB aB'
   ·have hY0:0<(elsOf Y).length:=by
     have:((elsOf Y).length:Int)≠0:=by simpa using q
     omega
    have hrow:rowAbs Y=absPt (elsOf Y)[0]::(elsOf Y).tail.map absPt:=map_hd hY0
    have ty0:=(tY.els undPats).2 _ (List.getElem_mem hY0)
    obtain⟨z1,z2⟩:=gput_new1 (g:=GB) (z:=.nilFn) (x:=.clo 126 [.ptr (some ((gnew g [Dat.ptr (some (p0,0))]).boxes.length,0))]) rfl
    refine w81_5 ⟨z1,?_⟩
    rw[z2]
    have k5:=kp_gnew GB [.clo 126 [.ptr (some ((gnew g [Dat.ptr (some (p0,0))]).boxes.length,0))]] 0
    have d7:=gnew_get GB [.clo 126 [.ptr (some ((gnew g [Dat.ptr (some (p0,0))]).boxes.length,0))]]
    have l5:=gnew_len GB [.clo 126 [.ptr (some ((gnew g [Dat.ptr (some (p0,0))]).boxes.length,0))]]
    generalize gnew GB [.clo 126 [.ptr (some ((gnew g [Dat.ptr (some (p0,0))]).boxes.length,0))]]=G5 at*
    obtain⟨z3,z4⟩:=gput_new1 (g:=G5) (z:=.nilFn) (x:=.clo 128 [.ptr (some (g.boxes.length,0)),.ptr (some (GB.boxes.length,0)),.ptr (some ((gnew (gnew g [Dat.ptr (some (p0,0))]) [X]).boxes.length,0))]) rfl
    refine w81_6 ⟨z3,?_⟩
    rw[z4]
    have k6:=kp_gnew G5 [.clo 128 [.ptr (some (g.boxes.length,0)),.ptr (some (GB.boxes.length,0)),.ptr (some ((gnew (gnew g [Dat.ptr (some (p0,0))]) [X]).boxes.length,0))]] 0
    have d8:=gnew_get G5 [.clo 128 [.ptr (some (g.boxes.length,0)),.ptr (some (GB.boxes.length,0)),.ptr (some ((gnew (gnew g [Dat.ptr (some (p0,0))]) [X]).boxes.length,0))]]
    have l6:=gnew_len G5 [.clo 128 [.ptr (some (g.boxes.length,0)),.ptr (some (GB.boxes.length,0)),.ptr (some ((gnew (gnew g [Dat.ptr (some (p0,0))]) [X]).boxes.length,0))]]
    generalize gnew G5 [.clo 128 [.ptr (some (g.boxes.length,0)),.ptr (some (GB.boxes.length,0)),.ptr (some ((gnew (gnew g [Dat.ptr (some (p0,0))]) [X]).boxes.length,0))]]=G6 at*
    have e5:=(k5.trans k6).at c5 (by simp)
    have hg0:getE (elsOf Y) 0=(elsOf Y)[0]:=getE_nat (i:=0) hY0
    have hcells:(elsOf Y)[0].cells.length=5:=by
     obtain⟨a1,a2,a3,a4,a5,e,_⟩:=pat_ty ty0
     rw[e];rfl
    have hagg:.agg (elsOf Y)[0].cells=(elsOf Y)[0]:=by
     obtain⟨a1,a2,a3,a4,a5,e,_⟩:=pat_ty ty0
     rw[e];rfl
    obtain⟨z5,z6⟩:=gput_new (g:=G6) (z:=[Dat.int IntKind.i64 0,Dat.str [],Dat.int IntKind.i64 0,Dat.nil,Dat.int IntKind.i64 0]) (ds:=(elsOf Y)[0].cells) (n:=5) rfl hcells
    rw[hagg] at z6
    refine w81_7 ⟨Y,tY,gokRow e5,⟨by simp,by omega⟩,z5,?_⟩
    rw[hg0,z6]
    have k7:=kp_gnew G6 (elsOf Y)[0].cells 0
    have d9:=gnew_get G6 (elsOf Y)[0].cells
    generalize gnew G6 (elsOf Y)[0].cells=G7 at*
    have kBC:Kp [] 0 GB G7:=(k5.trans k6).trans k7
    have hk0:GOk TT 3 G7 G6.boxes.length 0 (.int .i64 (kPt (absPt (elsOf Y)[0]))):=by
     obtain⟨a1,a2,a3,a4,a5,e,_⟩:=pat_ty ty0
     rw[e] at d9⊢
     exact gokD undInt szInt17 rfl d9 rfl
    refine w81_8 ⟨_,hk0,?_⟩
    rw[hrow] at hi h1 h2
    exact nine_ok (V:=⟨p0,g.boxes.length,(gnew g [Dat.ptr (some (p0,0))]).boxes.length,(gnew (gnew g [Dat.ptr (some (p0,0))]) [X]).boxes.length,GB.boxes.length,X,Y⟩) hl hF hU (m:=m) (by omega) (by omega) (by omega)
     ⟨by show g.boxes.length≠p0;omega,by show(gnew g [Dat.ptr (some (p0,0))]).boxes.length≠p0;omega,by show(gnew (gnew g [Dat.ptr (some (p0,0))]) [X]).boxes.length≠p0;omega,by show GB.boxes.length≠p0;omega,tX,tY⟩
     ⟨kBC.at c3 (by simp),kBC.at c4 (by simp),kBC.at c5 (by simp),(k6.trans k7).at d7 (by simp)⟩ (aB'.keep0 kBC) hrow (by show G5.boxes.length≠p0;omega) (by show G6.boxes.length≠p0;omega) ty0 (k7.at d8 (by simp)) d9 hi
     (λb m' g' e k a=>h1 b m' g' e ((kAB.trans (kp0 kBC)).trans k) a) (λg' e k=>h2 g' e ((kAB.trans (kp0 kBC)).trans k))
end Go.Proofs.YtiheejdkkjfenaaGreatDoor.Pa
