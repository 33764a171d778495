/- CopyExprs by hand: the copy lies in new memory, each part for itself. -/
import Derived.Test.YtgmapdcdmomioaaGreatDoorSN
import Derived.Test.YtgmapdcdmomioaaGreatDoorSO
import Derived.Test.YtgmapdcdmomioaaGreatDoorSM
set_option linter.all false
set_option autoImplicit false
set_option maxHeartbeats 4000000
set_option maxRecDepth 100000
namespace Go.Proofs.YtgmapdcdmomioaaGreatDoor.Pa
open Go Go.Proofs.YtgmapdcdmomioaaGreatDoor.Am Go.Proofs.YtgmapdcdmomioaaGreatDoor.Hw Go.RowKit
def cxT(B:Nat)(va vb:Value)(i:Nat):Value:=([.pointer (some ⟨B,4,none⟩),va,undef,.pointer (some ⟨B,5,none⟩),vb,undef,.pointer (some ⟨B,4,none⟩)]:List Value).getD i undef
structure CxJ(W0:World)(B:Nat)(va vb:Value)(a:List Ex')(q:List Pt)(vo:Nat→Option Value)(w:World):Prop where
 bel:Below W0.heap.size W0 w
 told:∀i u,vo i=some u→i≠2→i≠5→u=cxT B va vb i
 r2:∀u,vo 2=some u→∃F,AM w a F u∧∀x∈F,W0.heap.size≤x
 r5:∀v,vo 5=some v→∃u F1 F2,vo 2=some u∧AM w a F1 u∧PtM w (.mk 0 [] 0 q 0) F2 v∧Apart F1 F2∧(∀x∈F1,W0.heap.size≤x)∧∀x∈F2,W0.heap.size≤x
section
variable{W0 w w':World}{B:Nat}{va vb:Value}{a:List Ex'}{q:List Pt}{vo:Nat→Option Value}{v:Value}{i:Nat}
theorem CxJ.start:CxJ W0 B va vb a q (λ_=>none) W0:=⟨Below.refl _ _,λi u h=>(by cases h),λu h=>(by cases h),λu h=>(by cases h)⟩
theorem upd_ne{k:Nat}(h:k≠i):(λk=>if k=i then some v else vo k) k=vo k:=if_neg h
theorem CxJ.put(h:CxJ W0 B va vb a q vo w)(h2:i≠2)(h5:i≠5)(hv:v=cxT B va vb i):CxJ W0 B va vb a q (λk=>if k=i then some v else vo k) w:=by
 refine⟨h.bel,λk u hk k2 k5=>?_,λu hu=>h.r2 u ((upd_ne (Ne.symm h2)).symm.trans hu),λu hu=>?_⟩
 ·by_cases e:k=i
  ·have hk:(if k=i then some v else vo k)=some u:=hk
   rw[if_pos e] at hk
   injection hk with hk
   rw[←hk,hv,e]
  ·exact h.told k u ((upd_ne e).symm.trans hk) k2 k5
 ·obtain⟨x,F1,F2,e,r⟩:=h.r5 u ((upd_ne (Ne.symm h5)).symm.trans hu)
  exact⟨x,F1,F2,(upd_ne (Ne.symm h2)).trans e,r⟩
theorem CxJ.c2(h:CxJ W0 B va vb a q vo w)(h5:vo 5=none)(hb:Below w.heap.size w w'){F:List Nat}{u:Value}(hF:AM w' a F u)(hf:∀x∈F,w.heap.size≤x):CxJ W0 B va vb a q (λk=>if k=2 then some u else vo k) w':=by
 refine⟨h.bel.trans (hb.mono h.bel.size),λk x hk k2 k5=>h.told k x ((upd_ne k2).symm.trans hk) k2 k5,λx hx=>?_,λx hx=>?_⟩
 ·have hx:some u=some x:=hx
  injection hx with hx
  subst hx
  exact⟨F,hF,λy hy=>Nat.le_trans h.bel.size (hf y hy)⟩
 ·have hx:vo 5=some x:=(upd_ne (by decide)).symm.trans hx
  rw[h5] at hx
  cases hx
theorem CxJ.c5(h:CxJ W0 B va vb a q vo w){u:Value}(h2:vo 2=some u)(hb:Below w.heap.size w w'){F:List Nat}{x:Value}(hF:PtM w' (.mk 0 [] 0 q 0) F x)(hf:∀x∈F,w.heap.size≤x):CxJ W0 B va vb a q (λk=>if k=5 then some x else vo k) w':=by
 obtain⟨F1,hA,hg⟩:=h.r2 u h2
 have hA':=AM.kept (λy hy=>hb.block y (hA.lt y hy)) hA
 refine⟨h.bel.trans (hb.mono h.bel.size),λk y hk k2 k5=>h.told k y ((upd_ne k5).symm.trans hk) k2 k5,λy hy=>?_,λy hy=>?_⟩
 ·have hy:vo 2=some y:=(upd_ne (by decide)).symm.trans hy
  rw[h2] at hy
  cases hy
  exact⟨F1,hA',hg⟩
 ·have hy:some x=some y:=hy
  injection hy with hy
  subst hy
  exact⟨u,F1,F,(upd_ne (by decide)).trans h2,hA',hF,λz hz hn=>by have:=hA.lt z hz;have:=hf z hn;omega,hg,λz hz=>Nat.le_trans h.bel.size (hf z hz)⟩
end
def CopyExprsAt(w0:World)(d:Dat)(v:Value):Prop:=∀w:World,Below w0.heap.size w0 w→Calls Tryz.prog 41 #[v] w λe w'=>∃v' F,e=.returned v'∧Below w.heap.size w w'∧AM w' (rowE d) F v'∧∀b∈F,w.heap.size≤b
theorem copyExprs_step(w0:World)(d:Dat)(v:Value)(hd:HasTy TT 24 d)(h:Rep (startE w0.heap.size) w0 d v)(ih:∀a va,SizeOf.sizeOf a<SizeOf.sizeOf d→HasTy TT 24 a→Rep (startE w0.heap.size) w0 a va→CopyExprsAt w0 a va):CopyExprsAt w0 d v:=by
 intro w hw
 obtain⟨ab,c,rfl,hl,hel⟩:=exprs_open hd h
 obtain⟨i1,hi1,hz1,hs1,hy1⟩:=info_parts infoEx
 have HE:=Lib.hid hel
 have HI:=Lib.hid ih
 have HW:=Lib.hid hw
 obtain⟨L,hL⟩:∃L,L=(elsOf d).length:=⟨_,rfl⟩
 have hby:L*104≤2^46:=by rw[hL];exact(hd.els undExprs).1.2 104 byExpr
 rw[←hL]
 rw[←hL] at hl
 have HL:=Lib.hid hL
 clear hel ih hw hL
 go_enter Tryz.func41,Tryz.ntmps41
 go_wp2_with fail
 go_loopg [3,4] L (λg x3 x4 wr=>∃(j:Nat) (u:Value) (ys:List Value) (F:List Nat),j+g=L∧x3=u∧x4=.int .i64 j∧Hid (Below w.heap.size w wr)∧Hid (wr.ownsRow w.heap.size 27 7 u j ys)∧Hid (EsM wr ((rowE d).take j) F ys)∧Hid (∀b∈F,w.heap.size≤b∧u.ownBlock≠some b))
 case atStart=>exact⟨0,_,[],[],by omega,rfl,rfl,Lib.hid (Below.refl _ _),Lib.hid (World.ownsRow_nil _ _ _ _),Lib.hid (by rw[List.take_zero,EsM];exact⟨rfl,rfl⟩),Lib.hid (λb hb=>by cases hb)⟩
 case round=>
  obtain⟨j,u,ys,F,hj,rfl,rfl,hB,hO,hP,hF⟩:=hrel
  obtain⟨ub,uc,rfl⟩:=ownsRow_slice hO.out
  by_cases hlt:j<L
  ·obtain⟨b,o,k,s,r,m,a,q,p,va,vb,rfl,hbn,he,ta,tq,ra,rq,hc⟩:=HE.out j (by have:=HL.out;omega)
   obtain⟨sa,sca,rfl,hsa,_⟩:=exprs_open ta ra
   obtain⟨sb,scb,rfl,hsb,_⟩:=pats_open tq rq
   have hw':Below w0.heap.size w0 wr:=HW.out.trans (hB.out.mono HW.out.size)
   have hcell:∀(z:Nat) x,(exCells k s r m (.slice sa (elsOf a).length sca) (.slice sb (elsOf q).length scb) p)[z]?=some x→wr.cell? ⟨b,o+j*7+z,none⟩=some x:=λz x hx=>(hw'.cell (p:=⟨b,o+j*7+z,none⟩) hbn).trans (hc z x hx)
   have c0:=hcell 0 _ rfl
   have c1:=hcell 1 _ rfl
   have c2:=hcell 2 _ rfl
   have c3:=hcell 3 _ rfl
   have c4:=hcell 4 _ rfl
   have c5:=hcell 5 _ rfl
   have c6:=hcell 6 _ rfl
   simp only[Nat.add_zero] at c0
   clear hcell hc
   obtain⟨SA,hSA⟩:∃n,n=(elsOf a).length:=⟨_,rfl⟩
   obtain⟨SB,hSB⟩:∃n,n=(elsOf q).length:=⟨_,rfl⟩
   rw[←hSA] at c4 hsa
   rw[←hSB] at c5 hsb
   have hsz:=sizeOf_el (y:=d) (i:=j) (by have:=HL.out;omega)
   have hca:=sizeOf_cell (cs:=[.int .i64 k,.str s,.str r,.int .i64 m,a,q,.int .i64 p]) (c:=a) (by simp)
   rw[he] at hsz
   have hCE:=Lib.hid (HI.out a _ (by omega) ta ra)
   have hCP:=Lib.hid (copyPats_hw w0 _ q _ (Nat.lt_succ_self _) tq rq)
   rw[←hSA] at hCE
   rw[←hSB] at hCP
   have HHw:=Lib.hid hw'
   clear hsz hca hSA hSB
   obtain⟨W0,hW0⟩:∃W0,(wr.alloc (.cells #[.int .i64 k,.string ⟨s.toArray⟩,.string ⟨r.toArray⟩,.int .i64 m,.slice sa SA sca,.slice sb SB scb,.int .i64 p] 27)).drew=W0:=⟨_,rfl⟩
   have HB0:Hid (BoxAt wr.heap.size W0 (exCells k s r m (.slice sa SA sca) (.slice sb SB scb) p)):=Lib.hid (by rw[←hW0];exact(BoxAt.new wr (exCells k s r m (.slice sa SA sca) (.slice sb SB scb) p) 27).later (Below.refl _ _).drew)
   have HZ0:Hid (∀z,W0.frozen? ⟨wr.heap.size,z,none⟩=false):=Lib.hid (λz=>by rw[←hW0];exact frozen_cells (w:=(wr.alloc (.cells #[.int .i64 k,.string ⟨s.toArray⟩,.string ⟨r.toArray⟩,.int .i64 m,.slice sa SA sca,.slice sb SB scb,.int .i64 p] 27)).drew) (arr:=#[.int .i64 k,.string ⟨s.toArray⟩,.string ⟨r.toArray⟩,.int .i64 m,.slice sa SA sca,.slice sb SB scb,.int .i64 p]) (t:=27) (heap_alloc_new _ _) z)
   have HR0:Hid (Below wr.heap.size wr W0):=Lib.hid (by rw[←hW0];exact(below_box _ _).drew)
   have HS0:Hid (W0.heap.size=wr.heap.size+1):=Lib.hid (by rw[←hW0];simp)
   go_upto_region 6 with fail
   refine wp_region_va [7,8,9] (CxJ W0 wr.heap.size (.slice sa SA sca) (.slice sb SB scb) (rowE a) (rowP q)) (by kernel_rfl) (by kernel_rfl) (by rw[hW0];exact CxJ.start) (by kernel_rfl) ?_ ?_
   ·refine⟨?_,?_,?_,?_,?_,?_,?_,?_,?_,?_,trivial⟩
    all_goals (first|(rw[if_pos (by decide)];trivial)|rw[if_neg (by decide)])
    ·intro a' wx vo hJ hn hold hpre K hK
     have h7:=hold 5 (by decide)
     have HK:=Lib.hid (hK _ _ (hJ.put (i:=0) (by decide) (by decide) (v:=.pointer (some ⟨wr.heap.size,4,none⟩)) rfl))
     simp[Act.eval] at h7
     clear hold hpre hK hJ hn
     go_simp
     exact HK.out
    ·intro a' wx vo hJ hn hold hpre K hK
     have e0:a'.eval (.tmp 16)=.pointer (some ⟨wr.heap.size,4,none⟩):=hJ.told 0 _ ((hpre 0 _ rfl (by kernel_rfl)).2 16 rfl) (by decide) (by decide)
     have hc:=(HB0.out.later hJ.bel).2 4 _ rfl
     have HK:=Lib.hid (hK _ _ (hJ.put (i:=1) (by decide) (by decide) (v:=.slice sa SA sca) rfl))
     simp[Act.eval] at e0
     clear hold hpre hK hJ hn
     go_simp
     exact HK.out
    ·intro a' wx vo hJ hn hold hpre K hK
     have e0:a'.eval (.tmp 17)=.slice sa SA sca:=hJ.told 1 _ ((hpre 1 _ rfl (by kernel_rfl)).2 17 rfl) (by decide) (by decide)
     have h5:vo 5=none:=by
      cases h:vo 5 with
      |none=>rfl
      |some x=>
       obtain⟨_,_,_,h2,_⟩:=hJ.r5 x h
       rw[hn] at h2
       cases h2
     have HJ:=Lib.hid hJ
     have HK:=Lib.hid hK
     have hbx:Below w0.heap.size w0 wx:=HHw.out.trans ((HR0.out.trans (hJ.bel.mono HR0.out.size)).mono HHw.out.size)
     have HC:=Lib.hid (hCE.out wx hbx)
     simp[Act.eval] at e0
     clear hold hpre hK hJ hn hbx
     go_simp
     refine HC.out.mono ?_
     rintro e w5 ⟨v5,F5,rfl,hb5,hp5,hf5⟩
     exact HK.out _ _ (HJ.out.c2 h5 hb5 hp5 hf5)
    ·intro a' wx vo hJ hn hold hpre K hK
     have h7:=hold 5 (by decide)
     have HK:=Lib.hid (hK _ _ (hJ.put (i:=3) (by decide) (by decide) (v:=.pointer (some ⟨wr.heap.size,5,none⟩)) rfl))
     simp[Act.eval] at h7
     clear hold hpre hK hJ hn
     go_simp
     exact HK.out
    ·intro a' wx vo hJ hn hold hpre K hK
     have e0:a'.eval (.tmp 19)=.pointer (some ⟨wr.heap.size,5,none⟩):=hJ.told 3 _ ((hpre 3 _ rfl (by kernel_rfl)).2 19 rfl) (by decide) (by decide)
     have hc:=(HB0.out.later hJ.bel).2 5 _ rfl
     have HK:=Lib.hid (hK _ _ (hJ.put (i:=4) (by decide) (by decide) (v:=.slice sb SB scb) rfl))
     simp[Act.eval] at e0
     clear hold hpre hK hJ hn
     go_simp
     exact HK.out
    ·intro a' wx vo hJ hn hold hpre K hK
     have e0:a'.eval (.tmp 20)=.slice sb SB scb:=hJ.told 4 _ ((hpre 4 _ rfl (by kernel_rfl)).2 20 rfl) (by decide) (by decide)
     have h2:=(hpre 2 _ rfl (by kernel_rfl)).2 18 rfl
     have HJ:=Lib.hid hJ
     have HK:=Lib.hid hK
     have H2:=Lib.hid h2
     have hbx:Below w0.heap.size w0 wx:=HHw.out.trans ((HR0.out.trans (hJ.bel.mono HR0.out.size)).mono HHw.out.size)
     have HC:=Lib.hid (hCP.out wx hbx)
     simp[Act.eval] at e0
     clear hold hpre hK hJ hn hbx h2
     go_simp
     refine HC.out.mono ?_
     rintro e w5 ⟨v5,F5,rfl,hb5,hp5,hf5⟩
     exact HK.out _ _ (HJ.out.c5 H2.out hb5 hp5 hf5)
    ·intro a' wx vo hJ hn hold hpre K hK
     have h7:=hold 5 (by decide)
     have HK:=Lib.hid (hK _ _ (hJ.put (i:=6) (by decide) (by decide) (v:=.pointer (some ⟨wr.heap.size,4,none⟩)) rfl))
     simp[Act.eval] at h7
     clear hold hpre hK hJ hn
     go_simp
     exact HK.out
   ·intro vals w5 vo hv hJ
    have e0:=hJ.told 0 _ (hv 0 (by decide) (by decide)) (by decide) (by decide)
    have e1:=hJ.told 1 _ (hv 1 (by decide) (by decide)) (by decide) (by decide)
    have e3:=hJ.told 3 _ (hv 3 (by decide) (by decide)) (by decide) (by decide)
    have e4:=hJ.told 4 _ (hv 4 (by decide) (by decide)) (by decide) (by decide)
    have e6:vals 6=.pointer (some ⟨wr.heap.size,4,none⟩):=hJ.told 6 _ (hv 6 (by decide) (by decide)) (by decide) (by decide)
    obtain⟨u5,F1,F2,h2,hp1,hp2,hA,hf1,hf2⟩:=hJ.r5 _ (hv 5 (by decide) (by decide))
    have e2:vals 2=u5:=by have:=hv 2 (by decide) (by decide);rw[h2] at this;injection this with this;exact this.symm
    obtain⟨v5,e5⟩:∃v5,vals 5=v5:=⟨_,rfl⟩
    rw[e5] at hp2
    obtain⟨ab5,ac5,rfl⟩:=hp1.slice
    obtain⟨pb5,pn5,pc5,rfl⟩:=ptM_slice hp2
    have hbx:=HB0.out.later hJ.bel
    have d0:=hbx.2 0 _ rfl
    have d1:=hbx.2 1 _ rfl
    have d2:=hbx.2 2 _ rfl
    have d3:=hbx.2 3 _ rfl
    have d4:=hbx.2 4 _ rfl
    have d5:=hbx.2 5 _ rfl
    have d6:=hbx.2 6 _ rfl
    have z4:=frozen_below hJ.bel (by rw[HS0.out];omega) (HZ0.out 4)
    have z5:=frozen_below hJ.bel (by rw[HS0.out];omega) (HZ0.out 5)
    have HB5:=Lib.hid hJ.bel
    have HP1:=Lib.hid hp1
    have HP2:=Lib.hid hp2
    have HA5:=Lib.hid hA
    have HF1:=Lib.hid hf1
    have HF2:=Lib.hid hf2
    simp only[fillA,List.contains_cons,List.contains_nil,Nat.reduceAdd,Nat.reduceBEq,Bool.or_false,Bool.or_true,Bool.false_eq_true,if_true,if_false,Act.put,List.setIfInBounds_toArray,List.set_cons_zero,List.set_cons_succ,e2,e5,e6]
    simp only[List.filterMap_cons,List.filterMap_nil,List.getElem?_toArray,List.getElem?_cons_succ,List.getElem?_cons_zero]
    clear hv hJ e0 e1 e2 e3 e4 e5 e6 h2 hp1 hp2 hA hf1 hf2 hbx
    generalize vals 0=u0
    generalize vals 1=u1
    generalize vals 3=u3
    generalize vals 4=u4
    obtain⟨LA,hLA⟩:∃n,n=(rowE a).length:=⟨_,rfl⟩
    rw[←hLA] at HP1⊢
    clear hLA
    have HB6:=Lib.hid (show Below wr.heap.size wr ((w5.setCell ⟨wr.heap.size,4,none⟩ (.slice ab5 LA ac5)).setCell ⟨wr.heap.size,5,none⟩ (.slice pb5 pn5 pc5)) from((HR0.out.trans (HB5.out.mono HR0.out.size)).setCell (p:=⟨wr.heap.size,4,none⟩) (Nat.le_refl _) _).setCell (p:=⟨wr.heap.size,5,none⟩) (Nat.le_refl _) _)
    go_wp2_with (at_builtin;refine wpList_appendS rfl (.tmp 24) (.tmp 26) rfl Tryz.underlying24 hi1 hz1 hs1 hy1 rfl (by decide) (v:=.slice ub j uc) rfl ((ownsRow_below' hO.out HB6.out).alloc _) (m:=1) (news:=[.int .i64 k,.string ⟨s.toArray⟩,.string ⟨r.toArray⟩,.int .i64 m,.slice ab5 LA ac5,.slice pb5 pn5 pc5,.int .i64 p]) rfl rfl (src_new' (by simp)) (by simp[Value.oneCell']) (by unfold maxLen;omega) (by omega) (by have h1:=hB.out.size;have h2:=HB6.out.size;simp at h2⊢;omega) ?_;intro v' w6 hp;obtain⟨va6,vc6,rfl⟩:=ownsRow_slice hp.own)
    have hPlt:=hP.out.lt
    have hown:=λg (hg:(Value.slice ub j uc).ownBlock=some g)=>hO.out.lt g hg
    have h5:=HB5.out.size
    rw[HS0.out] at h5
    have hs6:(((w5.setCell ⟨wr.heap.size,4,none⟩ (.slice ab5 LA ac5)).setCell ⟨wr.heap.size,5,none⟩ (.slice pb5 pn5 pc5)).alloc (.cells [Value.int .i64 k,.string ⟨s.toArray⟩,.string ⟨r.toArray⟩,.int .i64 m,.slice ab5 LA ac5,.slice pb5 pn5 pc5,.int .i64 p].toArray 27)).heap.size=w5.heap.size+1:=by simp
    have hF1:∀x∈F1,wr.heap.size+1≤x:=λx hx=>by rw[←HS0.out];exact HF1.out x hx
    have hF2:∀x∈F2,wr.heap.size+1≤x:=λx hx=>by rw[←HS0.out];exact HF2.out x hx
    have hP1lt:=HP1.out.lt
    have hP2lt:=HP2.out.lt
    have HB7:Below wr.heap.size wr (((w5.setCell ⟨wr.heap.size,4,none⟩ (.slice ab5 LA ac5)).setCell ⟨wr.heap.size,5,none⟩ (.slice pb5 pn5 pc5)).alloc (.cells [Value.int .i64 k,.string ⟨s.toArray⟩,.string ⟨r.toArray⟩,.int .i64 m,.slice ab5 LA ac5,.slice pb5 pn5 pc5,.int .i64 p].toArray 27)):=HB6.out.alloc HB6.out.size _
    have HB8:=Lib.hid ((hB.out.trans (HB7.mono hB.out.size)).grown hp.gr (by rw[hs6];have:=hB.out.size;omega) (λg hg=>(hown g hg).1))
    have kF:∀x∈F,w6.heap[x]?=wr.heap[x]?:=λx hx=>by
     have h1:=hPlt x hx
     exact(hp.gr.block x (by rw[hs6];omega) (λe=>(hF.out x hx).2 e.symm)).trans (HB7.block x h1)
    have kN:∀x,wr.heap.size+1≤x→x<w5.heap.size→w6.heap[x]?=w5.heap[x]?:=λx h2 h1=>
     (hp.gr.block x (by rw[hs6];omega) (λe=>by have:=(hown x e.symm).2;omega)).trans ((Below.heap_alloc _ _ x (by simpa using h1)).trans ((Below.heap_setCell _ _ _ x (by show x≠wr.heap.size;omega)).trans (Below.heap_setCell w5 _ _ x (by show x≠wr.heap.size;omega))))
    have hap:absEx ((elsOf d)[j]'(by have:=HL.out;omega))=.mk k s r m (absExA a) (absPtA q) p:=by rw[he];rfl
    have HP8:Hid (EsM w6 ((rowE d).take (j+1)) (F++(F1++F2)) (ys++[.int .i64 k,.string ⟨s.toArray⟩,.string ⟨r.toArray⟩,.int .i64 m,.slice ab5 LA ac5,.slice pb5 pn5 pc5,.int .i64 p])):=Lib.hid (by
     have hj:j<(rowE d).length:=by rw[rowE,List.length_map];have:=HL.out;omega
     have e1:(rowE d).take (j+1)=(rowE d).take j++[.mk k s r m (absExA a) (absPtA q) p]:=by
      rw[List.take_succ_eq_append_getElem hj]
      congr 2
      exact(by simp[rowE]:(rowE d)[j]=absEx ((elsOf d)[j]'(by have:=HL.out;omega))).trans hap
     rw[e1]
     refine EsM.app (EsM.kept _ _ _ kF hP.out) (EsM.one ?_) (λx hx hn=>by
      have h1:=hPlt x hx
      rcases List.mem_append.1 hn with hn|hn
      ·have:=hF1 x hn;omega
      ·have:=hF2 x hn;omega)
     rw[exM_iff]
     have h9:=AM.kept (w':=w6) (λx hx=>kN x (hF1 x hx) (hP1lt x hx)) HP1.out
     have h10:=PtM.kept (w':=w6) _ _ _ (λx hx=>kN x (hF2 x hx) (hP2lt x hx)) HP2.out
     rw[rowE,←absExA_map] at h9
     rw[rowP,←absPtA_map] at h10
     exact⟨F1,F2,rfl,HA5.out,h9,h10⟩)
    have HF8:=Lib.hid (λx (hx:x∈F++(F1++F2))=>(show w.heap.size≤x∧(Value.slice va6 (j+1) vc6).ownBlock≠some x from by
     have hw2:=hB.out.size
     rcases List.mem_append.1 hx with hx|hx
     ·refine⟨(hF.out x hx).1,λe=>?_⟩
      rcases hp.new x e with h|h
      ·exact(hF.out x hx).2 h
      ·have:=hPlt x hx
       rw[hs6] at h
       omega
     ·have h2:wr.heap.size+1≤x∧x<w5.heap.size:=by
       rcases List.mem_append.1 hx with hx|hx
       ·exact⟨hF1 x hx,hP1lt x hx⟩
       ·exact⟨hF2 x hx,hP2lt x hx⟩
      refine⟨by omega,λe=>?_⟩
      rcases hp.new x e with h|h
      ·have:=(hown x h).2;omega
      ·rw[hs6] at h
       omega))
    have HO8:=Lib.hid hp.own
    clear kF kN hPlt hP1lt hP2lt hF1 hF2 hown
    go_roundg (L-(j+1))
    case measure=>omega
    case rel=>exact⟨j+1,_,_,_,by omega,rfl,by go_num,HB8,HO8,HP8,HF8⟩
  ·have hjl:j=L:=by omega
   subst hjl
   go_wp2_with fail
   have hr:rowE d=(rowE d).take j:=by rw[List.take_of_length_le (by rw[rowE,List.length_map];have:=HL.out;omega)]
   have hra:(rowE d).length=j:=by rw[rowE,List.length_map];exact HL.out.symm
   have hO':=ownsRow_base hO.out (Nat.zero_le _)
   have hP':=hP.out
   rw[←hr] at hP'
   refine bodyPost_ret (v:=.slice ub j uc) (by simp[results,Tryz.results41,go_sem]) rfl ?_
   rcases hO.out.2 with ⟨hv,hj0⟩|⟨g,cap,cur,hv,hg,_⟩
   ·refine⟨_,[],rfl,hB.out,?_,λb hb=>by cases hb⟩
    exact .inl ⟨List.eq_nil_of_length_eq_zero (by omega),rfl,hv⟩
   ·cases hv
    refine⟨_,g::F,rfl,hB.out,?_,λb hb=>?_⟩
    ·unfold AM
     rw[hra]
     exact .inr ⟨g,_,F,ys,rfl,rfl,λhm=>(hF.out g hm).2 rfl,hO',hP'⟩
    ·rcases List.mem_cons.1 hb with rfl|hb
     ·exact hg
     ·exact(hF.out b hb).1
theorem copyExprs_hw(w0:World):∀(k:Nat) (d:Dat) (v:Value),SizeOf.sizeOf d<k→HasTy TT 24 d→Rep (startE w0.heap.size) w0 d v→CopyExprsAt w0 d v
 |0,d,v,h,_,_=>by omega
 |k+1,d,v,h,hd,hr=>copyExprs_step w0 d v hd hr λa va ha hta hra=>copyExprs_hw w0 k a va (by omega) hta hra
end Go.Proofs.YtgmapdcdmomioaaGreatDoor.Pa
