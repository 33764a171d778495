/- Copy of a program by hand: its expression lies in new memory, each part for itself; its declarations apart from that. ScopeRenames: the law's walk. ScopeRenames: the walk. -/
import Derived.Test.YtgmapdcdmomioaaGreatDoorSR
import Derived.Test.YtgmapdcdmomioaaGreatDoorSP
import Derived.Test.YtgmapdcdmomioaaGreatDoorSS
import Derived.Test.YtgmapdcdmomioaaGreatDoorSQ
set_option linter.all false
set_option autoImplicit false
set_option maxHeartbeats 4000000
set_option maxRecDepth 100000
namespace Go.Proofs.YtgmapdcdmomioaaGreatDoor.Pa
open Go Go.Proofs.YtgmapdcdmomioaaGreatDoor.Am Go.Proofs.YtgmapdcdmomioaaGreatDoor.Hw Go.RowKit
def rangeE(n lo hi:Nat):Em:={startE 0 with imm:=λb _=>b<n∨(lo≤b∧b<hi)}
def progCs(vd:Value)(k:Int)(s r:Str)(n:Int)(va vb:Value)(p:Int):List Value:=[vd,.int .i64 k,.string ⟨s.toArray⟩,.string ⟨r.toArray⟩,.int .i64 n,va,vb,.int .i64 p]
def progZ:List Value:=[.slice none 0 0,.int .i64 0,.string ⟨#[]⟩,.string ⟨#[]⟩,.int .i64 0,.slice none 0 0,.slice none 0 0,.int .i64 0]
def DeclR(D:List Dc)(E:Em)(w:World)(v:Value):Prop:=∃l,HasTy TT 23 l∧(elsOf l).map absDc=D∧Rep E w l v
theorem DeclR.keep{D:List Dc}{E E2:Em}{w w':World}{v:Value}(h:DeclR D E w v)(hi:∀b o,E.imm b o→E2.imm b o∧w'.cell? ⟨b,o,none⟩=w.cell? ⟨b,o,none⟩)(hg:E.ng=0)(hk:∀t,E.gk t=none):DeclR D E2 w' v:=
 let ⟨l,a,b,c⟩:=h;⟨l,a,b,rep_keep hi hg hk c⟩
theorem range_grow{D:List Dc}{n lo:Nat}{w w':World}{v:Value}(hn:n≤w.heap.size)(h:DeclR D (rangeE n lo w.heap.size) w v)(hb:Below w.heap.size w w'):DeclR D (rangeE n lo w'.heap.size) w' v:=
 h.keep (λb o hi=>by
  have hi:b<n∨(lo≤b∧b<w.heap.size):=hi
  have hs:=hb.size
  exact⟨(show b<n∨(lo≤b∧b<w'.heap.size) from by omega),hb.cell (show b<w.heap.size by omega)⟩) rfl (λ_=>rfl)
theorem c_declsR{W w:World}(hE:ErrsIn W)(hW:Below W.heap.size W w){n0 lo:Nat}(hn0:n0≤w.heap.size)(hlo:lo≤w.heap.size){d:Dat}{u:Value}(hd:HasTy TT 23 d)(ru:Rep (startE n0) w d u):
 Calls Tryz.prog 36 #[u] w λe w'=>∃v,e=.returned v∧Below w.heap.size w w'∧DeclR ((elsOf d).map absDc) (rangeE n0 lo w'.heap.size) w' v:=
 (hw_call0 hE hW hn0 (copyDecls_ok d ⟨[],[]⟩ hd (λout g'=>∃l v,out=.val v∧RetV v (slOf 4 l)∧(∀y∈l,HasTy TT 76 y)∧l.length=(elsOf d).length∧l.map absDc=(elsOf d).map absDc∧g'=⟨[],[]⟩) λl hl hn ha=>⟨l,_,rfl,retOf_ret _ _,hl,hn,ha,rfl⟩) (reL1 ru)).mono λe w' ⟨out,g',E',⟨l,v,ho,hr,hl,hn,ha,hg⟩,hb,rel,hout,him⟩=>by
  subst ho hg
  obtain⟨x,rfl,hx⟩:=out_ret hr hout
  refine⟨x,rfl,hb,slOf 4 l,slOf_ty undDecls szDecl (by rw[hn];exact(hd.els undDecls).1) hl,by rw[slOf_els];exact ha,rep_keep (λb o hi=>⟨?_,rfl⟩) rel.ng (λt=>by rw[rel.gk];rfl) hx⟩
  have h1:=him b o hi
  have h2:=rel.imm_lt b o hi
  show b<n0∨(lo≤b∧b<w'.heap.size)
  omega
theorem rep_one{n:Nat}{w:World}{k m p:Int}{s r:Str}{a q:Dat}{va vb:Value}{g c:Nat}(ta:HasTy TT 24 a)(tq:HasTy TT 25 q)(ra:Rep (startE n) w a va)(rq:Rep (startE n) w q vb)(hg:g<n)(hc:1≤c)(hb:BoxAt g w (exCells k s r m va vb p)):
 Rep (startE n) w (.sl 7 [.agg [.int .i64 k,.str s,.str r,.int .i64 m,a,q,.int .i64 p]]) (.slice (some ⟨g,0,none⟩) 1 c):=by
 have o2:=one_slice ta undExprs
 have o3:=one_slice tq undPats
 have key:∀(i:Nat) x,([.agg [.int .i64 k,.str s,.str r,.int .i64 m,a,q,.int .i64 p]]:List Dat)[i]?=some x→∀(j:Nat) d,x.cells[j]?=some d→i=0∧d.one=true∧∃u,(exCells k s r m va vb p)[j]?=some u∧Rep (startE n) w d u:=λi x hx j d hd=>by
  match i,hx with
  |0,hx=>
   cases hx
   refine⟨rfl,?_⟩
   match j,hd with
   |0,hd=>cases hd;exact⟨rfl,_,rfl,.int _ _⟩
   |1,hd=>cases hd;exact⟨rfl,_,rfl,.str _⟩
   |2,hd=>cases hd;exact⟨rfl,_,rfl,.str _⟩
   |3,hd=>cases hd;exact⟨rfl,_,rfl,.int _ _⟩
   |4,hd=>cases hd;exact⟨o2,_,rfl,ra⟩
   |5,hd=>cases hd;exact⟨o3,_,rfl,rq⟩
   |6,hd=>cases hd;exact⟨rfl,_,rfl,.int _ _⟩
  |i+1,hx=>simp at hx
 refine .sl 7 [_] g 0 c (λz=>((exCells k s r m va vb p)[z]?).getD undef) hc (λx hx=>?_) (λi x hx j d hd=>(key i x hx j d hd).2.1) (λi x hx j d hd=>hg) (λi x hx j d hd=>?_) (λi x hx j d hd=>?_)
 ·simp only[List.mem_singleton] at hx;subst hx;rfl
 ·obtain⟨rfl,_,u,hu,_⟩:=key i x hx j d hd
  simp only[Nat.zero_mul,Nat.zero_add,hu,Option.getD_some]
  exact hb.2 j u hu
 ·obtain⟨rfl,_,u,hu,hr⟩:=key i x hx j d hd
  simp only[Nat.zero_mul,Nat.zero_add,hu,Option.getD_some]
  exact hr
def cpT(B:Nat)(vd ev:Value)(i:Nat):Value:=([.pointer (some ⟨B,0,none⟩),vd,undef,.pointer (some ⟨B,1,none⟩),ev]:List Value).getD i undef
structure CpJ(W0:World)(B:Nat)(vd ev:Value)(D:List Dc)(x:Ex')(cs:List Value)(vo:Nat→Option Value)(w:World):Prop where
 bel:Below W0.heap.size W0 w
 told:∀i u,vo i=some u→i<5→i≠2→u=cpT B vd ev i
 r2:∀u,vo 2=some u→DeclR D (rangeE B (B+2) w.heap.size) w u
 r5:∀u,vo 5=some u→∃g,u=.slice (some ⟨g,0,none⟩) 1 1∧BoxAt g w cs
 r6:∀u,vo 6=some u→vo 5≠none∧∃v m F,vo 2=some v∧DeclR D (rangeE B (B+2) m) w v∧AM w [x] F u∧W0.heap.size≤m∧m≤w.heap.size∧∀y∈F,m≤y
section
variable{W0 w w':World}{B:Nat}{vd ev:Value}{D:List Dc}{x:Ex'}{cs:List Value}{vo:Nat→Option Value}{v:Value}{i:Nat}
theorem CpJ.start:CpJ W0 B vd ev D x cs (λ_=>none) W0:=⟨Below.refl _ _,λi u h=>(by cases h),λu h=>(by cases h),λu h=>(by cases h),λu h=>(by cases h)⟩
theorem CpJ.put(h:CpJ W0 B vd ev D x cs vo w)(h2:i≠2)(h5:i<5)(hv:v=cpT B vd ev i):CpJ W0 B vd ev D x cs (λk=>if k=i then some v else vo k) w:=by
 refine⟨h.bel,λk u hk k5 k2=>?_,λu hu=>h.r2 u ((upd_ne (Ne.symm h2)).symm.trans hu),λu hu=>h.r5 u ((upd_ne (by omega)).symm.trans hu),λu hu=>?_⟩
 ·by_cases e:k=i
  ·have hk:(if k=i then some v else vo k)=some u:=hk
   rw[if_pos e] at hk
   injection hk with hk
   rw[←hk,hv,e]
  ·exact h.told k u ((upd_ne e).symm.trans hk) k5 k2
 ·obtain⟨n5,y,m,F,e,r⟩:=h.r6 u ((upd_ne (by omega)).symm.trans hu)
  exact⟨λh5'=>n5 ((upd_ne (by omega)).symm.trans h5'),y,m,F,(upd_ne (Ne.symm h2)).trans e,r⟩
theorem CpJ.c2(h:CpJ W0 B vd ev D x cs vo w)(h6:vo 6=none)(hb:Below w.heap.size w w'){u:Value}(hD:DeclR D (rangeE B (B+2) w'.heap.size) w' u):CpJ W0 B vd ev D x cs (λk=>if k=2 then some u else vo k) w':=by
 refine⟨h.bel.trans (hb.mono h.bel.size),λk y hk k5 k2=>h.told k y ((upd_ne k2).symm.trans hk) k5 k2,λy hy=>?_,λy hy=>?_,λy hy=>?_⟩
 ·have hy:some u=some y:=hy
  injection hy with hy
  subst hy
  exact hD
 ·obtain⟨g,e,hg⟩:=h.r5 y ((upd_ne (by decide)).symm.trans hy)
  exact⟨g,e,hg.later hb⟩
 ·have hy:vo 6=some y:=(upd_ne (by decide)).symm.trans hy
  rw[h6] at hy
  cases hy
theorem CpJ.c5(h:CpJ W0 B vd ev D x cs vo w)(hB:B≤w.heap.size)(h6:vo 6=none)(hb:Below w.heap.size w w'){g:Nat}(hg:BoxAt g w' cs):CpJ W0 B vd ev D x cs (λk=>if k=5 then some (.slice (some ⟨g,0,none⟩) 1 1) else vo k) w':=by
 refine⟨h.bel.trans (hb.mono h.bel.size),λk y hk k5 k2=>h.told k y ((upd_ne (by omega)).symm.trans hk) k5 k2,λy hy=>range_grow hB (h.r2 y ((upd_ne (by decide)).symm.trans hy)) hb,λy hy=>?_,λy hy=>?_⟩
 ·have hy:some _=some y:=hy
  injection hy with hy
  subst hy
  exact⟨g,rfl,hg⟩
 ·have hy:vo 6=some y:=(upd_ne (by decide)).symm.trans hy
  rw[h6] at hy
  cases hy
theorem CpJ.c6(h:CpJ W0 B vd ev D x cs vo w)(hB:B≤w.heap.size)(h5:vo 5≠none){u:Value}(h2:vo 2=some u)(hb:Below w.heap.size w w'){F:List Nat}{y:Value}(hA:AM w' [x] F y)(hF:∀z∈F,w.heap.size≤z):CpJ W0 B vd ev D x cs (λk=>if k=6 then some y else vo k) w':=by
 refine⟨h.bel.trans (hb.mono h.bel.size),λk z hk k5 k2=>h.told k z ((upd_ne (by omega)).symm.trans hk) k5 k2,λz hz=>range_grow hB (h.r2 z ((upd_ne (by decide)).symm.trans hz)) hb,λz hz=>?_,λz hz=>?_⟩
 ·obtain⟨g,e,hg⟩:=h.r5 z ((upd_ne (by decide)).symm.trans hz)
  exact⟨g,e,hg.later hb⟩
 ·have hz:some y=some z:=hz
  injection hz with hz
  subst hz
  refine⟨λh5'=>h5 ((upd_ne (by decide)).symm.trans h5'),u,w.heap.size,F,(upd_ne (by decide)).trans h2,(h.r2 u h2).keep (λb o hi=>⟨hi,hb.cell ?_⟩) rfl (λ_=>rfl),hA,h.bel.size,hb.size,hF⟩
  have hi:b<B∨(B+2≤b∧b<w.heap.size):=hi
  show b<w.heap.size
  omega
end
def DeclK(D:List Dc)(F:List Nat)(w:World)(v:Value):Prop:=∀w2,Kept F w w2→DeclR D (startE w2.heap.size) w2 v
theorem copy_hw{W w:World}(hE:ErrsIn W)(hW:Below W.heap.size W w){x:Dat}{u:Value}(hx:HasTy TT 29 x)(ru:Rep (startE w.heap.size) w x u):
 Calls Tryz.prog 23 #[u] w λe w'=>∃vd k s r n va vb p a q F,(absPg x).e=.mk k s r n a q p∧e=.returned (progV vd k s r n va vb p)∧Below w.heap.size w w'∧ExM w' (.mk k s r n a q p) F va vb∧(∀y∈F,w.heap.size≤y)∧DeclK (absPg x).ds F w' vd:=by
 obtain⟨d1,k,s,r,n,a1,b1,p,rfl,td,te⟩:=prog_ty hx
 obtain⟨k',s',r',n',a',b',p',e',hs,hr,ta,tb⟩:=expr_ty te
 cases e'
 obtain⟨vd,va,vb,rfl,rd,ra,rb⟩:=rep_prog ru
 obtain⟨da,dn,dc,rfl⟩:=rep_sliceX td undDecls rd
 obtain⟨aa,an,ac,rfl⟩:=rep_sliceX ta undExprs ra
 obtain⟨ba,bn,bc,rfl⟩:=rep_sliceX tb undPats rb
 have HE:=Lib.hid hE
 have HW:=Lib.hid hW
 have HTD:=Lib.hid td
 have HTE:=Lib.hid te
 have HTA:=Lib.hid ta
 have HTB:=Lib.hid tb
 have HRD:=Lib.hid rd
 have HRA:=Lib.hid ra
 have HRB:=Lib.hid rb
 obtain⟨W0,hW0⟩:∃W0,((w.alloc (.cells (progCs (.slice da dn dc) k s r n (.slice aa an ac) (.slice ba bn bc) p).toArray 29)).alloc (.cells progZ.toArray 29)).drew=W0:=⟨_,rfl⟩
 have HR0:Hid (RnB [] w (progCs (.slice da dn dc) k s r n (.slice aa an ac) (.slice ba bn bc) p) progZ W0):=Lib.hid (by rw[←hW0];exact(RnB.start (λx hx=>by cases hx)).next (Kept.refl [] _).drew (λx hx=>by cases hx))
 have HS0:Hid (W0.heap.size=w.heap.size+2):=Lib.hid (by rw[←hW0];simp)
 have HB0:Hid (Below w.heap.size w W0):=Lib.hid (by rw[←hW0];exact(bgo (below_box _ _) (below_box _ _)).drew)
 have HEX:Hid (absEx (.agg [.int .i64 k,.str s,.str r,.int .i64 n,a1,b1,.int .i64 p])=.mk k s r n (rowE a1) (rowP b1) p):=Lib.hid (by show Ex'.mk k s r n (absExA a1) (absPtA b1) p=_;rw[absExA_map,absPtA_map];rfl)
 unfold progCs progZ at hW0
 clear hE hW td te ta tb rd ra rb ru hx hs hr
 unfold progV
 go_enter Tryz.func23,Tryz.ntmps23
 go_upto_region 1 with fail
 refine wp_region_va [7,8,9,10] (CpJ W0 w.heap.size (.slice da dn dc) (exprV k s r n (.slice aa an ac) (.slice ba bn bc) p) ((elsOf d1).map absDc) (.mk k s r n (rowE a1) (rowP b1) p) (exCells k s r n (.slice aa an ac) (.slice ba bn bc) p)) (by kernel_rfl) (by kernel_rfl) (by rw[hW0];exact CpJ.start) (by kernel_rfl) ?_ ?_
 ·refine⟨?_,?_,?_,?_,?_,?_,?_,?_,?_,?_,?_,trivial⟩
  all_goals (first|(rw[if_pos (by decide)];trivial)|rw[if_neg (by decide)])
  ·intro a wx vo hJ hn hold hpre K hK
   have h7:=hold 1 (by decide)
   have HK:=Lib.hid (hK _ _ (hJ.put (i:=0) (by decide) (by decide) (v:=.pointer (some ⟨w.heap.size,0,none⟩)) rfl))
   simp[Act.eval] at h7
   clear hold hpre hK hJ hn
   go_simp
   exact HK.out
  ·intro a wx vo hJ hn hold hpre K hK
   have e0:a.eval (.tmp 3)=.pointer (some ⟨w.heap.size,0,none⟩):=hJ.told 0 _ ((hpre 0 _ rfl (by kernel_rfl)).2 3 rfl) (by decide) (by decide)
   have hc:=(HR0.out.box.later hJ.bel).2 0 _ rfl
   have HK:=Lib.hid (hK _ _ (hJ.put (i:=1) (by decide) (by decide) (v:=.slice da dn dc) rfl))
   simp[Act.eval] at e0
   clear hold hpre hK hJ hn
   go_simp
   exact HK.out
  ·intro a wx vo hJ hn hold hpre K hK
   have e0:a.eval (.tmp 4)=.slice da dn dc:=hJ.told 1 _ ((hpre 1 _ rfl (by kernel_rfl)).2 4 rfl) (by decide) (by decide)
   have h6:vo 6=none:=by
    cases h:vo 6 with
    |none=>rfl
    |some x=>
     obtain⟨_,_,_,_,h2,_⟩:=hJ.r6 x h
     rw[hn] at h2
     cases h2
   have HJ:=Lib.hid hJ
   have HK:=Lib.hid hK
   have hbx:Below w.heap.size w wx:=HB0.out.trans (hJ.bel.mono HB0.out.size)
   have HC:=Lib.hid (c_declsR HE.out (HW.out.trans (hbx.mono HW.out.size)) (n0:=w.heap.size) (lo:=w.heap.size+2) hbx.size (by have:=hJ.bel.size;rw[HS0.out] at this;exact this) HTD.out (rep_keep (E2:=startE w.heap.size) (λb o hi=>⟨hi,hbx.cell hi⟩) rfl (λ_=>rfl) HRD.out))
   simp[Act.eval] at e0
   clear hold hpre hK hJ hn hbx
   go_simp
   refine HC.out.mono ?_
   rintro e w5 ⟨v5,rfl,hb5,hd5⟩
   exact HK.out _ _ (HJ.out.c2 h6 hb5 hd5)
  ·intro a wx vo hJ hn hold hpre K hK
   have h7:=hold 1 (by decide)
   have HK:=Lib.hid (hK _ _ (hJ.put (i:=3) (by decide) (by decide) (v:=.pointer (some ⟨w.heap.size,1,none⟩)) rfl))
   simp[Act.eval] at h7
   clear hold hpre hK hJ hn
   go_simp
   exact HK.out
  ·intro a wx vo hJ hn hold hpre K hK
   have e0:a.eval (.tmp 6)=.pointer (some ⟨w.heap.size,1,none⟩):=hJ.told 3 _ ((hpre 3 _ rfl (by kernel_rfl)).2 6 rfl) (by decide) (by decide)
   have hc:=HR0.out.box.later hJ.bel
   have c1:=hc.2 1 _ rfl
   have c2:=hc.2 2 _ rfl
   have c3:=hc.2 3 _ rfl
   have c4:=hc.2 4 _ rfl
   have c5:=hc.2 5 _ rfl
   have c6:=hc.2 6 _ rfl
   have c7:=hc.2 7 _ rfl
   have HK:=Lib.hid (hK _ _ (hJ.put (i:=4) (by decide) (by decide) (v:=.agg #[.int .i64 k,.string ⟨s.toArray⟩,.string ⟨r.toArray⟩,.int .i64 n,.slice aa an ac,.slice ba bn bc,.int .i64 p]) rfl))
   simp[Act.eval] at e0
   clear hold hpre hK hJ hn hc
   go_simp
   exact HK.out
  ·intro a wx vo hJ hn hold hpre K hK
   have e0:a.eval (.tmp 7)=.agg #[.int .i64 k,.string ⟨s.toArray⟩,.string ⟨r.toArray⟩,.int .i64 n,.slice aa an ac,.slice ba bn bc,.int .i64 p]:=hJ.told 4 _ ((hpre 4 _ rfl (by kernel_rfl)).2 7 rfl) (by decide) (by decide)
   have h6:vo 6=none:=by
    cases h:vo 6 with
    |none=>rfl
    |some x=>exact absurd hn (hJ.r6 x h).1
   have hB:w.heap.size≤wx.heap.size:=by have:=hJ.bel.size;rw[HS0.out] at this;omega
   have HK:=Lib.hid (hK _ _ (hJ.c5 hB h6 (below_box wx (.cells #[.int .i64 k,.string ⟨s.toArray⟩,.string ⟨r.toArray⟩,.int .i64 n,.slice aa an ac,.slice ba bn bc,.int .i64 p] 27)) (BoxAt.new wx (exCells k s r n (.slice aa an ac) (.slice ba bn bc) p) 27)))
   simp[Act.eval] at e0
   clear hold hpre hK hJ hn
   go_simp
   exact HK.out
  ·intro a wx vo hJ hn hold hpre K hK
   obtain⟨g,e0,hg⟩:=hJ.r5 _ ((hpre 5 _ rfl (by kernel_rfl)).2 8 rfl)
   have h2:=(hpre 2 _ rfl (by kernel_rfl)).2 5 rfl
   have HJ:=Lib.hid hJ
   have HK:=Lib.hid hK
   have H2:=Lib.hid h2
   have H5:=Lib.hid (show vo 5≠none from λh'=>by have:=(hpre 5 _ rfl (by kernel_rfl)).2 8 rfl;rw[h'] at this;cases this)
   have hB:w.heap.size≤wx.heap.size:=by have:=hJ.bel.size;rw[HS0.out] at this;omega
   have hbx:Below w.heap.size w wx:=HB0.out.trans (hJ.bel.mono HB0.out.size)
   have HC:=Lib.hid (copyExprs_hw wx _ (.sl 7 [.agg [.int .i64 k,.str s,.str r,.int .i64 n,a1,b1,.int .i64 p]]) _ (Nat.lt_succ_self _) (one_expr HTE.out) (rep_one HTA.out HTB.out (rep_later HRA.out hbx) (rep_later HRB.out hbx) hg.1 (Nat.le_refl _) hg) wx (Below.refl _ _))
   simp[Act.eval] at e0
   clear hold hpre hK hJ hn hbx h2 hg
   go_simp
   refine HC.out.mono ?_
   rintro e w5 ⟨v5,F5,rfl,hb5,hp5,hf5⟩
   have hp5:AM w5 [absEx (.agg [.int .i64 k,.str s,.str r,.int .i64 n,a1,b1,.int .i64 p])] F5 v5:=hp5
   rw[HEX.out] at hp5
   exact HK.out _ _ (HJ.out.c6 hB H5.out H2.out hb5 hp5 hf5)
 ·intro vals w5 vo hv hJ
  obtain⟨_,u2,m,F,h2,hD,hA,hm,hm2,hF⟩:=hJ.r6 _ (hv 6 (by decide) (by decide))
  have e2:vals 2=u2:=by have:=hv 2 (by decide) (by decide);rw[h2] at this;injection this with this;exact this.symm
  obtain⟨u6,e6⟩:∃u6,vals 6=u6:=⟨_,rfl⟩
  rw[e6] at hA
  unfold AM at hA
  rcases hA with ⟨h0,_⟩|⟨bk,c,F',xs,rfl,rfl,hbk,ho,hs⟩
  ·cases h0
  ·obtain⟨xa,xb,rfl,hM⟩:=hs.one_inv
   obtain⟨l2,tl2,el2,rl2⟩:=hD
   obtain⟨ua,un,uc,rfl⟩:=rep_sliceX tl2 undDecls rl2
   obtain⟨Fa,Fb,rfl,hA2,hMa,hMb⟩:=exM_iff.1 hM
   obtain⟨xaa,xac,rfl⟩:=hMa.slice
   obtain⟨xba,xbn,xbc,rfl⟩:=ptM_slice hMb
   obtain⟨LA,hLA⟩:∃n,n=(rowE a1).length:=⟨_,rfl⟩
   rw[←hLA] at hM ho
   clear hLA
   have HO:=Lib.hid ho
   have q0:=(ho.cellAt 0 (show 0<7 by decide)).trans (show(exCells k s r n (.slice xaa LA xac) (.slice xba xbn xbc) p)[0]?=some _ from rfl)
   have q1:=(ho.cellAt 1 (show 1<7 by decide)).trans (show(exCells k s r n (.slice xaa LA xac) (.slice xba xbn xbc) p)[1]?=some _ from rfl)
   have q2:=(ho.cellAt 2 (show 2<7 by decide)).trans (show(exCells k s r n (.slice xaa LA xac) (.slice xba xbn xbc) p)[2]?=some _ from rfl)
   have q3:=(ho.cellAt 3 (show 3<7 by decide)).trans (show(exCells k s r n (.slice xaa LA xac) (.slice xba xbn xbc) p)[3]?=some _ from rfl)
   have q4:=(ho.cellAt 4 (show 4<7 by decide)).trans (show(exCells k s r n (.slice xaa LA xac) (.slice xba xbn xbc) p)[4]?=some _ from rfl)
   have q5:=(ho.cellAt 5 (show 5<7 by decide)).trans (show(exCells k s r n (.slice xaa LA xac) (.slice xba xbn xbc) p)[5]?=some _ from rfl)
   have q6:=(ho.cellAt 6 (show 6<7 by decide)).trans (show(exCells k s r n (.slice xaa LA xac) (.slice xba xbn xbc) p)[6]?=some _ from rfl)
   have hRB:=HR0.out.next (Kept.below (S:=[]) hJ.bel) (λx hx=>by cases hx)
   have z0:=hRB.res.2 0 _ rfl
   have z1:=hRB.res.2 1 _ rfl
   have z2:=hRB.res.2 2 _ rfl
   have z3:=hRB.res.2 3 _ rfl
   have z4:=hRB.res.2 4 _ rfl
   have z5:=hRB.res.2 5 _ rfl
   have z6:=hRB.res.2 6 _ rfl
   have z7:=hRB.res.2 7 _ rfl
   have y0:=hRB.fz 0
   have y1:=hRB.fz 1
   have y2:=hRB.fz 2
   have y3:=hRB.fz 3
   have y4:=hRB.fz 4
   have y5:=hRB.fz 5
   have y6:=hRB.fz 6
   have y7:=hRB.fz 7
   obtain⟨W9,hW9⟩:∃W9,setsFrom w5 (w.heap.size+1) 0 (progCs (.slice ua un uc) k s r n (.slice xaa LA xac) (.slice xba xbn xbc) p)=W9:=⟨_,rfl⟩
   have hk9:Kept [w.heap.size+1] w5 W9:=by rw[←hW9];exact setsFrom_kept _ _ _
   have hb9:BoxAt (w.heap.size+1) W9 (progCs (.slice ua un uc) k s r n (.slice xaa LA xac) (.slice xba xbn xbc) p):=by rw[←hW9];exact setsFrom_box hRB.res rfl
   have hS:=HS0.out
   have hFin:Below w.heap.size w W9∧ExM W9 (.mk k s r n (rowE a1) (rowP b1) p) (Fa++Fb) (.slice xaa LA xac) (.slice xba xbn xbc)∧(∀y∈Fa++Fb,w.heap.size≤y)∧DeclK ((elsOf d1).map absDc) (Fa++Fb) W9 (.slice ua un uc):=by
    have hF':∀y∈Fa++Fb,m≤y:=λy hy=>hF y (by simp only[List.mem_cons];exact .inr hy)
    refine⟨(HB0.out.trans (hJ.bel.mono HB0.out.size)).trans (hk9.toBelow (Nat.le_trans HB0.out.size hJ.bel.size) (λz hz=>by simp only[List.mem_singleton] at hz;omega)),ExM.kept _ _ _ _ (λy hy=>hk9.block y (ExM.lt _ _ _ _ hM y hy) (by have:=hF' y hy;simp;omega)) hM,λy hy=>by have:=hF' y hy;omega,λw2 hk2=>⟨l2,tl2,el2,rep_keep (λb o hi=>?_) rfl (λ_=>rfl) rl2⟩⟩
    have hi:b<w.heap.size∨(w.heap.size+2≤b∧b<m):=hi
    have hlt:b<w5.heap.size:=by
     have h1:=hJ.bel.size
     rcases hi with hi|hi
     ·omega
     ·omega
    refine⟨show b<w2.heap.size from Nat.lt_of_lt_of_le (Nat.lt_of_lt_of_le hlt hk9.size) hk2.size,?_⟩
    rw[World.cell?_of_block (hk2.block b (Nat.lt_of_lt_of_le hlt hk9.size) (λhm=>by have:=hF' b hm;omega)),World.cell?_of_block (hk9.block b hlt (by simp;omega))]
   have HFin:=Lib.hid hFin
   have f0:=hb9.2 0 _ rfl
   have f1:=hb9.2 1 _ rfl
   have f2:=hb9.2 2 _ rfl
   have f3:=hb9.2 3 _ rfl
   have f4:=hb9.2 4 _ rfl
   have f5:=hb9.2 5 _ rfl
   have f6:=hb9.2 6 _ rfl
   have f7:=hb9.2 7 _ rfl
   simp only[setsFrom,progCs,Nat.reduceAdd] at hW9
   subst hW9
   simp only[fillA,List.contains_cons,List.contains_nil,Nat.reduceAdd,Nat.reduceBEq,Bool.or_false,Bool.or_true,Bool.false_eq_true,if_true,if_false,Act.put,List.setIfInBounds_toArray,List.set_cons_zero,List.set_cons_succ,e2,e6]
   simp only[List.filterMap_cons,List.filterMap_nil,List.getElem?_toArray,List.getElem?_cons_succ,List.getElem?_cons_zero]
   clear hv hJ h2 hm hm2 hF e2 e6 ho hM hMa hMb rl2 hRB hk9 hb9 hFin
   generalize vals 0=v0
   generalize vals 1=v1
   generalize vals 3=v3
   generalize vals 4=v4
   generalize vals 5=v5
   go_wp2_with fail
   refine bodyPost_ret (v:=.agg #[.slice ua un uc,.int .i64 k,.string ⟨s.toArray⟩,.string ⟨r.toArray⟩,.int .i64 n,.slice xaa LA xac,.slice xba xbn xbc,.int .i64 p]) (by simp[results,Tryz.results23,go_sem,f0,f1,f2,f3,f4,f5,f6,f7]) rfl ?_
   exact⟨_,k,s,r,n,_,_,p,rowE a1,rowP b1,Fa++Fb,HEX.out,rfl,HFin.out⟩
end Go.Proofs.YtgmapdcdmomioaaGreatDoor.Pa
namespace Go.Proofs.YtgmapdcdmomioaaGreatDoor.Pa
open Go Go.Proofs.YtgmapdcdmomioaaGreatDoor.Am Go.Proofs.YtgmapdcdmomioaaGreatDoor.Hw Go.RowKit
theorem prog_main{x:Dat}{v:Value}(hx:HasTy TT 29 x){E:Em}{w:World}(rx:Rep E w x v):∃da dn dc k s r n aa an ac ba bn bc p e,v=progV (.slice da dn dc) k s r n (.slice aa an ac) (.slice ba bn bc) p∧HasTy TT 27 e∧∀(E:Em) (w':World),Rep E w' x v→Rep E w' e (exprV k s r n (.slice aa an ac) (.slice ba bn bc) p):=by
 obtain⟨d1,k,s,r,n,a1,b1,p,rfl,td,te⟩:=prog_ty hx
 obtain⟨k',s',r',n',a',b',p',e',hs,hr,ta,tb⟩:=expr_ty te
 cases e'
 obtain⟨vd,va,vb,rfl,rd,ra,rb⟩:=rep_prog rx
 obtain⟨da,dn,dc,rfl⟩:=rep_sliceX td undDecls rd
 obtain⟨aa,an,ac,rfl⟩:=rep_sliceX ta undExprs ra
 obtain⟨ba,bn,bc,rfl⟩:=rep_sliceX tb undPats rb
 refine⟨da,dn,dc,k,s,r,n,aa,an,ac,ba,bn,bc,p,_,rfl,te,λE w' h=>?_⟩
 obtain⟨vd',va',vb',e,rd',ra',rb'⟩:=rep_prog h
 simp only[progV,Value.agg.injEq,Array.mk.injEq,List.cons.injEq,and_true,true_and] at e
 obtain⟨rfl,rfl,rfl⟩:=e
 exact rep_expr_mk ta tb ra' rb'
theorem progAt_mk{D:List Dc}{k n p:Int}{s r:Str}{a:List Ex'}{q:List Pt}{F:List Nat}{w:World}{vd va vb:Value}(hD:DeclR D (startE w.heap.size) w vd)(hM:ExM w (.mk k s r n a q p) F va vb)(hok:okE (2^40) (.mk k s r n a q p)):ProgAt ⟨D,.mk k s r n a q p⟩ w (progV vd k s r n va vb p):=by
 obtain⟨l,tl,el,rl⟩:=hD
 obtain⟨da,db,ta,tb,ea,eb,ra,rb⟩:=ExM.rep _ _ _ _ hM hok
 rw[okE] at hok
 refine⟨_,ty_prog (k:=k) (s:=s) (r:=r) (n:=n) (p:=p) tl (ty_expr hok.1 hok.2.1 ta tb),?_,rep_prog_mk tl ta tb rl ra rb⟩
 show(⟨(elsOf l).map absDc,Ex'.mk k s r n (absExA da) (absPtA db) p⟩:Pg)=_
 rw[el,absExA_map,absPtA_map,show(elsOf da).map absEx=a from ea,show(elsOf db).map absPt=q from eb]
theorem renamed_at{x:Dat}(hx:HasTy TT 29 x)(sb:StrB x){k n p:Int}{s r:Str}{a:List Ex'}{q:List Pt}(he:(absPg x).e=.mk k s r n a q p){F:List Nat}{w7 w8 w9:World}{vd va vb:Value}(hD:DeclK (absPg x).ds F w7 vd)(hk:Kept F w7 w9)(h8:ExM w8 (.mk 0 [] [] 0 (rnEs a) (rnPs q) 0) F va vb)(h9:∀y∈F,w9.heap[y]?=w8.heap[y]?):
 ProgAt ⟨(absPg x).ds,rnE (absPg x).e⟩ w9 (progV vd k (rnS k s) (rnR r) n va vb p):=by
 have hok:okE (2^40) (rnE (absPg x).e):=by
  have h:okE (2^40-1) (absPg x).e:=by
   obtain⟨d1,k1,s1,r1,n1,a1,b1,p1,rfl,td,te⟩:=prog_ty hx
   refine okE_row (by decide) _ (.agg [.int .i64 k1,.str s1,.str r1,.int .i64 n1,a1,b1,.int .i64 p1]) (Nat.lt_succ_self _) te (.agg _ λc hc=>?_)
   cases sb with
   |agg cs h=>exact h c (List.mem_cons_of_mem _ hc)
  exact okE_rn _ h
 rw[he,rnE] at hok⊢
 exact progAt_mk (hD w9 hk) (ExM.kept _ _ _ _ h9 h8).args hok
end Go.Proofs.YtgmapdcdmomioaaGreatDoor.Pa
namespace Go.Proofs.YtgmapdcdmomioaaGreatDoor.Pa
open Go Go.Proofs.YtgmapdcdmomioaaGreatDoor.Am Go.Proofs.YtgmapdcdmomioaaGreatDoor.Hw Go.RowKit
theorem setsFrom_box1{b:Nat}{w:World}{c:Value}{cs ds:List Value}(h:BoxAt b w (c::cs))(hl:cs.length=ds.length):BoxAt b (setsFrom w b 1 ds) (c::ds):=
 ⟨Nat.lt_of_lt_of_le h.1 (setsFrom_kept ds 1 w).size,λj v hj=>by
  match j,hj with
  |0,hj=>cases hj;exact(setsFrom_other ds 1 w (by decide)).trans (h.2 0 _ rfl)
  |j+1,hj=>
   have:=setsFrom_cell cs ds 1 w hl (λi c hc=>by rw[Nat.add_comm];exact h.2 (i+1) c (by simpa using hc)) j v (by simpa using hj)
   rwa [Nat.add_comm] at this⟩
theorem box_keep{S:List Nat}{b:Nat}{w w':World}{cs:List Value}(h:BoxAt b w cs)(k:Kept S w w')(hb:b ∉ S):BoxAt b w' cs:=⟨Nat.lt_of_lt_of_le h.1 k.size,λj v hj=>k.cell (h.2 j v hj) hb⟩
theorem renames_walk{W:World}(hE:ErrsIn W){x:Dat}{v:Value}(hx:HasTy TT 29 x)(sb:StrB x)(rx:Rep (startE W.heap.size) W x v):Calls Tryz.prog 13 #[v] W λe w'=>e=.returned (.bool true)∧Below W.heap.size W w':=by
 obtain⟨da,dn,dc,k,s,r,n,aa,an,ac,ba,bn,bc,p,e,rfl,te,hm⟩:=prog_main hx rx
 have HE:=Lib.hid hE
 have HX:=Lib.hid hx
 have HS:=Lib.hid sb
 have HT:=Lib.hid te
 have HM:=Lib.hid hm
 have h0:=Lib.hid rx
 clear hE hx sb rx te hm
 have hX0:=Lib.hid (BoxAt.new W [.slice da dn dc,.int .i64 k,.string ⟨s.toArray⟩,.string ⟨r.toArray⟩,.int .i64 n,.slice aa an ac,.slice ba bn bc,.int .i64 p] 29)
 obtain⟨u,hu⟩:∃u,u=progV (.slice da dn dc) k s r n (.slice aa an ac) (.slice ba bn bc) p:=⟨_,rfl⟩
 rw[←hu] at h0 HM
 have HU:=Lib.hid hu
 unfold progV at hu⊢
 have HU2:=Lib.hid hu
 clear hu
 go_enter Tryz.func13,Tryz.ntmps13
 go_wp2_with fail
 rw[←HU2.out]
 refine(q_large HE.out (below_box W _) HX.out (rep_later h0.out (below_box W _))).mono ?_
 rintro e1 w1 ⟨b,rfl,hb,hq⟩
 have HB:=Lib.hid (bgo (below_box W _) hb)
 replace h0:=Lib.hid (rep_later h0.out HB.out)
 have hX:=Lib.hid (hX0.out.later hb)
 have HQ:=Lib.hid hq
 clear hX0 hb hq
 have c0:=hX.out.2 0 _ rfl
 have c1:=hX.out.2 1 _ rfl
 have c2:=hX.out.2 2 _ rfl
 have c3:=hX.out.2 3 _ rfl
 have c4:=hX.out.2 4 _ rfl
 have c5:=hX.out.2 5 _ rfl
 have c6:=hX.out.2 6 _ rfl
 have c7:=hX.out.2 7 _ rfl
 cases b
 ·replace HQ:=Lib.hid (HQ.out rfl)
  go_wp2_with fail
  refine(q_small HE.out HB.out HT.out (HM.out _ _ h0.out)).mono ?_
  rintro e2 w2 ⟨b2,rfl,hb⟩
  replace hX:=Lib.hid (hX.out.later hb)
  replace h0:=Lib.hid (rep_later h0.out hb)
  replace HB:=Lib.hid (HB.out.trans (hb.mono HB.out.size))
  clear hb c0 c1 c2 c3 c4 c5 c6 c7
  have c0:=hX.out.2 0 _ rfl
  have c1:=hX.out.2 1 _ rfl
  have c2:=hX.out.2 2 _ rfl
  have c3:=hX.out.2 3 _ rfl
  have c4:=hX.out.2 4 _ rfl
  have c5:=hX.out.2 5 _ rfl
  have c6:=hX.out.2 6 _ rfl
  have c7:=hX.out.2 7 _ rfl
  cases b2
  ·go_wp2_with fail
   refine(q_wakes HE.out HB.out).mono ?_
   rintro e3 w3 ⟨rfl,hb⟩
   replace HB:=Lib.hid (HB.out.trans (hb.mono HB.out.size))
   clear hb
   go_wp2_with fail
   go_ret
   exact⟨rfl,HB.out⟩
  ·have HPre:=Lib.hid (pre_of HX.out HS.out HQ.out.1 HQ.out.2.1 HQ.out.2.2)
   go_wp2_with fail
   rw[←HU2.out]
   refine(q_copy HE.out HB.out (P:=absPg x) ⟨x,HX.out,rfl,h0.out⟩).mono ?_
   rintro e3 w3 ⟨y,rfl,hb,hY⟩
   replace hX:=Lib.hid (hX.out.later hb)
   replace h0:=Lib.hid (rep_later h0.out hb)
   replace HB:=Lib.hid (HB.out.trans (hb.mono HB.out.size))
   clear hb c0 c1 c2 c3 c4 c5 c6 c7
   have c0:=hX.out.2 0 _ rfl
   have c1:=hX.out.2 1 _ rfl
   have c2:=hX.out.2 2 _ rfl
   have c3:=hX.out.2 3 _ rfl
   have c4:=hX.out.2 4 _ rfl
   have c5:=hX.out.2 5 _ rfl
   have c6:=hX.out.2 6 _ rfl
   have c7:=hX.out.2 7 _ rfl
   have HY:=Lib.hid hY
   clear hY
   go_wp2_with fail
   obtain⟨c,d,hcd⟩:∃c d,chk14 (absPg x)=(c,d):=⟨_,_,rfl⟩
   have hsc:=q_scope HE.out HB.out HPre.out HY.out
   rw[hcd] at hsc
   refine hsc.mono ?_
   clear hsc
   rintro e4 w4 ⟨rfl,hb⟩
   replace hX:=Lib.hid (hX.out.later hb)
   replace h0:=Lib.hid (rep_later h0.out hb)
   replace HB:=Lib.hid (HB.out.trans (hb.mono HB.out.size))
   have HCD:=Lib.hid hcd
   clear hcd HY
   clear hb c0 c1 c2 c3 c4 c5 c6 c7
   have c0:=hX.out.2 0 _ rfl
   have c1:=hX.out.2 1 _ rfl
   have c2:=hX.out.2 2 _ rfl
   have c3:=hX.out.2 3 _ rfl
   have c4:=hX.out.2 4 _ rfl
   have c5:=hX.out.2 5 _ rfl
   have c6:=hX.out.2 6 _ rfl
   have c7:=hX.out.2 7 _ rfl
   have hY4:=Lib.hid (BoxAt.new w4 [.int .i64 c,.int .i64 d] 49)
   have hX4:=Lib.hid (hX.out.later (below_box w4 (.cells #[.int .i64 c,.int .i64 d] 49)))
   have b0:=hX4.out.2 0 _ rfl
   have b1:=hX4.out.2 1 _ rfl
   have b2:=hX4.out.2 2 _ rfl
   have b3:=hX4.out.2 3 _ rfl
   have b4:=hX4.out.2 4 _ rfl
   have b5:=hX4.out.2 5 _ rfl
   have b6:=hX4.out.2 6 _ rfl
   have b7:=hX4.out.2 7 _ rfl
   go_wp2_with fail
   rw[←HU2.out]
   refine(q_check HE.out (HB.out.trans ((below_box w4 _).mono HB.out.size)) HPre.out (P:=absPg x) ⟨x,HX.out,rfl,rep_later h0.out (below_box w4 _)⟩).mono ?_
   rintro e5 w5 ⟨rfl,hb⟩
   clear b0 b1 b2 b3 b4 b5 b6 b7 hX4
   replace hY4:=Lib.hid (hY4.out.later hb)
   replace hb:=bgo (below_box w4 _) hb
   replace hX:=Lib.hid (hX.out.later hb)
   replace h0:=Lib.hid (rep_later h0.out hb)
   replace HB:=Lib.hid (HB.out.trans (hb.mono HB.out.size))
   clear hb c0 c1 c2 c3 c4 c5 c6 c7
   have c0:=hX.out.2 0 _ rfl
   have c1:=hX.out.2 1 _ rfl
   have c2:=hX.out.2 2 _ rfl
   have c3:=hX.out.2 3 _ rfl
   have c4:=hX.out.2 4 _ rfl
   have c5:=hX.out.2 5 _ rfl
   have c6:=hX.out.2 6 _ rfl
   have c7:=hX.out.2 7 _ rfl
   have d0:=hY4.out.2 0 _ rfl
   have d1:=hY4.out.2 1 _ rfl
   cases hr:rCheckP (absPg x) with
   |false=>
    have h1:=HCD.out
    rw[chk14,hr] at h1
    cases h1
    clear hr
    go_wp2_with fail
    refine(q_wakes HE.out HB.out).mono ?_
    rintro e3 w3 ⟨rfl,hb⟩
    replace HB:=Lib.hid (HB.out.trans (hb.mono HB.out.size))
    clear hb
    go_wp2_with fail
    go_ret
    exact⟨rfl,HB.out⟩
   |true=>
    have HR:=Lib.hid hr
    clear hr
    go_wp2_with fail
    rw[←HU2.out]
    refine(copy_hw HE.out HB.out HX.out h0.out).mono ?_
    rintro e6 w6 ⟨vd,k1,s1,r1,n1,va,vb,p1,a1,q1,F,he,rfl,hb,hM,hF,hD⟩
    obtain⟨l,tl,el,rl⟩:=hD w6 (Kept.refl _ _)
    obtain⟨ua,un,uc,rfl⟩:=rep_sliceX tl undDecls rl
    obtain⟨Fa,Fb,hFF,hA,hMa,hMb⟩:=exM_iff.1 hM
    obtain⟨xa,xc,rfl⟩:=hMa.slice
    obtain⟨ya,yn,yc,rfl⟩:=ptM_slice hMb
    obtain⟨LA,hLA⟩:∃n,n=a1.length:=⟨_,rfl⟩
    rw[←hLA] at hM⊢
    clear hLA tl el rl hFF hA hMa hMb
    unfold progV
    have HSz:=Lib.hid (show W.heap.size<w5.heap.size∧w4.heap.size<w5.heap.size from⟨hX.out.1,hY4.out.1⟩)
    have HM6:=Lib.hid hM
    have HF6:=Lib.hid hF
    have HD6:=Lib.hid hD
    have HE6:=Lib.hid he
    have HLT:=Lib.hid (ExM.lt _ _ _ _ hM)
    have hK6size:w5.heap.size≤w6.heap.size:=hb.size
    replace hY4:=Lib.hid (hY4.out.later hb)
    replace hX:=Lib.hid (hX.out.later hb)
    replace h0:=Lib.hid (rep_later h0.out hb)
    replace HB:=Lib.hid (HB.out.trans (hb.mono HB.out.size))
    clear hb c0 c1 c2 c3 c4 c5 c6 c7
    have c0:=hX.out.2 0 _ rfl
    have c1:=hX.out.2 1 _ rfl
    have c2:=hX.out.2 2 _ rfl
    have c3:=hX.out.2 3 _ rfl
    have c4:=hX.out.2 4 _ rfl
    have c5:=hX.out.2 5 _ rfl
    have c6:=hX.out.2 6 _ rfl
    have c7:=hX.out.2 7 _ rfl
    clear hM hF hD he d0 d1
    have d0:=hY4.out.2 0 _ rfl
    have d1:=hY4.out.2 1 _ rfl
    have hok:okE (2^40) (.mk k1 s1 r1 n1 a1 q1 p1):=by
     rw[←HE6.out]
     obtain⟨d1,k1,s1,r1,n1,a1,b1,p1,e0,td,te⟩:=prog_ty HX.out
     have sb:=HS.out
     rw[e0] at sb⊢
     refine okE_row (by decide) _ (.agg [.int .i64 k1,.str s1,.str r1,.int .i64 n1,a1,b1,.int .i64 p1]) (Nat.lt_succ_self _) te (.agg _ λc hc=>?_)
     cases sb with
     |agg cs h=>exact h c (List.mem_cons_of_mem _ hc)
    have hren:=rne_hw _ hok
    rw[RnEAt] at hren
    unfold exprV at hren
    have HRen:=Lib.hid hren
    clear hren hok
    have hZ:=Lib.hid (BoxAt.new w6 [.slice ua un uc,.int .i64 k1,.string ⟨s1.toArray⟩,.string ⟨r1.toArray⟩,.int .i64 n1,.slice xa LA xc,.slice ya yn yc,.int .i64 p1] 29)
    have hZf:=Lib.hid (λj=>frozen_cells (w:=w6.alloc (.cells #[.slice ua un uc,.int .i64 k1,.string ⟨s1.toArray⟩,.string ⟨r1.toArray⟩,.int .i64 n1,.slice xa LA xc,.slice ya yn yc,.int .i64 p1] 29)) (b:=w6.heap.size) (arr:=#[.slice ua un uc,.int .i64 k1,.string ⟨s1.toArray⟩,.string ⟨r1.toArray⟩,.int .i64 n1,.slice xa LA xc,.slice ya yn yc,.int .i64 p1]) (t:=29) (heap_alloc_new _ _) j)
    go_wp2_with fail
    refine(HRen.out F _ _ _ (ExM.kept _ _ _ _ (λy hy=>Below.heap_alloc _ _ y (HLT.out y hy)) HM6.out)).mono ?_
    rintro e8 w8 ⟨rfl,hk,h8⟩
    have nW:W.heap.size ∉ F:=λh=>by have h1:=HF6.out _ h;have h2:=HSz.out.1;omega
    have n4:w4.heap.size ∉ F:=λh=>by have h1:=HF6.out _ h;have h2:=HSz.out.2;omega
    have n6:w6.heap.size ∉ F:=λh=>by have h1:=HLT.out _ h;omega
    replace hX:=Lib.hid (box_keep (hX.out.later (below_box w6 _)) hk nW)
    replace hY4:=Lib.hid (box_keep (hY4.out.later (below_box w6 _)) hk n4)
    replace hZ:=Lib.hid (box_keep hZ.out hk n6)
    have hZg:=Lib.hid (λj=>(World.frozen?_of_block (a:=⟨w6.heap.size,j,none⟩) (hk.block w6.heap.size (by simp) n6)).trans (hZf.out j))
    have hSW:W.heap.size≤w6.heap.size:=HB.out.size
    have hSF:∀y∈F,W.heap.size≤y:=λy hy=>by have h1:=HF6.out _ hy;have h2:=HSz.out.1;omega
    replace HB:=Lib.hid ((HB.out.alloc (o:=.cells #[.slice ua un uc,.int .i64 k1,.string ⟨s1.toArray⟩,.string ⟨r1.toArray⟩,.int .i64 n1,.slice xa LA xc,.slice ya yn yc,.int .i64 p1] 29) hSW).trans (hk.toBelow (by simp;omega) hSF))
    have hK8:Kept F w6 w8:=(Kept.below (below_box w6 _)).trans hk
    obtain⟨W9,hW9⟩:∃W9,setsFrom w8 w6.heap.size 1 [.int .i64 k1,.string ⟨(rnS k1 s1).toArray⟩,.string ⟨(rnR r1).toArray⟩,.int .i64 n1,.slice xa LA xc,.slice ya yn yc,.int .i64 p1]=W9:=⟨_,rfl⟩
    have hk9:Kept [w6.heap.size] w8 W9:=by rw[←hW9];exact setsFrom_kept _ _ _
    have hZ9:BoxAt w6.heap.size W9 [.slice ua un uc,.int .i64 k1,.string ⟨(rnS k1 s1).toArray⟩,.string ⟨(rnR r1).toArray⟩,.int .i64 n1,.slice xa LA xc,.slice ya yn yc,.int .i64 p1]:=by rw[←hW9];exact setsFrom_box1 hZ.out rfl
    have z1:=hZ.out.2 1 _ rfl
    have z2:=hZ.out.2 2 _ rfl
    have z3:=hZ.out.2 3 _ rfl
    have z4:=hZ.out.2 4 _ rfl
    have z5:=hZ.out.2 5 _ rfl
    have z6:=hZ.out.2 6 _ rfl
    have z7:=hZ.out.2 7 _ rfl
    have y1:=hZg.out 1
    have y2:=hZg.out 2
    have y3:=hZg.out 3
    have y4:=hZg.out 4
    have y5:=hZg.out 5
    have y6:=hZg.out 6
    have y7:=hZg.out 7
    have n9:∀y∈F,y ∉ [w6.heap.size]:=λy hy h=>n6 (by simp only[List.mem_singleton] at h;rw[←h];exact hy)
    have hP9:=renamed_at HX.out HS.out HE6.out HD6.out (w9:=W9) ⟨hk9.os.trans hK8.os,hk9.tape.trans hK8.tape,hk9.output.trans hK8.output,Nat.le_trans hK8.size hk9.size,λy hy hn=>(hk9.block y (Nat.lt_of_lt_of_le hy hK8.size) (by simp;omega)).trans (hK8.block y hy hn)⟩ h8 (λy hy=>hk9.block y (ExM.lt _ _ _ _ h8 y hy) (n9 y hy))
    have HP9:=Lib.hid hP9
    replace hY4:=Lib.hid (box_keep hY4.out hk9 (by simp;have h2:=HB.out;have h3:=HSz.out.2;have h4:=hK6size;omega))
    replace HB:=Lib.hid (HB.out.trans (hk9.toBelow HB.out.size (λy hy=>by simp only[List.mem_singleton] at hy;omega)))
    have HZ9:=Lib.hid hZ9
    simp only[setsFrom,Nat.reduceAdd] at hW9
    clear hk hK8 hk9 hZ9 h8 hP9 n9 nW n4 n6 hSW hSF c0 c1 c2 c3 c4 c5 c6 c7 d0 d1 hX hZ hZg hZf h0
    have d0:=hY4.out.2 0 _ rfl
    have d1:=hY4.out.2 1 _ rfl
    have f0:=HZ9.out.2 0 _ rfl
    have f1:=HZ9.out.2 1 _ rfl
    have f2:=HZ9.out.2 2 _ rfl
    have f3:=HZ9.out.2 3 _ rfl
    have f4:=HZ9.out.2 4 _ rfl
    have f5:=HZ9.out.2 5 _ rfl
    have f6:=HZ9.out.2 6 _ rfl
    have f7:=HZ9.out.2 7 _ rfl
    subst hW9
    go_wp2_with fail
    refine(q_check HE.out HB.out (pre_rn HPre.out) HP9.out).mono ?_
    rintro e10 w10 ⟨rfl,hb⟩
    replace HP9:=Lib.hid (HP9.out.later hb)
    replace hY4:=Lib.hid (hY4.out.later hb)
    replace HZ9:=Lib.hid (HZ9.out.later hb)
    replace HB:=Lib.hid (HB.out.trans (hb.mono HB.out.size))
    clear hb d0 d1 f0 f1 f2 f3 f4 f5 f6 f7
    have f0:=HZ9.out.2 0 _ rfl
    have f1:=HZ9.out.2 1 _ rfl
    have f2:=HZ9.out.2 2 _ rfl
    have f3:=HZ9.out.2 3 _ rfl
    have f4:=HZ9.out.2 4 _ rfl
    have f5:=HZ9.out.2 5 _ rfl
    have f6:=HZ9.out.2 6 _ rfl
    have f7:=HZ9.out.2 7 _ rfl
    cases hr2:rCheckP ⟨(absPg x).ds,rnE (absPg x).e⟩ with
    |false=>
     clear hr2
     go_wp2_with fail
     refine(q_wakes HE.out HB.out).mono ?_
     rintro e3 w3 ⟨rfl,hb⟩
     replace HB:=Lib.hid (HB.out.trans (hb.mono HB.out.size))
     clear hb
     go_wp2_with fail
     go_ret
     exact⟨rfl,HB.out⟩
    |true=>
     have hren:=(renames_plain HR.out hr2).trans HCD.out
     have hsc:=q_scope HE.out HB.out (pre_rn HPre.out) HP9.out
     rw[hren] at hsc
     have HSc:=Lib.hid hsc
     clear hr2 hren hsc
     go_wp2_with fail
     refine HSc.out.mono ?_
     rintro e11 w11 ⟨rfl,hb⟩
     replace hY4:=Lib.hid ((hY4.out.later hb).later (below_box w11 (.cells #[.int .i64 c,.int .i64 d] 49)))
     replace HB:=Lib.hid (HB.out.trans (hb.mono HB.out.size))
     clear hb f0 f1 f2 f3 f4 f5 f6 f7 HSc
     have d0:=hY4.out.2 0 _ rfl
     have d1:=hY4.out.2 1 _ rfl
     have q1:(c==c)=true:=by simp
     have q2:(d==d)=true:=by simp
     go_wp2_with fail
     refine(q_wakes HE.out (HB.out.trans ((below_box w11 _).mono HB.out.size))).mono ?_
     rintro e3 w12 ⟨rfl,hb⟩
     have HB2:=Lib.hid ((HB.out.trans ((below_box w11 _).mono HB.out.size)).trans (hb.mono (Nat.le_trans HB.out.size (by simp))))
     clear hb
     go_wp2_with fail
     go_ret
     exact⟨rfl,HB2.out⟩
 ·go_wp2_with fail
  refine(q_wakes HE.out HB.out).mono ?_
  rintro e3 w3 ⟨rfl,hb⟩
  replace HB:=Lib.hid (HB.out.trans (hb.mono HB.out.size))
  clear hb
  go_wp2_with fail
  go_ret
  exact⟨rfl,HB.out⟩
end Go.Proofs.YtgmapdcdmomioaaGreatDoor.Pa
