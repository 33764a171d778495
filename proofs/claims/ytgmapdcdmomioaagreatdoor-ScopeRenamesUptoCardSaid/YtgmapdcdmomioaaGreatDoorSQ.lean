/- renamed by hand: the names in an expression, one letter longer, changed in place. -/
import Derived.Test.YtgmapdcdmomioaaGreatDoorSP
import Derived.Test.YtgmapdcdmomioaaGreatDoorSM
import Derived.Test.YtgmapdcdmomioaaGreatDoorSN
set_option linter.all false
set_option autoImplicit false
set_option maxHeartbeats 4000000
set_option maxRecDepth 100000
namespace Go.Proofs.YtgmapdcdmomioaaGreatDoor.Pa
open Go Go.Proofs.YtgmapdcdmomioaaGreatDoor.Am Go.Proofs.YtgmapdcdmomioaaGreatDoor.Hw Go.RowKit
def exZ:List Value:=[.int .i64 0,.string ⟨#[]⟩,.string ⟨#[]⟩,.int .i64 0,.slice none 0 0,.slice none 0 0,.int .i64 0]
theorem rne_round{es:List Ex'}{j:Nat}(hj:j<es.length){k n p:Int}{s r:Str}{a:List Ex'}{q:List Pt}(hp:es[j]=.mk k s r n a q p){b c:Nat}{F1 Fp F2:List Nat}{x1 x2:List Value}{va vb:Value}{w w5 w2:World}
 (hb:b ∉ F1++(Fp++F2)) (hA:Apart F1 (Fp++F2)) (hB:Apart Fp F2) (h1:EsM w ((es.take j).map rnE) F1 x1) (h2:EsM w (es.drop (j+1)) F2 x2)
 (hk:Kept Fp w w5) (h3:ExM w5 (.mk 0 [] [] 0 (rnEs a) (rnPs q) 0) Fp va vb) (hk2:Kept [b] w5 w2) (ho:w2.ownsRow 0 27 7 (.slice (some ⟨b,0,none⟩) es.length c) es.length (x1++(exCells k (rnS k s) (rnR r) n va vb p++x2))):
 AM w2 (mixF rnE es (j+1)) (b::(F1++(Fp++F2))) (.slice (some ⟨b,0,none⟩) es.length c):=by
 have nb:∀x∈F1++(Fp++F2),x ∉ [b]:=λx hx h=>by
  simp only[List.mem_singleton] at h
  subst h
  exact hb hx
 have keep:∀x,x∈F1∨x∈F2→x<w.heap.size→w2.heap[x]?=w.heap[x]?:=λx hx hlt=>by
  have hxp:x ∉ Fp:=λh=>by
   rcases hx with h'|h'
   ·exact hA x h' (by simp[h])
   ·exact hB x h h'
  exact(hk2.block x (Nat.lt_of_lt_of_le hlt hk.size) (nb x (by rcases hx with h|h<;>simp[h]))).trans (hk.block x hlt hxp)
 unfold AM
 rw[mixF_len]
 refine .inr ⟨b,c,_,_,rfl,rfl,hb,ho,?_⟩
 rw[mixF_succ hj,hp,rnE]
 exact EsM.put hA hB (EsM.kept _ _ _ (λx hx=>keep x (.inl hx) (EsM.lt _ _ _ h1 x hx)) h1) (ExM.kept _ _ _ _ (λx hx=>hk2.block x (ExM.lt _ _ _ _ h3 x hx) (nb x (by simp[hx]))) h3).args (EsM.kept _ _ _ (λx hx=>keep x (.inr hx) (EsM.lt _ _ _ h2 x hx)) h2)
def RnEAt:Ex'→Prop
 |.mk k s r n a q p=>∀(F:List Nat) (w:World) (va vb:Value),ExM w (.mk k s r n a q p) F va vb→Calls Tryz.prog 43 #[exprV k s r n va vb p] w λe w'=>e=.returned (exprV k (rnS k s) (rnR r) n va vb p)∧Kept F w w'∧ExM w' (.mk 0 [] [] 0 (rnEs a) (rnPs q) 0) F va vb
theorem rne_step(k:Int)(s r:Str)(n:Int)(a:List Ex')(q:List Pt)(p:Int)(iha:∀y∈a,RnEAt y)(ihq:∀y∈q,RnPAt y)(hla:a.length≤2^40)(hlq:q.length≤2^40)(hs:s.length≤2^40)(hr:r.length≤2^40):RnEAt (.mk k s r n a q p):=by
 intro F w va vb hv
 have HLT:=Lib.hid (ExM.lt _ _ _ _ hv)
 obtain⟨Fa,Fb,rfl,hAp,hMa,hMb⟩:=exM_iff.1 hv
 obtain⟨ab,ac,rfl⟩:=hMa.slice
 have hshape:∃qb c,vb=.slice qb q.length c:=by
  rw[PtM] at hMb
  rcases hMb with ⟨rfl,_,rfl⟩|⟨b,c,_,_,rfl,_⟩<;>exact⟨_,_,rfl⟩
 obtain⟨qb,qc,rfl⟩:=hshape
 obtain⟨L,hL⟩:∃L,L=a.length:=⟨_,rfl⟩
 obtain⟨M,hM⟩:∃M,M=q.length:=⟨_,rfl⟩
 rw[←hL] at hla hMa⊢
 rw[←hM] at hlq hMb⊢
 have HA:=Lib.hid hMa
 have HB:=Lib.hid hMb
 have HAp:=Lib.hid hAp
 have HIa:=Lib.hid iha
 have HIq:=Lib.hid ihq
 have HL:=Lib.hid hL
 have HM:=Lib.hid hM
 obtain⟨s',hs'⟩:∃q,q=rnS k s:=⟨_,rfl⟩
 obtain⟨r',hr'⟩:∃q,q=rnR r:=⟨_,rfl⟩
 rw[←hs',←hr']
 have HS:=Lib.hid hs'
 have HR:=Lib.hid hr'
 have HB0:=λ(s r:Str)=>Lib.hid (RnB.start (w:=w) (cs:=exCells k s r n (.slice ab L ac) (.slice qb M qc) p) (zs:=exZ) (t:=27) (t':=27) (S:=[]) (λx hx=>by cases hx))
 have HBB:=Lib.hid HB0
 have hadd:=str_add s
 have hsz:¬((((⟨s.toArray⟩:ByteArray).size+(⟨#[121]⟩:ByteArray).size:Nat):Int)>9223372036854775807):=by rw[ba_size,show(⟨#[121]⟩:ByteArray).size=1 from rfl];omega
 have HRa:=Lib.hid (str_add r)
 have HRz:Hid (¬((((⟨r.toArray⟩:ByteArray).size+(⟨#[121]⟩:ByteArray).size:Nat):Int)>9223372036854775807)):=Lib.hid (by rw[ba_size,show(⟨#[121]⟩:ByteArray).size=1 from rfl];omega)
 clear hv iha ihq hL hM hMa hMb hAp hs' hr' HB0
 unfold exprV
 obtain⟨b1,hb1⟩:∃b1:Bool,b1=decide (s≠[]∧(k=1∨k=3∨k=5∨k=6)):=⟨_,rfl⟩
 have HB1:=Lib.hid hb1
 clear hb1
 go_enter Tryz.func43,Tryz.ntmps43
 go_upto_region 1 with fail
 go_cut [27] (λv wx=>v=.bool b1∧Hid (RnB [] w (exCells k s r n (.slice ab L ac) (.slice qb M qc) p) exZ wx))
 case first=>
  by_cases e0:s=[]
  ·have d0:(s==[])=true:=by simpa using e0
   have d9:b1=false:=by rw[HB1.out];simp[e0]
   have H9:=Lib.hid d9
   clear e0 d9
   go_wp2_with fail
   go_meet
   exact⟨by rw[H9.out],HBB.out s r⟩
  ·have d0:(s==[])=false:=by simpa using e0
   by_cases h1:k=1
   ·have t1:(k==1)=true:=by simpa using h1
    have H9:=Lib.hid (show b1=true from by rw[HB1.out];simp[e0,h1])
    clear e0 h1
    go_wp2_with fail
    go_meet
    exact⟨by rw[H9.out],HBB.out s r⟩
   ·have t1:(k==1)=false:=by simpa using h1
    by_cases h3:k=3
    ·have t3:(k==3)=true:=by simpa using h3
     have H9:=Lib.hid (show b1=true from by rw[HB1.out];simp[e0,h3])
     clear e0 h1 h3
     go_wp2_with fail
     go_meet
     exact⟨by rw[H9.out],HBB.out s r⟩
    ·have t3:(k==3)=false:=by simpa using h3
     by_cases h5:k=5
     ·have t5:(k==5)=true:=by simpa using h5
      have H9:=Lib.hid (show b1=true from by rw[HB1.out];simp[e0,h5])
      clear e0 h1 h3 h5
      go_wp2_with fail
      go_meet
      exact⟨by rw[H9.out],HBB.out s r⟩
     ·have t5:(k==5)=false:=by simpa using h5
      by_cases h6:k=6
      ·have t6:(k==6)=true:=by simpa using h6
       have H9:=Lib.hid (show b1=true from by rw[HB1.out];simp[e0,h6])
       clear e0 h1 h3 h5 h6
       go_wp2_with fail
       go_meet
       exact⟨by rw[H9.out],HBB.out s r⟩
      ·have t6:(k==6)=false:=by simpa using h6
       have H9:=Lib.hid (show b1=false from by rw[HB1.out];simp[h1,h3,h5,h6])
       clear e0 h1 h3 h5 h6
       go_wp2_with fail
       go_meet
       exact⟨by rw[H9.out],HBB.out s r⟩
 case rest=>
 obtain⟨rfl,HC1⟩:=hcut
 go_upto_if 27 with fail
 go_cut [] (λwx=>Hid (RnB [] w (exCells k s' r n (.slice ab L ac) (.slice qb M qc) p) exZ wx))
 case first=>
  cases b1 with
  |true=>
   have hy:yS s=s':=by rw[HS.out,rnS,if_pos (of_decide_eq_true HB1.out.symm)]
   rw[hy] at hadd
   have c1:=HC1.out.box.2 1 _ rfl
   have z1:=HC1.out.bfz 1
   clear hy
   go_wp2_with fail
   go_meet
   exact Lib.hid (HC1.out.set (o:=1) (v:=.string ⟨s'.toArray⟩) (by simp[exCells]))
  |false=>
   have hy:s'=s:=by rw[HS.out,rnS,if_neg (of_decide_eq_false HB1.out.symm)]
   subst hy
   go_wp2_with fail
   go_meet
   exact HC1
 case rest=>
 have HC2:=hcut
 have c2:=HC2.out.box.2 2 _ rfl
 clear hcut HC1 hadd hsz HBB
 obtain⟨b2,d2⟩:∃b2,(r==[])=b2:=⟨_,rfl⟩
 go_upto_if 34 with fail
 go_cut [] (λwx=>Hid (RnB [] w (exCells k s' r' n (.slice ab L ac) (.slice qb M qc) p) exZ wx))
 case first=>
  cases b2 with
  |true=>
   have hy:r'=r:=by rw[HR.out,rnR,if_neg (by simpa using d2)]
   subst hy
   go_wp2_with fail
   go_meet
   exact HC2
  |false=>
   have hy:yS r=r':=by rw[HR.out,rnR,if_pos (by simpa using d2)]
   have hadd:=HRa.out
   have hsz:=HRz.out
   rw[hy] at hadd
   have z2:=HC2.out.bfz 2
   clear hy d2
   go_wp2_with fail
   go_meet
   exact Lib.hid (HC2.out.set (o:=2) (v:=.string ⟨r'.toArray⟩) (by simp[exCells]))
 case rest=>
 have HC3:=Lib.hid (hcut.out.grow (λx hx=>by cases hx) HLT.out)
 have HA3:=Lib.hid (AM.kept (λx hx=>hcut.out.kept.block x (HLT.out x (by simp[hx])) (by simp)) HA.out)
 have HB3:=Lib.hid (PtM.kept _ _ _ (λx hx=>hcut.out.kept.block x (HLT.out x (by simp[hx])) (by simp)) HB.out)
 clear hcut HC2 c2 HA HB HRa HRz HB1
 have z5:=HC3.out.box.2 5 _ rfl
 go_wp2_with fail
 go_loopg [3] M (λg x3 wr=>∃j:Nat,j+g=M∧x3=.int .i64 j∧Hid (RnB (Fa++Fb) w (exCells k s' r' n (.slice ab L ac) (.slice qb M qc) p) exZ wr)∧Hid (AM wr a Fa (.slice ab L ac))∧Hid (PtM wr (.mk 0 [] 0 (mixF rnP q j) 0) Fb (.slice qb M qc)))
 case atStart=>exact⟨0,by omega,rfl,HC3,HA3,Lib.hid (by rw[mixF_zero];exact HB3.out)⟩
 case round=>
  obtain⟨j,hj,rfl,hRB,hM,hP⟩:=hrel
  by_cases hlt:j<M
  ·have hjp:j<q.length:=by have:=HM.out;omega
   obtain⟨W0,hW0⟩:∃W0,wr.drew=W0:=⟨_,rfl⟩
   have HRB:=Lib.hid (show RnB (Fa++Fb) w (exCells k s' r' n (.slice ab L ac) (.slice qb M qc) p) exZ W0 from by rw[←hW0];exact hRB.out.next (Kept.refl [] _).drew (λx hx=>by cases hx))
   have HMA:=Lib.hid (show AM W0 a Fa (.slice ab L ac) from by rw[←hW0];exact AM.kept (w:=wr) (w':=wr.drew) (λx hx=>rfl) hM.out)
   have hP':PtM W0 (.mk 0 [] 0 (mixF rnP q j) 0) Fb (.slice qb M qc):=by rw[←hW0];exact PtM.kept (w:=wr) (w':=wr.drew) _ _ _ (λx hx=>rfl) hP.out
   rw[PtM,mixF_len] at hP'
   rcases hP' with ⟨h0,_⟩|⟨b,c,F',xs,hs',rfl,hb,ho,hps⟩
   ·have:=congrArg List.length h0
    rw[mixF_len] at this
    rw[List.length_nil] at this
    omega
   ·cases hs'
    rw[mixF_at hjp] at hps
    obtain⟨k1,s1,n1,a1,p1,hp⟩:∃k s n b p,q[j]=.mk k s n b p:=by
     cases h:q[j] with
     |mk k s n a p=>exact⟨k,s,n,a,p,rfl⟩
    rw[hp] at hps
    obtain⟨F1,Fp,F2,x1,va,x2,rfl,hA,hB,rfl,hx1,h1,h3,h2⟩:=hps.atx
    have hx1:x1.length=j*5:=by
     rw[hx1,List.length_map,List.length_take]
     congr 1;omega
    have hT:=HIq.out q[j] (List.getElem_mem hjp)
    rw[hp,RnPAt] at hT
    unfold ptV at hT
    obtain⟨ea,en,ec,rfl⟩:=ptM_slice h3
    have HO:Hid (W0.ownsRow 0 127 5 (.slice (some ⟨b,0,none⟩) q.length qc) q.length (x1++(ptCells k1 s1 n1 (.slice ea en ec) p1++x2))):=Lib.hid ho
    have HT:=Lib.hid hT
    have H1:=Lib.hid h1
    have H2:=Lib.hid h2
    have H3:=Lib.hid h3
    have HN:=Lib.hid (And.intro hb (And.intro hA (And.intro hB hp)))
    have HX:=Lib.hid hx1
    have HNb:Hid (b ∉ Fp):=Lib.hid (λh=>hb (by simp[h]))
    have HSub:Hid (∀x∈Fp,x∈Fa++(b::(F1++(Fp++F2)))):=Lib.hid (λx hx=>by simp[hx])
    have cw:=hRB.out.box.2 5 _ rfl
    clear ho hps hT h1 h2 h3 hb hA hB hp hx1 hP hRB hM
    have HKK:Hid (∀vo w2,CJ 8 W0 (λw2=>Kept Fp W0 w2∧PtM w2 (.mk 0 [] 0 (rnPs a1) 0) Fp (.slice ea en ec)) (rnT w.heap.size 5 b j 5 (.slice (some ⟨b,0,none⟩) q.length qc) (.agg #[.int .i64 k1,.string ⟨s1.toArray⟩,.int .i64 n1,.slice ea en ec,.int .i64 p1]) (.agg #[.int .i64 k1,.string ⟨(rnQ k1 s1).toArray⟩,.int .i64 n1,.slice ea en ec,.int .i64 p1])) vo w2→Kept Fp W0 w2):=Lib.hid (λvo w2 hJ=>by
     cases h8:vo 8 with
     |none=>rw[hJ.pre h8];exact Kept.refl _ _
     |some x=>exact(hJ.post (by rw[h8];simp)).1)
    go_upto_region 8 with fail
    refine wp_region_va [9,10] (CJ 8 W0 (λw2=>Kept Fp W0 w2∧PtM w2 (.mk 0 [] 0 (rnPs a1) 0) Fp (.slice ea en ec)) (rnT w.heap.size 5 b j 5 (.slice (some ⟨b,0,none⟩) q.length qc) (.agg #[.int .i64 k1,.string ⟨s1.toArray⟩,.int .i64 n1,.slice ea en ec,.int .i64 p1]) (.agg #[.int .i64 k1,.string ⟨(rnQ k1 s1).toArray⟩,.int .i64 n1,.slice ea en ec,.int .i64 p1]))) (by kernel_rfl) (by kernel_rfl) (by rw[hW0];exact CJ.start) (by kernel_rfl) ?_ ?_
    ·refine⟨?_,?_,?_,?_,?_,?_,?_,?_,?_,?_,?_,trivial⟩
     all_goals (first|(rw[if_pos (by decide)];trivial)|rw[if_neg (by decide)])
     ·intro act wx vo hJ hn hold hpre K hK
      have h7:=hold 1 (by decide)
      have HK:=Lib.hid (hK _ _ (hJ.put (i:=0) (by decide) (v:=.pointer (some ⟨w.heap.size,5,none⟩)) rfl))
      simp[Act.eval] at h7
      clear hold hpre hK hJ hn
      go_simp
      exact HK.out
     ·intro act wx vo hJ hn hold hpre K hK
      have e0:act.eval (.tmp 46)=.pointer (some ⟨w.heap.size,5,none⟩):=hJ.told 0 _ ((hpre 0 _ rfl (by kernel_rfl)).2 46 rfl)
      have hc:=(HRB.out.next (HKK.out _ _ hJ) HSub.out).box.2 5 _ rfl
      have HK:=Lib.hid (hK _ _ (hJ.put (i:=1) (by decide) (v:=.slice (some ⟨b,0,none⟩) q.length qc) rfl))
      simp[Act.eval] at e0
      clear hold hpre hK hJ hn
      go_simp
      exact HK.out
     ·intro act wx vo hJ hn hold hpre K hK
      have h7:=hold 3 (by decide)
      have HK:=Lib.hid (hK _ _ (hJ.put (i:=2) (by decide) (v:=.int .i64 j) rfl))
      simp[Act.eval] at h7
      clear hold hpre hK hJ hn
      go_simp
      exact HK.out
     ·intro act wx vo hJ hn hold hpre K hK
      have h7:=hold 1 (by decide)
      have HK:=Lib.hid (hK _ _ (hJ.put (i:=3) (by decide) (v:=.pointer (some ⟨w.heap.size,5,none⟩)) rfl))
      simp[Act.eval] at h7
      clear hold hpre hK hJ hn
      go_simp
      exact HK.out
     ·intro act wx vo hJ hn hold hpre K hK
      have e0:act.eval (.tmp 49)=.pointer (some ⟨w.heap.size,5,none⟩):=hJ.told 3 _ ((hpre 3 _ rfl (by kernel_rfl)).2 49 rfl)
      have hc:=(HRB.out.next (HKK.out _ _ hJ) HSub.out).box.2 5 _ rfl
      have HK:=Lib.hid (hK _ _ (hJ.put (i:=4) (by decide) (v:=.slice (some ⟨b,0,none⟩) q.length qc) rfl))
      simp[Act.eval] at e0
      clear hold hpre hK hJ hn
      go_simp
      exact HK.out
     ·intro act wx vo hJ hn hold hpre K hK
      have h7:=hold 3 (by decide)
      have HK:=Lib.hid (hK _ _ (hJ.put (i:=5) (by decide) (v:=.int .i64 j) rfl))
      simp[Act.eval] at h7
      clear hold hpre hK hJ hn
      go_simp
      exact HK.out
     ·intro act wx vo hJ hn hold hpre K hK
      have e0:act.eval (.tmp 50)=.slice (some ⟨b,0,none⟩) q.length qc:=hJ.told 4 _ ((hpre 4 _ rfl (by kernel_rfl)).2 50 rfl)
      have e1:act.eval (.tmp 51)=.int .i64 j:=hJ.told 5 _ ((hpre 5 _ rfl (by kernel_rfl)).2 51 rfl)
      have HK:=Lib.hid (hK _ _ (hJ.put (i:=6) (by decide) (v:=.pointer (some ⟨b,j*5,none⟩)) rfl))
      simp[Act.eval] at e0 e1
      clear hold hpre hK hJ hn
      go_simp
      exact HK.out
     ·intro act wx vo hJ hn hold hpre K hK
      have e0:act.eval (.tmp 52)=.pointer (some ⟨b,j*5,none⟩):=hJ.told 6 _ ((hpre 6 _ rfl (by kernel_rfl)).2 52 rfl)
      have hr:=own_cells (ownsRow_heap HO.out ((HKK.out _ _ hJ).block b (HO.out.lt _ rfl).2 HNb.out)) HX.out hjp rfl
      have c0:=hr 0 _ rfl
      have c1:=hr 1 _ rfl
      have c2:=hr 2 _ rfl
      have c3:=hr 3 _ rfl
      have c4:=hr 4 _ rfl
      simp only[Nat.add_zero] at c0
      clear hr
      have HK:=Lib.hid (hK _ _ (hJ.put (i:=7) (by decide) (v:=.agg #[.int .i64 k1,.string ⟨s1.toArray⟩,.int .i64 n1,.slice ea en ec,.int .i64 p1]) rfl))
      simp[Act.eval] at e0
      clear hold hpre hK hJ hn
      go_simp
      exact HK.out
     ·intro act wx vo hJ hn hold hpre K hK
      have e0:act.eval (.tmp 53)=.agg #[.int .i64 k1,.string ⟨s1.toArray⟩,.int .i64 n1,.slice ea en ec,.int .i64 p1]:=hJ.told 7 _ ((hpre 7 _ rfl (by kernel_rfl)).2 53 rfl)
      obtain rfl:W0=wx:=(hJ.pre hn).symm
      have HK:=Lib.hid (λw2 (hP:(λw2=>Kept Fp W0 w2∧PtM w2 (.mk 0 [] 0 (rnPs a1) 0) Fp (.slice ea en ec)) w2)=>hK _ w2 (hJ.call (v:=.agg #[.int .i64 k1,.string ⟨(rnQ k1 s1).toArray⟩,.int .i64 n1,.slice ea en ec,.int .i64 p1]) rfl hP))
      simp[Act.eval] at e0
      clear hold hpre hK hJ hn HKK hW0
      go_simp
      refine(HT.out Fp _ _ H3.out).mono ?_
      rintro e w5 ⟨rfl,hk5,hp5⟩
      exact HK.out _ ⟨hk5,hp5⟩
    ·intro vals w5 vo hv hJ
     have e0:vals 0=.pointer (some ⟨w.heap.size,5,none⟩):=hJ.told 0 _ (hv 0 (by decide) (by decide))
     have e1:vals 1=.slice (some ⟨b,0,none⟩) q.length qc:=hJ.told 1 _ (hv 1 (by decide) (by decide))
     have e2:vals 2=.int .i64 j:=hJ.told 2 _ (hv 2 (by decide) (by decide))
     have e3:vals 3=.pointer (some ⟨w.heap.size,5,none⟩):=hJ.told 3 _ (hv 3 (by decide) (by decide))
     have e4:vals 4=.slice (some ⟨b,0,none⟩) q.length qc:=hJ.told 4 _ (hv 4 (by decide) (by decide))
     have e5:vals 5=.int .i64 j:=hJ.told 5 _ (hv 5 (by decide) (by decide))
     have e6:vals 6=.pointer (some ⟨b,j*5,none⟩):=hJ.told 6 _ (hv 6 (by decide) (by decide))
     have e7:vals 7=.agg #[.int .i64 k1,.string ⟨s1.toArray⟩,.int .i64 n1,.slice ea en ec,.int .i64 p1]:=hJ.told 7 _ (hv 7 (by decide) (by decide))
     have e8:vals 8=.agg #[.int .i64 k1,.string ⟨(rnQ k1 s1).toArray⟩,.int .i64 n1,.slice ea en ec,.int .i64 p1]:=hJ.told 8 _ (hv 8 (by decide) (by decide))
     obtain⟨hk5,hp5⟩:=hJ.post (by rw[hv 8 (by decide) (by decide)];simp)
     have HR5:=Lib.hid (HRB.out.next hk5 HSub.out)
     have ho5:=ownsRow_heap HO.out (hk5.block b (HO.out.lt _ rfl).2 HNb.out)
     have hr:=own_cells ho5 HX.out hjp rfl
     have c0:=hr 0 _ rfl
     have c1:=hr 1 _ rfl
     have c2:=hr 2 _ rfl
     have c3:=hr 3 _ rfl
     have c4:=hr 4 _ rfl
     have z0:=ho5.frozenAt (j*5)
     have z1:=ho5.frozenAt (j*5+1)
     have z2:=ho5.frozenAt (j*5+2)
     have z3:=ho5.frozenAt (j*5+3)
     have z4:=ho5.frozenAt (j*5+4)
     simp only[Nat.add_zero] at c0
     obtain⟨W9,hW9⟩:∃W9,setsFrom w5 b (j*5) (ptCells k1 (rnQ k1 s1) n1 (.slice ea en ec) p1)=W9:=⟨_,rfl⟩
     have hk9:Kept [b] w5 W9:=by rw[←hW9];exact setsFrom_kept _ _ _
     have ho9:=setsFrom_own (ptCells k1 s1 n1 (.slice ea en ec) p1) (ptCells k1 (rnQ k1 s1) n1 (.slice ea en ec) p1) x1 x2 w5 rfl ho5
     rw[HX.out,hW9] at ho9
     have G1:=Lib.hid (HR5.out.next hk9 (λx hx=>by simp only[List.mem_singleton] at hx;subst hx;simp))
     have G2:=Lib.hid (rnp_round hjp HN.out.2.2.2 HN.out.1 HN.out.2.1 HN.out.2.2.1 H1.out H2.out hk5 hp5 hk9 ho9)
     have G3:=Lib.hid (AM.kept (w:=W0) (w':=W9) (λx hx=>by
      have n1:x ∉ b::(F1++(Fp++F2)):=HAp.out x hx
      exact(hk9.block x (Nat.lt_of_lt_of_le (HMA.out.lt x hx) hk5.size) (λh=>n1 (by simp only[List.mem_singleton] at h;subst h;simp))).trans (hk5.block x (HMA.out.lt x hx) (λh=>n1 (by simp[h])))) HMA.out)
     simp only[setsFrom,exCells,ptCells,Nat.add_assoc,Nat.reduceAdd] at hW9
     subst hW9
     simp only[fillA,List.contains_cons,List.contains_nil,Nat.reduceAdd,Nat.reduceBEq,Bool.or_false,Bool.or_true,Bool.false_eq_true,if_true,if_false,Act.put,List.setIfInBounds_toArray,List.set_cons_zero,List.set_cons_succ,e0,e1,e2,e3,e4,e5,e6,e7,e8]
     simp only[List.filterMap_cons,List.filterMap_nil,List.getElem?_toArray,List.getElem?_cons_succ,List.getElem?_cons_zero]
     clear hv hJ e0 e1 e2 e3 e4 e5 e6 e7 e8 hr hk5 hp5 ho5 hk9 ho9 HKK
     go_wp2_with fail
     go_roundg (q.length-(j+1))
     case measure=>omega
     case rel=>exact⟨j+1,by omega,by go_num,G1,G3,G2⟩
  ·have hjl:j=M:=by omega
   subst hjl
   have HM1:=hM
   have HP1:Hid (PtM wr (.mk 0 [] 0 (rnPs q) 0) Fb (.slice qb j qc)):=Lib.hid (by
    have h:=hP.out
    rw[HM.out,mixF_all,←rnPs_map] at h
    rw[HM.out]
    exact h)
   have HR1:=hRB
   have z4:=HR1.out.box.2 4 _ rfl
   have z5':=HR1.out.box.2 5 _ rfl
   clear hP hM hRB HC3 HA3 HB3 z5 HIq
   go_wp2_with fail
   go_loopg [4] L (λg x4 wr=>∃i:Nat,i+g=L∧x4=.int .i64 i∧Hid (RnB (Fa++Fb) w (exCells k s' r' n (.slice ab L ac) (.slice qb j qc) p) exZ wr)∧Hid (AM wr (mixF rnE a i) Fa (.slice ab L ac))∧Hid (PtM wr (.mk 0 [] 0 (rnPs q) 0) Fb (.slice qb j qc)))
   case atStart=>exact⟨0,by omega,rfl,HR1,Lib.hid (by rw[mixF_zero];exact HM1.out),HP1⟩
   case round=>
    obtain⟨M,hMj⟩:∃M,M=j:=⟨_,rfl⟩
    subst hMj
    obtain⟨j,hj,rfl,hRB,hM,hP⟩:=hrel
    by_cases hlt:j<L
    ·have hjp:j<a.length:=by have:=HL.out;omega
     obtain⟨W0,hW0⟩:∃W0,wr.drew=W0:=⟨_,rfl⟩
     have HRB:=Lib.hid (show RnB (Fa++Fb) w (exCells k s' r' n (.slice ab L ac) (.slice qb M qc) p) exZ W0 from by rw[←hW0];exact hRB.out.next (Kept.refl [] _).drew (λx hx=>by cases hx))
     have HPB:=Lib.hid (show PtM W0 (.mk 0 [] 0 (rnPs q) 0) Fb (.slice qb M qc) from by rw[←hW0];exact PtM.kept (w:=wr) (w':=wr.drew) _ _ _ (λx hx=>rfl) hP.out)
     have hM':AM W0 (mixF rnE a j) Fa (.slice ab L ac):=by rw[←hW0];exact AM.kept (w:=wr) (w':=wr.drew) (λx hx=>rfl) hM.out
     unfold AM at hM'
     rw[mixF_len] at hM'
     rcases hM' with ⟨h0,_⟩|⟨b,c,F',xs,hs',rfl,hb,ho,hps⟩
     ·have:=congrArg List.length h0
      rw[mixF_len] at this
      rw[List.length_nil] at this
      omega
     ·cases hs'
      rw[mixF_at hjp] at hps
      obtain⟨k1,s1,r1,n1,a1,q1,p1,hp⟩:∃k s r n b c p,a[j]=.mk k s r n b c p:=by
       cases h:a[j] with
       |mk k s r n a b p=>exact⟨k,s,r,n,a,b,p,rfl⟩
      rw[hp] at hps
      obtain⟨F1,Fp,F2,x1,va,vb,x2,rfl,hA,hB,rfl,hx1,h1,h3,h2⟩:=hps.at
      have hx1:x1.length=j*7:=by
       rw[hx1,List.length_map,List.length_take]
       congr 1;omega
      have hT:=HIa.out a[j] (List.getElem_mem hjp)
      rw[hp,RnEAt] at hT
      unfold exprV at hT
      obtain⟨Ga,Gb,hG,hGA,hMa1,hMb1⟩:=exM_iff.1 h3
      obtain⟨ea,ec,rfl⟩:=hMa1.slice
      obtain⟨ba,bn,bc,rfl⟩:=ptM_slice hMb1
      obtain⟨LE,hLE⟩:∃n,n=a1.length:=⟨_,rfl⟩
      rw[←hLE] at h3 ho
      have HO:Hid (W0.ownsRow 0 27 7 (.slice (some ⟨b,0,none⟩) a.length ac) a.length (x1++(exCells k1 s1 r1 n1 (.slice ea LE ec) (.slice ba bn bc) p1++x2))):=Lib.hid ho
      have HT:=Lib.hid hT
      have H1:=Lib.hid h1
      have H2:=Lib.hid h2
      have H3:=Lib.hid h3
      have HN:=Lib.hid (And.intro hb (And.intro hA (And.intro hB hp)))
      have HX:=Lib.hid hx1
      have HNb:Hid (b ∉ Fp):=Lib.hid (λh=>hb (by simp[h]))
      have HSub:Hid (∀x∈Fp,x∈(b::(F1++(Fp++F2)))++Fb):=Lib.hid (λx hx=>by simp[hx])
      have cw:=hRB.out.box.2 4 _ rfl
      clear ho hps hT h1 h2 h3 hb hA hB hp hx1 hP hRB hM hG hGA hMa1 hMb1 hLE
      have HKK:Hid (∀vo w2,CJ 8 W0 (λw2=>Kept Fp W0 w2∧ExM w2 (.mk 0 [] [] 0 (rnEs a1) (rnPs q1) 0) Fp (.slice ea LE ec) (.slice ba bn bc)) (rnT w.heap.size 4 b j 7 (.slice (some ⟨b,0,none⟩) a.length ac) (.agg #[.int .i64 k1,.string ⟨s1.toArray⟩,.string ⟨r1.toArray⟩,.int .i64 n1,.slice ea LE ec,.slice ba bn bc,.int .i64 p1]) (.agg #[.int .i64 k1,.string ⟨(rnS k1 s1).toArray⟩,.string ⟨(rnR r1).toArray⟩,.int .i64 n1,.slice ea LE ec,.slice ba bn bc,.int .i64 p1])) vo w2→Kept Fp W0 w2):=Lib.hid (λvo w2 hJ=>by
       cases h8:vo 8 with
       |none=>rw[hJ.pre h8];exact Kept.refl _ _
       |some x=>exact(hJ.post (by rw[h8];simp)).1)
      go_upto_region 12 with fail
      refine wp_region_va [9,10] (CJ 8 W0 (λw2=>Kept Fp W0 w2∧ExM w2 (.mk 0 [] [] 0 (rnEs a1) (rnPs q1) 0) Fp (.slice ea LE ec) (.slice ba bn bc)) (rnT w.heap.size 4 b j 7 (.slice (some ⟨b,0,none⟩) a.length ac) (.agg #[.int .i64 k1,.string ⟨s1.toArray⟩,.string ⟨r1.toArray⟩,.int .i64 n1,.slice ea LE ec,.slice ba bn bc,.int .i64 p1]) (.agg #[.int .i64 k1,.string ⟨(rnS k1 s1).toArray⟩,.string ⟨(rnR r1).toArray⟩,.int .i64 n1,.slice ea LE ec,.slice ba bn bc,.int .i64 p1]))) (by kernel_rfl) (by kernel_rfl) (by rw[hW0];exact CJ.start) (by kernel_rfl) ?_ ?_
      ·refine⟨?_,?_,?_,?_,?_,?_,?_,?_,?_,?_,?_,trivial⟩
       all_goals (first|(rw[if_pos (by decide)];trivial)|rw[if_neg (by decide)])
       ·intro act wx vo hJ hn hold hpre K hK
        have h7:=hold 1 (by decide)
        have HK:=Lib.hid (hK _ _ (hJ.put (i:=0) (by decide) (v:=.pointer (some ⟨w.heap.size,4,none⟩)) rfl))
        simp[Act.eval] at h7
        clear hold hpre hK hJ hn
        go_simp
        exact HK.out
       ·intro act wx vo hJ hn hold hpre K hK
        have e0:act.eval (.tmp 63)=.pointer (some ⟨w.heap.size,4,none⟩):=hJ.told 0 _ ((hpre 0 _ rfl (by kernel_rfl)).2 63 rfl)
        have hc:=(HRB.out.next (HKK.out _ _ hJ) HSub.out).box.2 4 _ rfl
        have HK:=Lib.hid (hK _ _ (hJ.put (i:=1) (by decide) (v:=.slice (some ⟨b,0,none⟩) a.length ac) rfl))
        simp[Act.eval] at e0
        clear hold hpre hK hJ hn
        go_simp
        exact HK.out
       ·intro act wx vo hJ hn hold hpre K hK
        have h7:=hold 4 (by decide)
        have HK:=Lib.hid (hK _ _ (hJ.put (i:=2) (by decide) (v:=.int .i64 j) rfl))
        simp[Act.eval] at h7
        clear hold hpre hK hJ hn
        go_simp
        exact HK.out
       ·intro act wx vo hJ hn hold hpre K hK
        have h7:=hold 1 (by decide)
        have HK:=Lib.hid (hK _ _ (hJ.put (i:=3) (by decide) (v:=.pointer (some ⟨w.heap.size,4,none⟩)) rfl))
        simp[Act.eval] at h7
        clear hold hpre hK hJ hn
        go_simp
        exact HK.out
       ·intro act wx vo hJ hn hold hpre K hK
        have e0:act.eval (.tmp 66)=.pointer (some ⟨w.heap.size,4,none⟩):=hJ.told 3 _ ((hpre 3 _ rfl (by kernel_rfl)).2 66 rfl)
        have hc:=(HRB.out.next (HKK.out _ _ hJ) HSub.out).box.2 4 _ rfl
        have HK:=Lib.hid (hK _ _ (hJ.put (i:=4) (by decide) (v:=.slice (some ⟨b,0,none⟩) a.length ac) rfl))
        simp[Act.eval] at e0
        clear hold hpre hK hJ hn
        go_simp
        exact HK.out
       ·intro act wx vo hJ hn hold hpre K hK
        have h7:=hold 4 (by decide)
        have HK:=Lib.hid (hK _ _ (hJ.put (i:=5) (by decide) (v:=.int .i64 j) rfl))
        simp[Act.eval] at h7
        clear hold hpre hK hJ hn
        go_simp
        exact HK.out
       ·intro act wx vo hJ hn hold hpre K hK
        have e0:act.eval (.tmp 67)=.slice (some ⟨b,0,none⟩) a.length ac:=hJ.told 4 _ ((hpre 4 _ rfl (by kernel_rfl)).2 67 rfl)
        have e1:act.eval (.tmp 68)=.int .i64 j:=hJ.told 5 _ ((hpre 5 _ rfl (by kernel_rfl)).2 68 rfl)
        have HK:=Lib.hid (hK _ _ (hJ.put (i:=6) (by decide) (v:=.pointer (some ⟨b,j*7,none⟩)) rfl))
        simp[Act.eval] at e0 e1
        clear hold hpre hK hJ hn
        go_simp
        exact HK.out
       ·intro act wx vo hJ hn hold hpre K hK
        have e0:act.eval (.tmp 69)=.pointer (some ⟨b,j*7,none⟩):=hJ.told 6 _ ((hpre 6 _ rfl (by kernel_rfl)).2 69 rfl)
        have hr:=own_cells (ownsRow_heap HO.out ((HKK.out _ _ hJ).block b (HO.out.lt _ rfl).2 HNb.out)) HX.out hjp rfl
        have c0:=hr 0 _ rfl
        have c1:=hr 1 _ rfl
        have c2:=hr 2 _ rfl
        have c3:=hr 3 _ rfl
        have c4:=hr 4 _ rfl
        have c5:=hr 5 _ rfl
        have c6:=hr 6 _ rfl
        simp only[Nat.add_zero] at c0
        clear hr
        have HK:=Lib.hid (hK _ _ (hJ.put (i:=7) (by decide) (v:=.agg #[.int .i64 k1,.string ⟨s1.toArray⟩,.string ⟨r1.toArray⟩,.int .i64 n1,.slice ea LE ec,.slice ba bn bc,.int .i64 p1]) rfl))
        simp[Act.eval] at e0
        clear hold hpre hK hJ hn
        go_simp
        exact HK.out
       ·intro act wx vo hJ hn hold hpre K hK
        have e0:act.eval (.tmp 70)=.agg #[.int .i64 k1,.string ⟨s1.toArray⟩,.string ⟨r1.toArray⟩,.int .i64 n1,.slice ea LE ec,.slice ba bn bc,.int .i64 p1]:=hJ.told 7 _ ((hpre 7 _ rfl (by kernel_rfl)).2 70 rfl)
        obtain rfl:W0=wx:=(hJ.pre hn).symm
        have HK:=Lib.hid (λw2 (hP:(λw2=>Kept Fp W0 w2∧ExM w2 (.mk 0 [] [] 0 (rnEs a1) (rnPs q1) 0) Fp (.slice ea LE ec) (.slice ba bn bc)) w2)=>hK _ w2 (hJ.call (v:=.agg #[.int .i64 k1,.string ⟨(rnS k1 s1).toArray⟩,.string ⟨(rnR r1).toArray⟩,.int .i64 n1,.slice ea LE ec,.slice ba bn bc,.int .i64 p1]) rfl hP))
        simp[Act.eval] at e0
        clear hold hpre hK hJ hn HKK hW0
        go_simp
        refine(HT.out Fp _ _ _ H3.out).mono ?_
        rintro e w5 ⟨rfl,hk5,hp5⟩
        exact HK.out _ ⟨hk5,hp5⟩
      ·intro vals w5 vo hv hJ
       have e0:vals 0=.pointer (some ⟨w.heap.size,4,none⟩):=hJ.told 0 _ (hv 0 (by decide) (by decide))
       have e1:vals 1=.slice (some ⟨b,0,none⟩) a.length ac:=hJ.told 1 _ (hv 1 (by decide) (by decide))
       have e2:vals 2=.int .i64 j:=hJ.told 2 _ (hv 2 (by decide) (by decide))
       have e3:vals 3=.pointer (some ⟨w.heap.size,4,none⟩):=hJ.told 3 _ (hv 3 (by decide) (by decide))
       have e4:vals 4=.slice (some ⟨b,0,none⟩) a.length ac:=hJ.told 4 _ (hv 4 (by decide) (by decide))
       have e5:vals 5=.int .i64 j:=hJ.told 5 _ (hv 5 (by decide) (by decide))
       have e6:vals 6=.pointer (some ⟨b,j*7,none⟩):=hJ.told 6 _ (hv 6 (by decide) (by decide))
       have e7:vals 7=.agg #[.int .i64 k1,.string ⟨s1.toArray⟩,.string ⟨r1.toArray⟩,.int .i64 n1,.slice ea LE ec,.slice ba bn bc,.int .i64 p1]:=hJ.told 7 _ (hv 7 (by decide) (by decide))
       have e8:vals 8=.agg #[.int .i64 k1,.string ⟨(rnS k1 s1).toArray⟩,.string ⟨(rnR r1).toArray⟩,.int .i64 n1,.slice ea LE ec,.slice ba bn bc,.int .i64 p1]:=hJ.told 8 _ (hv 8 (by decide) (by decide))
       obtain⟨hk5,hp5⟩:=hJ.post (by rw[hv 8 (by decide) (by decide)];simp)
       have HR5:=Lib.hid (HRB.out.next hk5 HSub.out)
       have ho5:=ownsRow_heap HO.out (hk5.block b (HO.out.lt _ rfl).2 HNb.out)
       have hr:=own_cells ho5 HX.out hjp rfl
       have c0:=hr 0 _ rfl
       have c1:=hr 1 _ rfl
       have c2:=hr 2 _ rfl
       have c3:=hr 3 _ rfl
       have c4:=hr 4 _ rfl
       have c5:=hr 5 _ rfl
       have c6:=hr 6 _ rfl
       have z0:=ho5.frozenAt (j*7)
       have z1:=ho5.frozenAt (j*7+1)
       have z2:=ho5.frozenAt (j*7+2)
       have z3:=ho5.frozenAt (j*7+3)
       have z4:=ho5.frozenAt (j*7+4)
       have z5:=ho5.frozenAt (j*7+5)
       have z6:=ho5.frozenAt (j*7+6)
       simp only[Nat.add_zero] at c0
       obtain⟨W9,hW9⟩:∃W9,setsFrom w5 b (j*7) (exCells k1 (rnS k1 s1) (rnR r1) n1 (.slice ea LE ec) (.slice ba bn bc) p1)=W9:=⟨_,rfl⟩
       have hk9:Kept [b] w5 W9:=by rw[←hW9];exact setsFrom_kept _ _ _
       have ho9:=setsFrom_own (exCells k1 s1 r1 n1 (.slice ea LE ec) (.slice ba bn bc) p1) (exCells k1 (rnS k1 s1) (rnR r1) n1 (.slice ea LE ec) (.slice ba bn bc) p1) x1 x2 w5 rfl ho5
       rw[HX.out,hW9] at ho9
       have G1:=Lib.hid (HR5.out.next hk9 (λx hx=>by simp only[List.mem_singleton] at hx;subst hx;simp))
       have G2:=Lib.hid (rne_round hjp HN.out.2.2.2 HN.out.1 HN.out.2.1 HN.out.2.2.1 H1.out H2.out hk5 hp5 hk9 ho9)
       have G3:=Lib.hid (PtM.kept (w:=W0) (w':=W9) _ _ _ (λx hx=>by
        have n1:x ∉ b::(F1++(Fp++F2)):=λh=>HAp.out x h hx
        exact(hk9.block x (Nat.lt_of_lt_of_le (PtM.lt _ _ _ HPB.out x hx) hk5.size) (λh=>n1 (by simp only[List.mem_singleton] at h;subst h;simp))).trans (hk5.block x (PtM.lt _ _ _ HPB.out x hx) (λh=>n1 (by simp[h])))) HPB.out)
       simp only[setsFrom,exCells,ptCells,Nat.add_assoc,Nat.reduceAdd] at hW9
       subst hW9
       simp only[fillA,List.contains_cons,List.contains_nil,Nat.reduceAdd,Nat.reduceBEq,Bool.or_false,Bool.or_true,Bool.false_eq_true,if_true,if_false,Act.put,List.setIfInBounds_toArray,List.set_cons_zero,List.set_cons_succ,e0,e1,e2,e3,e4,e5,e6,e7,e8]
       simp only[List.filterMap_cons,List.filterMap_nil,List.getElem?_toArray,List.getElem?_cons_succ,List.getElem?_cons_zero]
       clear hv hJ e0 e1 e2 e3 e4 e5 e6 e7 e8 hr hk5 hp5 ho5 hk9 ho9 HKK
       go_wp2_with fail
       go_roundg (a.length-(j+1))
       case measure=>omega
       case rel=>exact⟨j+1,by omega,by go_num,G1,G2,G3⟩
    ·have hjl:j=L:=by omega
     subst hjl
     have c0:=hRB.out.box.2 0 _ rfl
     have c1:=hRB.out.box.2 1 _ rfl
     have c2:=hRB.out.box.2 2 _ rfl
     have c3:=hRB.out.box.2 3 _ rfl
     have c4:=hRB.out.box.2 4 _ rfl
     have c5:=hRB.out.box.2 5 _ rfl
     have c6:=hRB.out.box.2 6 _ rfl
     have d0:=hRB.out.res.2 0 _ rfl
     have d1:=hRB.out.res.2 1 _ rfl
     have d2:=hRB.out.res.2 2 _ rfl
     have d3:=hRB.out.res.2 3 _ rfl
     have d4:=hRB.out.res.2 4 _ rfl
     have d5:=hRB.out.res.2 5 _ rfl
     have d6:=hRB.out.res.2 6 _ rfl
     have y0:=hRB.out.fz 0
     have y1:=hRB.out.fz 1
     have y2:=hRB.out.fz 2
     have y3:=hRB.out.fz 3
     have y4:=hRB.out.fz 4
     have y5:=hRB.out.fz 5
     have y6:=hRB.out.fz 6
     obtain⟨W9,hW9⟩:∃W9,setsFrom wr (w.heap.size+1) 0 (exCells k s' r' n (.slice ab j ac) (.slice qb M qc) p)=W9:=⟨_,rfl⟩
     have hb9:BoxAt (w.heap.size+1) W9 (exCells k s' r' n (.slice ab j ac) (.slice qb M qc) p):=by rw[←hW9];exact setsFrom_box hRB.out.res rfl
     have hk9:Kept [w.heap.size+1] wr W9:=by rw[←hW9];exact setsFrom_kept _ _ _
     have f0:=hb9.2 0 _ rfl
     have f1:=hb9.2 1 _ rfl
     have f2:=hb9.2 2 _ rfl
     have f3:=hb9.2 3 _ rfl
     have f4:=hb9.2 4 _ rfl
     have f5:=hb9.2 5 _ rfl
     have f6:=hb9.2 6 _ rfl
     have HFin:=Lib.hid (show Kept (Fa++Fb) w W9∧ExM W9 (.mk 0 [] [] 0 (rnEs a) (rnPs q) 0) (Fa++Fb) (.slice ab j ac) (.slice qb M qc) from by
      refine⟨⟨hk9.os.trans hRB.out.kept.os,hk9.tape.trans hRB.out.kept.tape,hk9.output.trans hRB.out.kept.output,Nat.le_trans hRB.out.kept.size hk9.size,λx hx hn=>(hk9.block x (Nat.lt_of_lt_of_le hx hRB.out.kept.size) (by simp;omega)).trans (hRB.out.kept.block x hx hn)⟩,?_⟩
      have h:=hM.out
      rw[HL.out,mixF_all,←rnEs_map] at h
      rw[HL.out]
      exact exM_iff.2 ⟨Fa,Fb,rfl,HAp.out,AM.kept (λx hx=>hk9.block x (h.lt x hx) (by have:=HLT.out x (by simp[hx]);simp;omega)) h,PtM.kept _ _ _ (λx hx=>hk9.block x (PtM.lt _ _ _ hP.out x hx) (by have:=HLT.out x (by simp[hx]);simp;omega)) hP.out⟩)
     simp only[setsFrom,exCells,Nat.reduceAdd] at hW9
     clear hb9 hk9 hRB hP hM HR1 HM1 HP1
     subst hW9
     go_wp2_with fail
     refine bodyPost_ret (v:=.agg #[.int .i64 k,.string ⟨s'.toArray⟩,.string ⟨r'.toArray⟩,.int .i64 n,.slice ab j ac,.slice qb M qc,.int .i64 p]) (by simp[results,Tryz.results43,go_sem,f0,f1,f2,f3,f4,f5,f6]) rfl ?_
     exact⟨rfl,HFin.out⟩
mutual
theorem rne_hw:∀(x:Ex'),okE (2^40) x→RnEAt x
 |.mk k s r n a q p,h=>by
  rw[okE] at h
  exact rne_step k s r n a q p (rnes_hw a h.2.2.2.1) (rnps_hw q h.2.2.2.2.2) h.2.2.1.1 h.2.2.2.2.1 h.1 h.2.1
theorem rnes_hw:∀(l:List Ex'),okEs (2^40) l→∀y∈l,RnEAt y
 |[],_,y,hy=>by cases hy
 |q::l,h,y,hy=>by
  rw[okEs] at h
  exact(List.mem_cons.1 hy).elim (λe=>by rw[e];exact rne_hw q h.1) (λhy=>rnes_hw l h.2 y hy)
end
end Go.Proofs.YtgmapdcdmomioaaGreatDoor.Pa
