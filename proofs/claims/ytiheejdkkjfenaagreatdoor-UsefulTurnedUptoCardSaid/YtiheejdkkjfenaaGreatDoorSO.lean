/- turn by hand: names in patterns, changed in place. turn by hand: the walk. Names in patterns play no part (plain). -/
import Derived.Test.YtiheejdkkjfenaaGreatDoorSN
import Derived.Test.YtiheejdkkjfenaaGreatDoorSL
set_option linter.all false
set_option autoImplicit false
set_option maxHeartbeats 4000000
set_option maxRecDepth 100000
namespace Go.Proofs.YtiheejdkkjfenaaGreatDoor.Pa
open Go Go.Proofs.YtiheejdkkjfenaaGreatDoor.Am Go.Proofs.YtiheejdkkjfenaaGreatDoor.Hw Go.RowKit
def tK(k:Int):Int:=if k=1 then 2 else if k=2 then 1 else k
def tS(k:Int)(s:Str):Str:=if k=1 then[120] else if k=2 then[] else s
mutual
def tP:Pt→Pt
 |.mk k s n a p=>.mk (tK k) (tS k s) n (tPs a) p
def tPs:List Pt→List Pt
 |[]=>[]
 |p::l=>tP p::tPs l
end
theorem tPs_map:∀l:List Pt,tPs l=l.map tP
 |[]=>rfl
 |p::l=>by rw[tPs,tPs_map l];rfl
def TurnAt(ps:List Pt):Prop:=∀(F:List Nat) (w:World) (v:Value),PtM w (.mk 0 [] 0 ps 0) F v→Calls Tryz.prog 20 #[v] w λe w'=>e=.returned (.tuple #[])∧Kept F w w'∧PtM w' (.mk 0 [] 0 (tPs ps) 0) F v
def mix(ps:List Pt)(j:Nat):List Pt:=tPs (ps.take j)++ps.drop j
theorem mix_zero(ps:List Pt):mix ps 0=ps:=by simp[mix,tPs]
theorem mix_all(ps:List Pt):mix ps ps.length=tPs ps:=by simp[mix]
theorem mix_len(ps:List Pt){j:Nat}:(mix ps j).length=ps.length:=by
 simp only[mix,List.length_append,tPs_map,List.length_map,List.length_take,List.length_drop]
 omega
theorem mix_at(ps:List Pt){j:Nat}(h:j<ps.length):mix ps j=tPs (ps.take j)++ps[j]::ps.drop (j+1):=by rw[mix,List.drop_eq_getElem_cons h]
theorem mix_succ(ps:List Pt){j:Nat}(h:j<ps.length):mix ps (j+1)=tPs (ps.take j)++tP ps[j]::ps.drop (j+1):=by
 rw[mix,List.take_succ_eq_append_getElem h,tPs_map,tPs_map,List.map_append]
 simp
theorem PsM.at{w:World}{l l':List Pt}{k n p:Int}{s:Str}{a:List Pt}{F:List Nat}{xs:List Value}(h:PsM w (l++.mk k s n a p::l') F xs):
 ∃F1 Fp F2 x1 v x2,F=F1++(Fp++F2)∧Apart F1 (Fp++F2)∧Apart Fp F2∧xs=x1++(ptCells k s n v p++x2)∧x1.length=l.length*5∧PsM w l F1 x1∧PtM w (.mk k s n a p) Fp v∧PsM w l' F2 x2:=by
 obtain⟨F1,F2,x1,x2,rfl,hA,rfl,h1,h2⟩:=h.split
 rw[PsM] at h2
 obtain⟨v,G1,G2,y,rfl,hB,rfl,h3,h4⟩:=h2
 exact⟨F1,G1,G2,x1,v,y,rfl,hA,hB,rfl,h1.len,h1,h3,h4⟩
theorem PsM.put{w:World}{l l':List Pt}{k n p:Int}{s:Str}{a:List Pt}{F1 Fp F2:List Nat}{x1 x2:List Value}{v:Value}(hA:Apart F1 (Fp++F2))(hB:Apart Fp F2)(h1:PsM w l F1 x1)(h:PtM w (.mk k s n a p) Fp v)(h2:PsM w l' F2 x2):PsM w (l++.mk k s n a p::l') (F1++(Fp++F2)) (x1++(ptCells k s n v p++x2)):=by
 refine h1.app ?_ hA
 rw[PsM]
 exact⟨v,Fp,F2,x2,rfl,hB,rfl,h,h2⟩
theorem Kept.more{S S':List Nat}{w w':World}(h:Kept S w w')(hs:∀x∈S,x∈S'):Kept S' w w':=⟨h.os,h.tape,h.output,h.size,λk hk hn=>h.block k hk λhm=>hn (hs k hm)⟩
theorem turn_round{ps:List Pt}{j:Nat}(hj:j<ps.length){k n p:Int}{s:Str}{a:List Pt}(hp:ps[j]=.mk k s n a p){b c:Nat}{F1 Fp F2:List Nat}{x1 x2:List Value}{va:Value}{w W1 w2:World}
 (hb:b ∉ F1++(Fp++F2)) (hA:Apart F1 (Fp++F2)) (hB:Apart Fp F2) (h1:PsM w (tPs (ps.take j)) F1 x1) (h2:PsM w (ps.drop (j+1)) F2 x2)
 (hk:Kept [b] w W1) (ho:W1.ownsRow 0 52 5 (.slice (some ⟨b,0,none⟩) ps.length c) ps.length (x1++(ptCells (tK k) (tS k s) n va p++x2))) (hk2:Kept Fp W1 w2) (h3:PtM w2 (.mk 0 [] 0 (tPs a) 0) Fp va):
 PtM w2 (.mk 0 [] 0 (mix ps (j+1)) 0) (b::(F1++(Fp++F2))) (.slice (some ⟨b,0,none⟩) ps.length c):=by
 have keep:∀x∈F1++F2,x<w.heap.size→w2.heap[x]?=w.heap[x]?:=λx hx hlt=>by
  have hxb:x ∉ [b]:=λh=>by
   simp only[List.mem_singleton] at h
   subst h
   refine hb ?_
   rcases List.mem_append.1 hx with h|h
   ·simp[h]
   ·simp[h]
  have hxp:x ∉ Fp:=λh=>by
   rcases List.mem_append.1 hx with h'|h'
   ·exact hA x h' (by simp[h])
   ·exact hB x h h'
  exact(hk2.block x (Nat.lt_of_lt_of_le hlt hk.size) hxp).trans (hk.block x hlt hxb)
 rw[PtM,mix_len]
 refine .inr ⟨b,c,_,_,rfl,rfl,hb,ownsRow_heap ho (hk2.block b (ho.lt _ rfl).2 λh=>hb (by simp[h])),?_⟩
 rw[mix_succ ps hj,hp,tP]
 exact PsM.put hA hB (PsM.kept _ _ _ (λx hx=>keep x (by simp[hx]) (PsM.lt _ _ _ h1 x hx)) h1) h3.args (PsM.kept _ _ _ (λx hx=>keep x (by simp[hx]) (PsM.lt _ _ _ h2 x hx)) h2)
end Go.Proofs.YtiheejdkkjfenaaGreatDoor.Pa
namespace Go.Proofs.YtiheejdkkjfenaaGreatDoor.Pa
open Go Go.Proofs.YtiheejdkkjfenaaGreatDoor.Am Go.Proofs.YtiheejdkkjfenaaGreatDoor.Hw Go.RowKit
theorem row_cells{w:World}{b c L:Nat}{e:TypeId}{x1 ys x2:List Value}(h:w.ownsRow 0 e 5 (.slice (some ⟨b,0,none⟩) L c) L (x1++(ys++x2))){j:Nat}(h1:x1.length=j*5)(hj:j<L)(hy:ys.length=5):∀(i:Nat) u,ys[i]?=some u→w.cell? ⟨b,j*5+i,none⟩=some u:=λi u hu=>by
 have hi:i<5:=by rw[←hy];exact(List.getElem?_eq_some_iff.1 hu).1
 rw[h.cellAt (j*5+i) (by omega),←h1,List.getElem?_append_right (by omega),Nat.add_sub_cancel_left,List.getElem?_append_left (by omega)]
 exact hu
theorem row_set{x1 x2:List Value}{k n p k':Int}{s s':Str}{v:Value}{j:Nat}(h1:x1.length=j*5):((x1++(ptCells k s n v p++x2)).set (j*5) (.int .i64 k')).set (j*5+1) (.string ⟨s'.toArray⟩)=x1++(ptCells k' s' n v p++x2):=by
 rw[List.set_append_right _ _ (by omega),List.set_append_right _ _ (by omega),←h1,Nat.sub_self,Nat.add_sub_cancel_left]
 rfl
theorem turn_step(ps:List Pt)(ih:∀p∈ps,match p with|.mk _ _ _ a _=>TurnAt a)(hlen:ps.length≤2^40):TurnAt ps:=by
 intro F w v hv
 have hshape:∃vb c,v=.slice vb ps.length c:=by
  rw[PtM] at hv
  rcases hv with ⟨rfl,_,rfl⟩|⟨b,c,_,_,rfl,_⟩<;>exact⟨_,_,rfl⟩
 obtain⟨vb,c,rfl⟩:=hshape
 have HV:=Lib.hid hv
 have HI:=Lib.hid ih
 obtain⟨L,hL⟩:∃L,L=ps.length:=⟨_,rfl⟩
 rw[←hL] at hlen⊢
 have HL:=Lib.hid hL
 clear hv ih hL
 go_enter Tryz.func20,Tryz.ntmps20
 go_wp2_with fail
 go_loopg [2] L (λg x2 wr=>∃j:Nat,j+g=L∧x2=.int .i64 j∧Hid (Kept F w wr)∧Hid (PtM wr (.mk 0 [] 0 (mix ps j) 0) F (.slice vb L c)))
 case atStart=>exact⟨0,by omega,rfl,Lib.hid (Kept.refl _ _),Lib.hid (by rw[mix_zero,HL.out];exact HV.out)⟩
 case round=>
  obtain⟨j,hj,rfl,hK,hP⟩:=hrel
  by_cases hlt:j<L
  ·have hjp:j<ps.length:=by have:=HL.out;omega
   have hP':=hP.out
   rw[PtM,mix_len] at hP'
   rcases hP' with ⟨h0,_⟩|⟨b,c',F',xs,hs,rfl,hb,ho,hps⟩
   ·have:=congrArg List.length h0
    rw[mix_len] at this
    rw[List.length_nil] at this
    omega
   ·cases hs
    rw[mix_at ps hjp] at hps
    obtain⟨k,s,n,a,p,hp⟩:∃k s n a p,ps[j]=.mk k s n a p:=by
     cases h:ps[j] with
     |mk k s n a p=>exact⟨k,s,n,a,p,rfl⟩
    rw[hp] at hps
    obtain⟨F1,Fp,F2,x1,va,x2,rfl,hA,hB,rfl,hx1,h1,h3,h2⟩:=hps.at
    have hx1:x1.length=j*5:=by
     rw[hx1,tPs_map,List.length_map,List.length_take]
     congr 1;omega
    have hT:=HI.out ps[j] (List.getElem_mem hjp)
    rw[hp] at hT
    obtain⟨ab,an,ac,rfl⟩:=ptM_slice h3
    have ho':wr.ownsRow 0 52 5 (.slice (some ⟨b,0,none⟩) ps.length c) ps.length (x1++(ptCells k s n (.slice ab an ac) p++x2)):=ho
    have hc:=row_cells ho' hx1 hlt rfl
    have c0:=hc 0 _ rfl
    have c1:=hc 1 _ rfl
    have c3:=hc 3 _ rfl
    have z0:=ho'.frozenAt (j*5)
    have z1:=ho'.frozenAt (j*5+1)
    simp only[Nat.add_zero] at c0
    have HO:=Lib.hid ho'
    have HT:=Lib.hid hT
    have H1:=Lib.hid h1
    have H2:=Lib.hid h2
    have H3:=Lib.hid h3
    have HN:=Lib.hid (And.intro hb (And.intro hA (And.intro hB (And.intro hp hx1))))
    clear hc ho ho' hps hT h1 h2 h3 hb hA hB hp hx1
    have hK1:∀W1,Kept [b] wr W1→PtM W1 (.mk 0 [] 0 a 0) Fp (.slice ab an ac):=λW1 hk=>(PtM.kept _ _ _ (λx hx=>hk.block x (PtM.lt _ _ _ H3.out x hx) (λh=>HN.out.1 (by simp only[List.mem_singleton] at h;subst h;simp[hx]))) H3.out).args
    have HQ:=Lib.hid hK1
    clear hK1
    have fin:∀W1 w2,Kept [b] wr W1→W1.ownsRow 0 52 5 (.slice (some ⟨b,0,none⟩) ps.length c) ps.length (x1++(ptCells (tK k) (tS k s) n (.slice ab an ac) p++x2))→Kept Fp W1 w2→PtM w2 (.mk 0 [] 0 (tPs a) 0) Fp (.slice ab an ac)→
     Hid (Kept (b::(F1++(Fp++F2))) w w2)∧Hid (PtM w2 (.mk 0 [] 0 (mix ps (j+1)) 0) (b::(F1++(Fp++F2))) (.slice (some ⟨b,0,none⟩) ps.length c)):=λW1 w2 hk hO hk2 h4=>
     ⟨Lib.hid ((hK.out.trans (Kept.more hk (by simp))).trans (Kept.more hk2 (by simp+contextual))),Lib.hid (turn_round hjp HN.out.2.2.2.1 HN.out.1 HN.out.2.1 HN.out.2.2.1 H1.out H2.out hk hO hk2 h4)⟩
    have HF:=Lib.hid fin
    clear fin
    by_cases k1:k=1
    ·subst k1
     have hk1:Kept [b] wr ((wr.setCell ⟨b,j*5,none⟩ (.int .i64 2)).setCell ⟨b,j*5+1,none⟩ (.string ⟨#[120]⟩)):=(kept_setCell (by simp) wr (j*5) _).trans (kept_setCell (by simp) _ (j*5+1) _)
     have ho1:=((HO.out.stored (j*5) (.int .i64 2)).1.stored (j*5+1) (.string ⟨([120]:Str).toArray⟩)).1
     rw[row_set HN.out.2.2.2.2] at ho1
     have HKK:=Lib.hid hk1
     have HOO:=Lib.hid ho1
     clear hk1 ho1
     go_wp2_with (go_at_call 20;refine(HT.out Fp _ _ (HQ.out _ HKK.out)).mono ?_;rintro e w2 ⟨rfl,hk2,h4⟩;obtain⟨G1,G2⟩:=HF.out _ _ HKK.out HOO.out hk2 h4;clear hk2 h4)
     go_roundg (ps.length-(j+1))
     case measure=>omega
     case rel=>exact⟨j+1,by omega,by go_num,G1,G2⟩
    ·by_cases k2:k=2
     ·subst k2
      have hk1:Kept [b] wr ((wr.setCell ⟨b,j*5,none⟩ (.int .i64 1)).setCell ⟨b,j*5+1,none⟩ (.string ⟨#[]⟩)):=(kept_setCell (by simp) wr (j*5) _).trans (kept_setCell (by simp) _ (j*5+1) _)
      have ho1:=((HO.out.stored (j*5) (.int .i64 1)).1.stored (j*5+1) (.string ⟨([]:Str).toArray⟩)).1
      rw[row_set HN.out.2.2.2.2] at ho1
      have HKK:=Lib.hid hk1
      have HOO:=Lib.hid ho1
      clear hk1 ho1
      go_wp2_with (go_at_call 20;refine(HT.out Fp _ _ (HQ.out _ HKK.out)).mono ?_;rintro e w2 ⟨rfl,hk2,h4⟩;obtain⟨G1,G2⟩:=HF.out _ _ HKK.out HOO.out hk2 h4;clear hk2 h4)
      go_roundg (ps.length-(j+1))
      case measure=>omega
      case rel=>exact⟨j+1,by omega,by go_num,G1,G2⟩
     ·have d1:(k==1)=false:=by simpa using k1
      have d2:(k==2)=false:=by simpa using k2
      have hOO:=HO.out
      rw[show ptCells k s n (.slice ab an ac) p=ptCells (tK k) (tS k s) n (.slice ab an ac) p from by rw[tK,tS,if_neg k1,if_neg k2,if_neg k1,if_neg k2]] at hOO
      have HOO:=Lib.hid hOO
      clear hOO
      go_wp2_with (go_at_call 20;refine(HT.out Fp _ _ (HQ.out _ (Kept.refl _ _))).mono ?_;rintro e w2 ⟨rfl,hk2,h4⟩;obtain⟨G1,G2⟩:=HF.out _ _ (Kept.refl _ _) HOO.out hk2 h4;clear hk2 h4)
      go_roundg (ps.length-(j+1))
      case measure=>omega
      case rel=>exact⟨j+1,by omega,by go_num,G1,G2⟩
  ·have hjl:j=L:=by omega
   subst hjl
   go_wp2_with fail
   go_end0
   refine⟨rfl,hK.out,?_⟩
   have h:=hP.out
   rw[HL.out,mix_all] at h
   rw[HL.out]
   exact h
mutual
def shP:Pt→Prop
 |.mk _ _ _ a _=>a.length≤2^40∧shPs a
def shPs:List Pt→Prop
 |[]=>True
 |p::l=>shP p∧shPs l
end
mutual
theorem turn_pt:∀(p:Pt),shP p→match p with|.mk _ _ _ a _=>TurnAt a
 |.mk _ _ _ a _,h=>by
  rw[shP] at h
  exact turn_step a (turn_pts a h.2) h.1
theorem turn_pts:∀(l:List Pt),shPs l→∀p∈l,match p with|.mk _ _ _ a _=>TurnAt a
 |[],_,p,hp=>by cases hp
 |q::l,h,p,hp=>by
  rw[shPs] at h
  exact(List.mem_cons.1 hp).elim (λe=>by rw[e];exact turn_pt q h.1) (λhp=>turn_pts l h.2 p hp)
end
theorem turn_hw(ps:List Pt)(h:ps.length≤2^40)(h2:shPs ps):TurnAt ps:=turn_step ps (turn_pts ps h2) h
end Go.Proofs.YtiheejdkkjfenaaGreatDoor.Pa
namespace Go.Proofs.YtiheejdkkjfenaaGreatDoor.Pa
open Go Go.Proofs.YtiheejdkkjfenaaGreatDoor.Am
mutual
def nP:Pt→Pt
 |.mk k s n a p=>if k=1∨k=2 then .mk 1 [] n (nPs a) p else .mk k s n (nPs a) p
def nPs:List Pt→List Pt
 |[]=>[]
 |p::l=>nP p::nPs l
end
theorem nPs_map:∀l:List Pt,nPs l=l.map nP
 |[]=>rfl
 |p::l=>by rw[nPs,nPs_map l];rfl
theorem nP_wild{k n p:Int}{s:Str}{a:List Pt}(h:k=1∨k=2):nP (.mk k s n a p)=.mk 1 [] n (a.map nP) p:=by rw[nP,if_pos h,nPs_map]
theorem nP_else{k n p:Int}{s:Str}{a:List Pt}(h:¬(k=1∨k=2)):nP (.mk k s n a p)=.mk k s n (a.map nP) p:=by rw[nP,if_neg h,nPs_map]
mutual
theorem nP_tP:∀p:Pt,nP (tP p)=nP p
 |.mk k s n a p=>by
  rw[tP]
  by_cases h1:k=1
  ·subst h1
   rw[tK,tS,if_pos rfl,if_pos rfl,nP,nP,if_pos (.inr rfl),if_pos (.inl rfl),nPs_tPs a]
  ·by_cases h2:k=2
   ·subst h2
    rw[show tK 2=1 from rfl,show tS 2 s=[] from rfl,nP,nP,if_pos (.inl rfl),if_pos (.inr rfl),nPs_tPs a]
   ·rw[tK,tS,if_neg h1,if_neg h2,if_neg h1,if_neg h2,nP,nP,nPs_tPs a]
theorem nPs_tPs:∀l:List Pt,nPs (tPs l)=nPs l
 |[]=>rfl
 |p::l=>by rw[tPs,nPs,nPs,nP_tP p,nPs_tPs l]
end
theorem wildP_mk(k:Int)(s:Str)(n:Int)(a:List Pt)(p:Int):wildP (.mk k s n a p)=true↔k=1∨k=2:=by simp[wildP,kPt]
theorem wildP_n(x:Pt):wildP (nP x)=wildP x:=by
 obtain⟨k,s,n,a,p⟩:=x
 by_cases h:k=1∨k=2
 ·rw[nP_wild h,(wildP_mk k s n a p).2 h];rfl
 ·rw[nP_else h];rfl
theorem kPt_n{x:Pt}(h:wildP x=false):kPt (nP x)=kPt x∧nameP (nP x)=nameP x:=by
 obtain⟨k,s,n,a,p⟩:=x
 have h':¬(k=1∨k=2):=λe=>by rw[(wildP_mk k s n a p).2 e] at h;cases h
 rw[nP_else h']
 exact⟨rfl,rfl⟩
theorem numP_n(x:Pt):numP (nP x)=numP x:=by
 obtain⟨k,s,n,a,p⟩:=x
 by_cases h:k=1∨k=2
 ·rw[nP_wild h];rfl
 ·rw[nP_else h];rfl
theorem argsP_n(x:Pt):argsP (nP x)=(argsP x).map nP:=by
 obtain⟨k,s,n,a,p⟩:=x
 by_cases h:k=1∨k=2
 ·rw[nP_wild h];rfl
 ·rw[nP_else h];rfl
theorem kPt4_n(x:Pt)(c:Int)(hc:c=3∨c=4):(kPt (nP x)==c)=(kPt x==c):=by
 obtain⟨k,s,n,a,p⟩:=x
 by_cases h:k=1∨k=2
 ·rw[nP_wild h]
  rcases h with rfl|rfl<;>rcases hc with rfl|rfl<;>rfl
 ·rw[nP_else h];rfl
theorem name_n{x:Pt}(h:(kPt x==4)=true):nameP (nP x)=nameP x:=by
 refine(kPt_n ?_).2
 have:kPt x=4:=eq_of_beq h
 unfold wildP
 rw[this];rfl
theorem any_n:nP anyP=anyP:=rfl
theorem rep_n(n:Nat):(List.replicate n anyP).map nP=List.replicate n anyP:=by
 rw[List.map_replicate]
 congr 1
theorem semCon_n(s:Str)(n:Nat)(x:Pt):semCon s n (nP x)=(semCon s n x).map (·.map nP):=by
 unfold semCon
 rw[wildP_n]
 cases hw:wildP x with
 |true=>simp[any_n]
 |false=>
  rw[(kPt_n hw).1,(kPt_n hw).2,argsP_n,List.length_map]
  simp only[Bool.false_eq_true,if_false]
  split<;>rfl
theorem semInt_n(m:Int)(x:Pt):semInt m (nP x)=(semInt m x).map (·.map nP):=by
 unfold semInt
 rw[wildP_n]
 cases hw:wildP x with
 |true=>simp
 |false=>
  rw[(kPt_n hw).1,numP_n]
  simp only[Bool.false_eq_true,if_false]
  split<;>rfl
theorem semWild_n(x:Pt):semWild (nP x)=(semWild x).map (·.map nP):=by
 unfold semWild
 rw[wildP_n]
 cases hw:wildP x<;>simp
theorem turnR_n{sem:Pt→Option (List Pt)}(h:∀x,sem (nP x)=(sem x).map (·.map nP))(r:List Pt):turnR sem (r.map nP)=(turnR sem r).map (·.map nP):=by
 cases r with
 |nil=>rfl
 |cons x r=>
  simp only[List.map_cons,turnR,h]
  cases sem x<;>simp
theorem turned_n{sem:Pt→Option (List Pt)}(h:∀x,sem (nP x)=(sem x).map (·.map nP))(rows:List (List Pt)):(rows.map (·.map nP)).filterMap (turnR sem)=(rows.filterMap (turnR sem)).map (·.map nP):=by
 rw[List.filterMap_map,List.map_filterMap]
 congr 1
 funext r
 exact turnR_n h r
theorem firstCon_n:∀rows:List (List Pt),firstCon (rows.map (·.map nP))=firstCon rows
 |[]=>rfl
 |[]::l=>by
  rw[List.map_cons,List.map_nil,firstCon,firstCon,firstCon_n l]
 |(x::r)::l=>by
  rw[List.map_cons,List.map_cons,firstCon,firstCon,firstCon_n l,kPt4_n x 4 (.inr rfl)]
  cases h:(kPt x==4) with
  |true=>simp only[if_true,name_n h]
  |false=>rfl
theorem headCon_n(s:Str)(r:List Pt):headCon s (r.map nP)=headCon s r:=by
 cases r with
 |nil=>rfl
 |cons x r=>
  simp only[List.map_cons,headCon,kPt4_n x 4 (.inr rfl)]
  cases h:(kPt x==4) with
  |true=>rw[name_n h]
  |false=>rfl
theorem hasCon_n(s:Str)(rows:List (List Pt)):hasCon s (rows.map (·.map nP))=hasCon s rows:=by
 unfold hasCon
 rw[List.any_map]
 congr 1
 funext r
 exact headCon_n s r
theorem wholeF_n(D:List Dc)(rows:List (List Pt)):wholeF D (rows.map (·.map nP))=wholeF D rows:=by
 unfold wholeF
 rw[firstCon_n]
 simp only[hasCon_n]
theorem useU_n(D:List Dc):∀(f m:Nat) (rows:List (List Pt)) (row:List Pt),useU D f m (rows.map (·.map nP)) (row.map nP)=useU D f m rows row
 |0,_,_,_=>rfl
 |_+1,0,_,_=>rfl
 |_+1,m+1,rows,[]=>by
  simp only[List.map_nil,useU]
  cases rows<;>rfl
 |f+1,m+1,rows,x::r=>by
  simp only[List.map_cons,useU,kPt4_n x 4 (.inr rfl),kPt4_n x 3 (.inl rfl),wholeF_n]
  cases h4:(kPt x==4) with
  |true=>
   simp only[if_true]
   rw[name_n h4,argsP_n,List.length_map,turned_n (semCon_n _ _),←List.map_append,useU_n D f m]
  |false=>
   simp only[Bool.false_eq_true,if_false]
   cases h3:(kPt x==3) with
   |true=>
    simp only[if_true]
    rw[numP_n,turned_n (semInt_n _),useU_n D f m]
   |false=>
    simp only[Bool.false_eq_true,if_false]
    cases wholeF D rows with
    |none=>simp only[turned_n semWild_n,useU_n D f m]
    |some cs=>
     simp only
     congr 1
     funext m c
     rw[turned_n (semCon_n _ _)]
     have h:=useU_n D f m (rows.filterMap (turnR (semCon c.s c.fs.length))) (List.replicate c.fs.length anyP++r)
     rw[List.map_append,rep_n] at h
     exact h
mutual
theorem szPt_n:∀p:Pt,szPt (nP p)=szPt p
 |.mk k s n a p=>by
  rw[nP]
  split<;>rw[szPt,szPt,szPts_n a]
theorem szPts_n:∀l:List Pt,szPts (nPs l)=szPts l
 |[]=>rfl
 |p::l=>by rw[nPs,szPts,szPts,szPt_n p,szPts_n l]
end
theorem nPs_length(l:List Pt):(nPs l).length=l.length:=by rw[nPs_map,List.length_map]
mutual
theorem fitB_n(D:List Dc):∀(d:Nat) (p:Pt),fitB D d (nP p)=fitB D d p
 |d,.mk k s n a p=>by
  rw[nP]
  split
  ·rename_i h
   rw[fitB,fitB,fitBs_n D (d+1) a,nPs_length]
   rcases h with rfl|rfl<;>rfl
  ·rw[fitB,fitB,fitBs_n D (d+1) a,nPs_length]
theorem fitBs_n(D:List Dc):∀(d:Nat) (l:List Pt),fitBs D d (nPs l)=fitBs D d l
 |_,[]=>rfl
 |d,p::l=>by rw[nPs,fitBs,fitBs,fitB_n D d p,fitBs_n D d l]
end
theorem mayB_n(D:List Dc)(rows:List (List Pt))(c:Nat):mayB D (rows.map (·.map nP)) c=mayB D rows c:=by
 unfold mayB
 have h1:∀r:List Pt,szPts (r.map nP)=szPts r:=λr=>by rw[←nPs_map];exact szPts_n r
 have h2:∀r:List Pt,(r.map nP).all (fitB D 1)=r.all (fitB D 1):=λr=>by rw[←fitBs_all,←nPs_map,fitBs_n,fitBs_all]
 have e1:(szPts∘λ(r:List Pt)=>r.map nP)=szPts:=funext h1
 simp only[List.all_map,List.map_map,e1]
 congr 1
 ·congr 1
  funext r
  simp
 ·congr 1
  congr 1
  funext r
  exact h2 r
theorem askedF_n(D:List Dc)(rows:List (List Pt))(row:List Pt):askedF D (rows.map (·.map nP)) (row.map nP)=askedF D rows row:=by
 unfold askedF;rw[useU_n]
theorem usefulF_n(D:List Dc)(rows:List (List Pt))(row:List Pt):usefulF D (rows.map (·.map nP)) (row.map nP)=usefulF D rows row:=by
 unfold usefulF
 rw[askedF_n,List.length_map]
 have:rows.map (·.map nP)++[row.map nP]=(rows++[row]).map (·.map nP):=by simp
 rw[this,mayB_n]
theorem colOf_n(ps:List Pt):colOf (ps.map nP)=(colOf ps).map (·.map nP):=by simp[colOf]
theorem exhF_n(D:List Dc)(ps:List Pt):exhF D (ps.map nP)=exhF D ps:=by
 have h:usefulF D (colOf (ps.map nP)) [anyP]=usefulF D (colOf ps) [anyP]:=by
  have:=usefulF_n D (colOf ps) [anyP]
  rw[←colOf_n] at this
  exact this
 unfold exhF
 rw[h]
theorem idleF_n(D:List Dc)(ps:List Pt):∀(l:List Pt) (i:Nat) (out:List Nat),idleF D (ps.map nP) i out (l.map nP)=idleF D ps i out l
 |[],_,_=>rfl
 |p::l,i,out=>by
  have h:askedF D (colOf ((ps.map nP).take i)) [nP p]=askedF D (colOf (ps.take i)) [p]:=by
   have:=askedF_n D (colOf (ps.take i)) [p]
   rw[←colOf_n,List.map_take] at this
   exact this
  simp only[List.map_cons,idleF,h,idleF_n D ps l]
theorem idleD_n(D:List Dc)(ps:List Pt):idleD D (ps.map nP)=idleD D ps:=by
 unfold idleD
 rw[colOf_n,mayB_n,idleF_n]
theorem exhF_t(D:List Dc)(ps:List Pt):exhF D (tPs ps)=exhF D ps:=by rw[←exhF_n D (tPs ps),←nPs_map,nPs_tPs,nPs_map,exhF_n]
theorem idleD_t(D:List Dc)(ps:List Pt):idleD D (tPs ps)=idleD D ps:=by rw[←idleD_n D (tPs ps),←nPs_map,nPs_tPs,nPs_map,idleD_n]
end Go.Proofs.YtiheejdkkjfenaaGreatDoor.Pa
