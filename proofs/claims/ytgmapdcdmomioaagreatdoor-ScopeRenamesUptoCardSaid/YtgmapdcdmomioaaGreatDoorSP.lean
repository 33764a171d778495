/- renamedPat by hand: the names in a pattern, one letter longer, changed in place. -/
import Derived.Test.YtgmapdcdmomioaaGreatDoorSO
import Derived.Test.YtgmapdcdmomioaaGreatDoorSM
import Derived.Test.YtgmapdcdmomioaaGreatDoorSN
set_option linter.all false
set_option autoImplicit false
set_option maxHeartbeats 4000000
set_option maxRecDepth 100000
namespace Go.Proofs.YtgmapdcdmomioaaGreatDoor.Pa
open Go Go.Proofs.YtgmapdcdmomioaaGreatDoor.Am Go.Proofs.YtgmapdcdmomioaaGreatDoor.Hw Go.RowKit
section
variable{α:Type}{f:α→α}{l:List α}{j:Nat}
def mixF(f:α→α)(l:List α)(j:Nat):List α:=(l.take j).map f++l.drop j
theorem mixF_zero:mixF f l 0=l:=by simp[mixF]
theorem mixF_all:mixF f l l.length=l.map f:=by simp[mixF]
theorem mixF_len:(mixF f l j).length=l.length:=by
 simp only[mixF,List.length_append,List.length_map,List.length_take,List.length_drop]
 omega
theorem mixF_at(h:j<l.length):mixF f l j=(l.take j).map f++l[j]::l.drop (j+1):=by rw[mixF,List.drop_eq_getElem_cons h]
theorem mixF_succ(h:j<l.length):mixF f l (j+1)=(l.take j).map f++f l[j]::l.drop (j+1):=by
 rw[mixF,List.take_succ_eq_append_getElem h,List.map_append]
 simp
end
structure CJ(c:Nat)(W0:World)(P:World→Prop)(T:Nat→Value)(vo:Nat→Option Value)(w:World):Prop where
 pre:vo c=none→w=W0
 post:vo c≠none→P w
 told:∀i u,vo i=some u→u=T i
section
variable{c:Nat}{W0 w w':World}{P:World→Prop}{T:Nat→Value}{vo:Nat→Option Value}{v:Value}{i:Nat}
theorem CJ.start:CJ c W0 P T (λ_=>none) W0:=⟨λ_=>rfl,λh=>absurd rfl h,λi u h=>by cases h⟩
theorem CJ.put(h:CJ c W0 P T vo w)(hi:i≠c)(hv:v=T i):CJ c W0 P T (λk=>if k=i then some v else vo k) w:=by
 have e:(if c=i then some v else vo c)=vo c:=if_neg (Ne.symm hi)
 refine⟨λhc=>h.pre (e.symm.trans hc),λhc=>h.post (λh'=>hc (e.trans h')),λk u hk=>?_⟩
 have hk:(if k=i then some v else vo k)=some u:=hk
 by_cases e:k=i
 ·rw[if_pos e] at hk
  injection hk with hk
  rw[←hk,hv,e]
 ·rw[if_neg e] at hk
  exact h.told k u hk
theorem CJ.call(h:CJ c W0 P T vo w)(hv:v=T c)(hP:P w'):CJ c W0 P T (λk=>if k=c then some v else vo k) w':=by
 have e:(if c=c then some v else vo c)=some v:=if_pos rfl
 refine⟨λhc=>absurd (e.symm.trans hc) (by simp),λ_=>hP,λk u hk=>?_⟩
 have hk:(if k=c then some v else vo k)=some u:=hk
 by_cases e:k=c
 ·rw[if_pos e] at hk
  injection hk with hk
  rw[←hk,hv,e]
 ·rw[if_neg e] at hk
  exact h.told k u hk
end
def rnT(B f b j m:Nat)(sl el el':Value)(i:Nat):Value:=([.pointer (some ⟨B,f,none⟩),sl,.int .i64 j,.pointer (some ⟨B,f,none⟩),sl,.int .i64 j,.pointer (some ⟨b,j*m,none⟩),el,el']:List Value).getD i undef
def setsFrom(w:World)(b:Nat):Nat→List Value→World
 |_,[]=>w
 |o,d::ds=>setsFrom (w.setCell ⟨b,o,none⟩ d) b (o+1) ds
theorem setsFrom_kept{b:Nat}:∀(ds:List Value) (o:Nat) (w:World),Kept [b] w (setsFrom w b o ds)
 |[],o,w=>Kept.refl _ _
 |d::ds,o,w=>(kept_setCell (by simp) w o d).trans (setsFrom_kept ds (o+1) _)
theorem setsFrom_other{b j:Nat}:∀(ds:List Value) (o:Nat) (w:World),j<o→(setsFrom w b o ds).cell? ⟨b,j,none⟩=w.cell? ⟨b,j,none⟩
 |[],o,w,_=>rfl
 |d::ds,o,w,h=>(setsFrom_other ds (o+1) _ (by omega)).trans (World.cell?_setCell_other _ _ _ _ (by first|(simp;done)|(simp;omega)))
theorem setsFrom_cell{b:Nat}:∀(cs ds:List Value) (o:Nat) (w:World),cs.length=ds.length→(∀(i:Nat) c,cs[i]?=some c→w.cell? ⟨b,o+i,none⟩=some c)→∀(i:Nat) v,ds[i]?=some v→(setsFrom w b o ds).cell? ⟨b,o+i,none⟩=some v
 |[],[],o,w,_,_,i,v,h=>by simp at h
 |[],_::_,o,w,h,_,_,_,_=>by cases h
 |_::_,[],o,w,h,_,_,_,_=>by cases h
 |c::cs,d::ds,o,w,hl,hc,i,v,h=>by
  have h0:w.cell? ⟨b,o,none⟩=some c:=hc 0 c rfl
  match i,h with
  |0,h=>
   simp only[List.getElem?_cons_zero,Option.some.injEq] at h
   subst h
   exact(setsFrom_other ds (o+1) _ (by omega)).trans (World.cell?_setCell_same _ _ _ h0)
  |i+1,h=>
   have:=setsFrom_cell cs ds (o+1) (w.setCell ⟨b,o,none⟩ d) (by simpa using hl) (λk x hk=>(World.cell?_setCell_other _ _ _ _ (by first|(simp;done)|(simp;omega))).trans (by rw[show o+1+k=o+(k+1) from by omega];exact hc (k+1) x (by simpa using hk))) i v (by simpa using h)
   rw[show o+(i+1)=o+1+i from by omega]
   exact this
theorem setsFrom_box{b:Nat}{w:World}{cs ds:List Value}(h:BoxAt b w cs)(hl:cs.length=ds.length):BoxAt b (setsFrom w b 0 ds) ds:=
 ⟨Nat.lt_of_lt_of_le h.1 (setsFrom_kept ds 0 w).size,λj v hj=>by have:=setsFrom_cell cs ds 0 w hl (λi c hc=>by rw[Nat.zero_add];exact h.2 i c hc) j v hj;rwa [Nat.zero_add] at this⟩
theorem setsFrom_own{b L c:Nat}{e:TypeId}{size:Nat}:∀(ys ds x1 x2:List Value) (w:World),ys.length=ds.length→w.ownsRow 0 e size (.slice (some ⟨b,0,none⟩) L c) L (x1++(ys++x2))→(setsFrom w b x1.length ds).ownsRow 0 e size (.slice (some ⟨b,0,none⟩) L c) L (x1++(ds++x2))
 |[],[],x1,x2,w,_,h=>h
 |[],_::_,_,_,_,h,_=>by cases h
 |_::_,[],_,_,_,h,_=>by cases h
 |y::ys,d::ds,x1,x2,w,hl,h=>by
  have h1:=(h.stored x1.length d).1
  rw[List.set_append_right _ _ (Nat.le_refl _),Nat.sub_self] at h1
  have h2:=setsFrom_own ys ds (x1++[d]) x2 (w.setCell ⟨b,x1.length,none⟩ d) (by simpa using hl) (by simpa using h1)
  simpa[setsFrom] using h2
theorem own_cells{w:World}{b c L m:Nat}{e:TypeId}{x1 ys x2:List Value}(h:w.ownsRow 0 e m (.slice (some ⟨b,0,none⟩) L c) L (x1++(ys++x2))){j:Nat}(h1:x1.length=j*m)(hj:j<L)(hy:ys.length=m):∀(i:Nat) u,ys[i]?=some u→w.cell? ⟨b,j*m+i,none⟩=some u:=λi u hu=>by
 have hi:i<m:=by rw[←hy];exact(List.getElem?_eq_some_iff.1 hu).1
 have hle:j*m+m≤L*m:=by rw[←Nat.succ_mul];exact Nat.mul_le_mul_right _ hj
 rw[h.cellAt (j*m+i) (by omega),←h1,List.getElem?_append_right (by omega),Nat.add_sub_cancel_left,List.getElem?_append_left (by omega)]
 exact hu
theorem Kept.wide{S S':List Nat}{w w':World}(h:Kept S w w')(hs:∀x∈S,x∈S'):Kept S' w w':=⟨h.os,h.tape,h.output,h.size,λk hk hn=>h.block k hk λhm=>hn (hs k hm)⟩
structure RnB(S:List Nat)(w:World)(cs zs:List Value)(wr:World):Prop where
 kept:Kept S w wr
 box:BoxAt w.heap.size wr cs
 bfz:∀j,wr.frozen? ⟨w.heap.size,j,none⟩=false
 res:BoxAt (w.heap.size+1) wr zs
 fz:∀j,wr.frozen? ⟨w.heap.size+1,j,none⟩=false
 lt:∀x∈S,x<w.heap.size
theorem RnB.next{S S':List Nat}{w wr w2:World}{cs zs:List Value}(h:RnB S w cs zs wr)(k:Kept S' wr w2)(hs:∀x∈S',x∈S):RnB S w cs zs w2:=by
 have n1:w.heap.size ∉ S':=λhm=>by have:=h.lt _ (hs _ hm);omega
 have n2:w.heap.size+1 ∉ S':=λhm=>by have:=h.lt _ (hs _ hm);omega
 exact⟨h.kept.trans (Kept.wide k hs),⟨Nat.lt_of_lt_of_le h.box.1 k.size,λj v hj=>k.cell (h.box.2 j v hj) n1⟩,λj=>(World.frozen?_of_block (a:=⟨_,j,none⟩) (k.block _ h.box.1 n1)).trans (h.bfz j),
  ⟨Nat.lt_of_lt_of_le h.res.1 k.size,λj v hj=>k.cell (h.res.2 j v hj) n2⟩,λj=>(World.frozen?_of_block (a:=⟨_,j,none⟩) (k.block _ h.res.1 n2)).trans (h.fz j),h.lt⟩
theorem RnB.grow{S S':List Nat}{w wr:World}{cs zs:List Value}(h:RnB S w cs zs wr)(hs:∀x∈S,x∈S')(hl:∀x∈S',x<w.heap.size):RnB S' w cs zs wr:=⟨Kept.wide h.kept hs,h.box,h.bfz,h.res,h.fz,hl⟩
theorem RnB.start{S:List Nat}{w:World}{cs zs:List Value}{t t':TypeId}(hS:∀x∈S,x<w.heap.size):RnB S w cs zs ((w.alloc (.cells cs.toArray t)).alloc (.cells zs.toArray t')):=by
 have h1:=below_box w (.cells cs.toArray t)
 have h2:=below_box (w.alloc (.cells cs.toArray t)) (.cells zs.toArray t')
 have hB:=BoxAt.new w cs t
 have hR:=BoxAt.new (w.alloc (.cells cs.toArray t)) zs t'
 rw[World.size_alloc] at hR
 refine⟨Kept.below (bgo h1 h2),hB.later h2,λj=>frozen_below h2 (by simp) (frozen_cells (arr:=cs.toArray) (t:=t) (by rw[heap_alloc_new]) j),hR,λj=>?_,hS⟩
 have:=frozen_cells (w:=(w.alloc (.cells cs.toArray t)).alloc (.cells zs.toArray t')) (b:=w.heap.size+1) (arr:=zs.toArray) (t:=t') (by rw[←World.size_alloc w (.cells cs.toArray t),heap_alloc_new]) j
 exact this
theorem RnB.set{S:List Nat}{w wr:World}{cs zs:List Value}(h:RnB S w cs zs wr){o:Nat}{v:Value}(ho:o<cs.length):RnB S w (cs.set o v) zs (wr.setCell ⟨w.heap.size,o,none⟩ v):=by
 have hk:=kept_setCell (S:=[w.heap.size]) (b:=w.heap.size) (by simp) wr o v
 have n2:w.heap.size+1 ∉ [w.heap.size]:=by simp
 refine⟨⟨hk.os.trans h.kept.os,hk.tape.trans h.kept.tape,hk.output.trans h.kept.output,Nat.le_trans h.kept.size hk.size,λk hlt hn=>(hk.block k (Nat.lt_of_lt_of_le hlt h.kept.size) (by simp;omega)).trans (h.kept.block k hlt hn)⟩,⟨Nat.lt_of_lt_of_le h.box.1 hk.size,λj u hj=>?_⟩,λj=>by rw[World.frozen?_setCell];exact h.bfz j,
  ⟨Nat.lt_of_lt_of_le h.res.1 hk.size,λj u hj=>hk.cell (h.res.2 j u hj) n2⟩,λj=>by rw[World.frozen?_setCell];exact h.fz j,h.lt⟩
 by_cases e:j=o
 ·subst e
  rw[List.getElem?_set_self ho] at hj
  cases hj
  exact World.cell?_setCell_same _ _ _ (h.box.2 j _ (List.getElem?_eq_getElem ho))
 ·rw[List.getElem?_set_ne (Ne.symm e)] at hj
  exact(World.cell?_setCell_other _ _ _ _ (by first|(simp;done)|(simp;omega))).trans (h.box.2 j u hj)
theorem str_add(s:Str):(⟨s.toArray⟩:ByteArray)++⟨#[121]⟩=⟨(yS s).toArray⟩:=ba_ext (by simp[yS])
def ptZ:List Value:=[.int .i64 0,.string ⟨#[]⟩,.int .i64 0,.slice none 0 0,.int .i64 0]
def ptV(k:Int)(s:Str)(n:Int)(v:Value)(p:Int):Value:=.agg #[.int .i64 k,.string ⟨s.toArray⟩,.int .i64 n,v,.int .i64 p]
theorem PsM.atx{w:World}{l l':List Pt}{k n p:Int}{s:Str}{a:List Pt}{F:List Nat}{xs:List Value}(h:PsM w (l++.mk k s n a p::l') F xs):
 ∃F1 Fp F2 x1 v x2,F=F1++(Fp++F2)∧Apart F1 (Fp++F2)∧Apart Fp F2∧xs=x1++(ptCells k s n v p++x2)∧x1.length=l.length*5∧PsM w l F1 x1∧PtM w (.mk k s n a p) Fp v∧PsM w l' F2 x2:=by
 obtain⟨F1,F2,x1,x2,rfl,hA,rfl,h1,h2⟩:=h.split
 rw[PsM] at h2
 obtain⟨v,G1,G2,y,rfl,hB,rfl,h3,h4⟩:=h2
 exact⟨F1,G1,G2,x1,v,y,rfl,hA,hB,rfl,h1.len,h1,h3,h4⟩
theorem PsM.putx{w:World}{l l':List Pt}{k n p:Int}{s:Str}{a:List Pt}{F1 Fp F2:List Nat}{x1 x2:List Value}{v:Value}(hA:Apart F1 (Fp++F2))(hB:Apart Fp F2)(h1:PsM w l F1 x1)(h:PtM w (.mk k s n a p) Fp v)(h2:PsM w l' F2 x2):PsM w (l++.mk k s n a p::l') (F1++(Fp++F2)) (x1++(ptCells k s n v p++x2)):=by
 refine h1.app ?_ hA
 rw[PsM]
 exact⟨v,Fp,F2,x2,rfl,hB,rfl,h,h2⟩
theorem rnp_round{ps:List Pt}{j:Nat}(hj:j<ps.length){k n p:Int}{s:Str}{a:List Pt}(hp:ps[j]=.mk k s n a p){b c:Nat}{F1 Fp F2:List Nat}{x1 x2:List Value}{va:Value}{w w5 w2:World}
 (hb:b ∉ F1++(Fp++F2)) (hA:Apart F1 (Fp++F2)) (hB:Apart Fp F2) (h1:PsM w ((ps.take j).map rnP) F1 x1) (h2:PsM w (ps.drop (j+1)) F2 x2)
 (hk:Kept Fp w w5) (h3:PtM w5 (.mk 0 [] 0 (rnPs a) 0) Fp va) (hk2:Kept [b] w5 w2) (ho:w2.ownsRow 0 127 5 (.slice (some ⟨b,0,none⟩) ps.length c) ps.length (x1++(ptCells k (rnQ k s) n va p++x2))):
 PtM w2 (.mk 0 [] 0 (mixF rnP ps (j+1)) 0) (b::(F1++(Fp++F2))) (.slice (some ⟨b,0,none⟩) ps.length c):=by
 have nb:∀x∈F1++(Fp++F2),x ∉ [b]:=λx hx h=>by
  simp only[List.mem_singleton] at h
  subst h
  exact hb hx
 have keep:∀x,x∈F1∨x∈F2→x<w.heap.size→w2.heap[x]?=w.heap[x]?:=λx hx hlt=>by
  have hxp:x ∉ Fp:=λh=>by
   rcases hx with h'|h'
   ·exact hA x h' (by simp[h])
   ·exact hB x h h'
  exact(hk2.block x (Nat.lt_of_lt_of_le hlt hk.size) (nb x (by rcases hx with h|h<;>simp[h]))).trans (hk.block x hlt hxp)
 rw[PtM,mixF_len]
 refine .inr ⟨b,c,_,_,rfl,rfl,hb,ho,?_⟩
 rw[mixF_succ hj,hp,rnP]
 exact PsM.putx hA hB (PsM.kept _ _ _ (λx hx=>keep x (.inl hx) (PsM.lt _ _ _ h1 x hx)) h1) (PtM.kept _ _ _ (λx hx=>hk2.block x (PtM.lt _ _ _ h3 x hx) (nb x (by simp[hx]))) h3).args (PsM.kept _ _ _ (λx hx=>keep x (.inr hx) (PsM.lt _ _ _ h2 x hx)) h2)
def RnPAt:Pt→Prop
 |.mk k s n a p=>∀(F:List Nat) (w:World) (v:Value),PtM w (.mk k s n a p) F v→Calls Tryz.prog 95 #[ptV k s n v p] w λe w'=>e=.returned (ptV k (rnQ k s) n v p)∧Kept F w w'∧PtM w' (.mk 0 [] 0 (rnPs a) 0) F v
theorem rnp_step(k:Int)(s:Str)(n:Int)(a:List Pt)(p:Int)(ih:∀y∈a,RnPAt y)(hlen:a.length≤2^40)(hs:s.length≤2^40):RnPAt (.mk k s n a p):=by
 intro F w v hv
 have hshape:∃vb c,v=.slice vb a.length c:=by
  rw[PtM] at hv
  rcases hv with ⟨rfl,_,rfl⟩|⟨b,c,_,_,rfl,_⟩<;>exact⟨_,_,rfl⟩
 obtain⟨vb,c,rfl⟩:=hshape
 obtain⟨L,hL⟩:∃L,L=a.length:=⟨_,rfl⟩
 rw[←hL] at hlen
 have HV:=Lib.hid (show PtM w (.mk 0 [] 0 a 0) F (.slice vb L c) from by rw[hL];exact hv.args)
 have HLT:=Lib.hid (PtM.lt _ _ _ hv)
 rw[←hL]
 have HI:=Lib.hid ih
 have HL:=Lib.hid hL
 obtain⟨q,hq⟩:∃q,q=rnQ k s:=⟨_,rfl⟩
 rw[←hq]
 have HQ:=Lib.hid hq
 have HB0:=Lib.hid (RnB.start (w:=w) (cs:=ptCells k s n (.slice vb L c) p) (zs:=ptZ) (t:=127) (t':=127) (S:=[]) (λx hx=>by cases hx))
 have hadd:=str_add s
 have hsz:¬((((⟨s.toArray⟩:ByteArray).size+(⟨#[121]⟩:ByteArray).size:Nat):Int)>9223372036854775807):=by rw[ba_size,show(⟨#[121]⟩:ByteArray).size=1 from rfl];omega
 clear hv ih hL hq
 unfold ptV
 go_enter Tryz.func95,Tryz.ntmps95
 go_upto_if 6 with fail
 go_cut [] (λwx=>Hid (RnB [] w (ptCells k q n (.slice vb L c) p) ptZ wx))
 case first=>
  by_cases hk:k=2
  ·have d:(k==2)=true:=by simpa using hk
   have hy:yS s=q:=by rw[HQ.out,rnQ,if_pos hk]
   rw[hy] at hadd
   clear hy hk
   go_wp2_with fail
   go_meet
   exact Lib.hid (RnB.start (w:=w) (cs:=ptCells k q n (.slice vb L c) p) (zs:=ptZ) (t:=127) (t':=127) (S:=[]) (λx hx=>by cases hx))
  ·have d:(k==2)=false:=by simpa using hk
   have hy:q=s:=by rw[HQ.out,rnQ,if_neg hk]
   subst hy
   clear hk
   go_wp2_with fail
   go_meet
   exact HB0
 case rest=>
 have HB1:=Lib.hid (hcut.out.grow (λx hx=>by cases hx) HLT.out)
 have HV1:=Lib.hid (PtM.kept _ _ _ (λx hx=>hcut.out.kept.block x (HLT.out x hx) (by simp)) HV.out)
 clear hcut HB0 hadd hsz HV
 have z3:=HB1.out.box.2 3 _ rfl
 go_wp2_with fail
 go_loopg [3] L (λg x3 wr=>∃j:Nat,j+g=L∧x3=.int .i64 j∧Hid (RnB F w (ptCells k q n (.slice vb L c) p) ptZ wr)∧Hid (PtM wr (.mk 0 [] 0 (mixF rnP a j) 0) F (.slice vb L c)))
 case atStart=>exact⟨0,by omega,rfl,HB1,Lib.hid (by rw[mixF_zero];exact HV1.out)⟩
 case round=>
  obtain⟨j,hj,rfl,hRB,hP⟩:=hrel
  by_cases hlt:j<L
  ·have hjp:j<a.length:=by have:=HL.out;omega
   obtain⟨W0,hW0⟩:∃W0,wr.drew=W0:=⟨_,rfl⟩
   have HRB:=Lib.hid (show RnB F w (ptCells k q n (.slice vb L c) p) ptZ W0 from by rw[←hW0];exact hRB.out.next (Kept.refl [] _).drew (λx hx=>by cases hx))
   have hP':PtM W0 (.mk 0 [] 0 (mixF rnP a j) 0) F (.slice vb L c):=by rw[←hW0];exact PtM.kept (w:=wr) (w':=wr.drew) _ _ _ (λx hx=>rfl) hP.out
   rw[PtM,mixF_len] at hP'
   rcases hP' with ⟨h0,_⟩|⟨b,c',F',xs,hs',rfl,hb,ho,hps⟩
   ·have:=congrArg List.length h0
    rw[mixF_len] at this
    rw[List.length_nil] at this
    omega
   ·cases hs'
    rw[mixF_at hjp] at hps
    obtain⟨k1,s1,n1,a1,p1,hp⟩:∃k s n b p,a[j]=.mk k s n b p:=by
     cases h:a[j] with
     |mk k s n a p=>exact⟨k,s,n,a,p,rfl⟩
    rw[hp] at hps
    obtain⟨F1,Fp,F2,x1,va,x2,rfl,hA,hB,rfl,hx1,h1,h3,h2⟩:=hps.atx
    have hx1:x1.length=j*5:=by
     rw[hx1,List.length_map,List.length_take]
     congr 1;omega
    have hT:=HI.out a[j] (List.getElem_mem hjp)
    rw[hp,RnPAt] at hT
    unfold ptV at hT
    obtain⟨ab,an,ac,rfl⟩:=ptM_slice h3
    have HO:Hid (W0.ownsRow 0 127 5 (.slice (some ⟨b,0,none⟩) a.length c) a.length (x1++(ptCells k1 s1 n1 (.slice ab an ac) p1++x2))):=Lib.hid ho
    have HT:=Lib.hid hT
    have H1:=Lib.hid h1
    have H2:=Lib.hid h2
    have H3:=Lib.hid h3
    have HN:=Lib.hid (And.intro hb (And.intro hA (And.intro hB hp)))
    have HX:=Lib.hid hx1
    have HNb:Hid (b ∉ Fp):=Lib.hid (λh=>hb (by simp[h]))
    have HSub:Hid (∀x∈Fp,x∈b::(F1++(Fp++F2))):=Lib.hid (λx hx=>by simp[hx])
    have cw:=hRB.out.box.2 3 _ rfl
    clear ho hps hT h1 h2 h3 hb hA hB hp hx1 hP hRB
    have HKK:Hid (∀vo w2,CJ 8 W0 (λw2=>Kept Fp W0 w2∧PtM w2 (.mk 0 [] 0 (rnPs a1) 0) Fp (.slice ab an ac)) (rnT w.heap.size 3 b j 5 (.slice (some ⟨b,0,none⟩) a.length c) (.agg #[.int .i64 k1,.string ⟨s1.toArray⟩,.int .i64 n1,.slice ab an ac,.int .i64 p1]) (.agg #[.int .i64 k1,.string ⟨(rnQ k1 s1).toArray⟩,.int .i64 n1,.slice ab an ac,.int .i64 p1])) vo w2→Kept Fp W0 w2):=Lib.hid (λvo w2 hJ=>by
     cases h8:vo 8 with
     |none=>rw[hJ.pre h8];exact Kept.refl _ _
     |some x=>exact(hJ.post (by rw[h8];simp)).1)
    go_upto_region 6 with fail
    refine wp_region_va [9,10] (CJ 8 W0 (λw2=>Kept Fp W0 w2∧PtM w2 (.mk 0 [] 0 (rnPs a1) 0) Fp (.slice ab an ac)) (rnT w.heap.size 3 b j 5 (.slice (some ⟨b,0,none⟩) a.length c) (.agg #[.int .i64 k1,.string ⟨s1.toArray⟩,.int .i64 n1,.slice ab an ac,.int .i64 p1]) (.agg #[.int .i64 k1,.string ⟨(rnQ k1 s1).toArray⟩,.int .i64 n1,.slice ab an ac,.int .i64 p1]))) (by kernel_rfl) (by kernel_rfl) (by rw[hW0];exact CJ.start) (by kernel_rfl) ?_ ?_
    ·refine⟨?_,?_,?_,?_,?_,?_,?_,?_,?_,?_,?_,trivial⟩
     all_goals (first|(rw[if_pos (by decide)];trivial)|rw[if_neg (by decide)])
     ·intro act wx vo hJ hn hold hpre K hK
      have h7:=hold 1 (by decide)
      have HK:=Lib.hid (hK _ _ (hJ.put (i:=0) (by decide) (v:=.pointer (some ⟨w.heap.size,3,none⟩)) rfl))
      simp[Act.eval] at h7
      clear hold hpre hK hJ hn
      go_simp
      exact HK.out
     ·intro act wx vo hJ hn hold hpre K hK
      have e0:act.eval (.tmp 18)=.pointer (some ⟨w.heap.size,3,none⟩):=hJ.told 0 _ ((hpre 0 _ rfl (by kernel_rfl)).2 18 rfl)
      have hc:=(HRB.out.next (HKK.out _ _ hJ) HSub.out).box.2 3 _ rfl
      have HK:=Lib.hid (hK _ _ (hJ.put (i:=1) (by decide) (v:=.slice (some ⟨b,0,none⟩) a.length c) rfl))
      simp[Act.eval] at e0
      clear hold hpre hK hJ hn
      go_simp
      exact HK.out
     ·intro act wx vo hJ hn hold hpre K hK
      have h7:=hold 3 (by decide)
      have HK:=Lib.hid (hK _ _ (hJ.put (i:=2) (by decide) (v:=.int .i64 j) rfl))
      simp[Act.eval] at h7
      clear hold hpre hK hJ hn
      go_simp
      exact HK.out
     ·intro act wx vo hJ hn hold hpre K hK
      have h7:=hold 1 (by decide)
      have HK:=Lib.hid (hK _ _ (hJ.put (i:=3) (by decide) (v:=.pointer (some ⟨w.heap.size,3,none⟩)) rfl))
      simp[Act.eval] at h7
      clear hold hpre hK hJ hn
      go_simp
      exact HK.out
     ·intro act wx vo hJ hn hold hpre K hK
      have e0:act.eval (.tmp 21)=.pointer (some ⟨w.heap.size,3,none⟩):=hJ.told 3 _ ((hpre 3 _ rfl (by kernel_rfl)).2 21 rfl)
      have hc:=(HRB.out.next (HKK.out _ _ hJ) HSub.out).box.2 3 _ rfl
      have HK:=Lib.hid (hK _ _ (hJ.put (i:=4) (by decide) (v:=.slice (some ⟨b,0,none⟩) a.length c) rfl))
      simp[Act.eval] at e0
      clear hold hpre hK hJ hn
      go_simp
      exact HK.out
     ·intro act wx vo hJ hn hold hpre K hK
      have h7:=hold 3 (by decide)
      have HK:=Lib.hid (hK _ _ (hJ.put (i:=5) (by decide) (v:=.int .i64 j) rfl))
      simp[Act.eval] at h7
      clear hold hpre hK hJ hn
      go_simp
      exact HK.out
     ·intro act wx vo hJ hn hold hpre K hK
      have e0:act.eval (.tmp 22)=.slice (some ⟨b,0,none⟩) a.length c:=hJ.told 4 _ ((hpre 4 _ rfl (by kernel_rfl)).2 22 rfl)
      have e1:act.eval (.tmp 23)=.int .i64 j:=hJ.told 5 _ ((hpre 5 _ rfl (by kernel_rfl)).2 23 rfl)
      have HK:=Lib.hid (hK _ _ (hJ.put (i:=6) (by decide) (v:=.pointer (some ⟨b,j*5,none⟩)) rfl))
      simp[Act.eval] at e0 e1
      clear hold hpre hK hJ hn
      go_simp
      exact HK.out
     ·intro act wx vo hJ hn hold hpre K hK
      have e0:act.eval (.tmp 24)=.pointer (some ⟨b,j*5,none⟩):=hJ.told 6 _ ((hpre 6 _ rfl (by kernel_rfl)).2 24 rfl)
      have hr:=own_cells (ownsRow_heap HO.out ((HKK.out _ _ hJ).block b (HO.out.lt _ rfl).2 HNb.out)) HX.out hjp rfl
      have c0:=hr 0 _ rfl
      have c1:=hr 1 _ rfl
      have c2:=hr 2 _ rfl
      have c3:=hr 3 _ rfl
      have c4:=hr 4 _ rfl
      simp only[Nat.add_zero] at c0
      clear hr
      have HK:=Lib.hid (hK _ _ (hJ.put (i:=7) (by decide) (v:=.agg #[.int .i64 k1,.string ⟨s1.toArray⟩,.int .i64 n1,.slice ab an ac,.int .i64 p1]) rfl))
      simp[Act.eval] at e0
      clear hold hpre hK hJ hn
      go_simp
      exact HK.out
     ·intro act wx vo hJ hn hold hpre K hK
      have e0:act.eval (.tmp 25)=.agg #[.int .i64 k1,.string ⟨s1.toArray⟩,.int .i64 n1,.slice ab an ac,.int .i64 p1]:=hJ.told 7 _ ((hpre 7 _ rfl (by kernel_rfl)).2 25 rfl)
      obtain rfl:W0=wx:=(hJ.pre hn).symm
      have HK:=Lib.hid (λw2 (hP:(λw2=>Kept Fp W0 w2∧PtM w2 (.mk 0 [] 0 (rnPs a1) 0) Fp (.slice ab an ac)) w2)=>hK _ w2 (hJ.call (v:=.agg #[.int .i64 k1,.string ⟨(rnQ k1 s1).toArray⟩,.int .i64 n1,.slice ab an ac,.int .i64 p1]) rfl hP))
      simp[Act.eval] at e0
      clear hold hpre hK hJ hn HKK hW0
      go_simp
      refine(HT.out Fp _ _ H3.out).mono ?_
      rintro e w5 ⟨rfl,hk5,hp5⟩
      exact HK.out _ ⟨hk5,hp5⟩
    ·intro vals w5 vo hv hJ
     have e0:vals 0=.pointer (some ⟨w.heap.size,3,none⟩):=hJ.told 0 _ (hv 0 (by decide) (by decide))
     have e1:vals 1=.slice (some ⟨b,0,none⟩) a.length c:=hJ.told 1 _ (hv 1 (by decide) (by decide))
     have e2:vals 2=.int .i64 j:=hJ.told 2 _ (hv 2 (by decide) (by decide))
     have e3:vals 3=.pointer (some ⟨w.heap.size,3,none⟩):=hJ.told 3 _ (hv 3 (by decide) (by decide))
     have e4:vals 4=.slice (some ⟨b,0,none⟩) a.length c:=hJ.told 4 _ (hv 4 (by decide) (by decide))
     have e5:vals 5=.int .i64 j:=hJ.told 5 _ (hv 5 (by decide) (by decide))
     have e6:vals 6=.pointer (some ⟨b,j*5,none⟩):=hJ.told 6 _ (hv 6 (by decide) (by decide))
     have e7:vals 7=.agg #[.int .i64 k1,.string ⟨s1.toArray⟩,.int .i64 n1,.slice ab an ac,.int .i64 p1]:=hJ.told 7 _ (hv 7 (by decide) (by decide))
     have e8:vals 8=.agg #[.int .i64 k1,.string ⟨(rnQ k1 s1).toArray⟩,.int .i64 n1,.slice ab an ac,.int .i64 p1]:=hJ.told 8 _ (hv 8 (by decide) (by decide))
     obtain⟨hk5,hp5⟩:=hJ.post (by rw[hv 8 (by decide) (by decide)];simp)
     have HR5:=Lib.hid (HRB.out.next hk5 HSub.out)
     have ho5:=ownsRow_heap HO.out (hk5.block b (HO.out.lt _ rfl).2 HNb.out)
     have hr:=own_cells ho5 HX.out hjp rfl
     have c0:=hr 0 _ rfl
     have c1:=hr 1 _ rfl
     have c2:=hr 2 _ rfl
     have c3:=hr 3 _ rfl
     have c4:=hr 4 _ rfl
     have z0:=ho5.frozenAt (j*5)
     have z1:=ho5.frozenAt (j*5+1)
     have z2:=ho5.frozenAt (j*5+2)
     have z3:=ho5.frozenAt (j*5+3)
     have z4:=ho5.frozenAt (j*5+4)
     simp only[Nat.add_zero] at c0
     obtain⟨W9,hW9⟩:∃W9,setsFrom w5 b (j*5) (ptCells k1 (rnQ k1 s1) n1 (.slice ab an ac) p1)=W9:=⟨_,rfl⟩
     have hk9:Kept [b] w5 W9:=by rw[←hW9];exact setsFrom_kept _ _ _
     have ho9:=setsFrom_own (ptCells k1 s1 n1 (.slice ab an ac) p1) (ptCells k1 (rnQ k1 s1) n1 (.slice ab an ac) p1) x1 x2 w5 rfl ho5
     rw[HX.out,hW9] at ho9
     have G1:=Lib.hid (HR5.out.next hk9 (λx hx=>by simp only[List.mem_singleton] at hx;subst hx;simp))
     have G2:=Lib.hid (rnp_round hjp HN.out.2.2.2 HN.out.1 HN.out.2.1 HN.out.2.2.1 H1.out H2.out hk5 hp5 hk9 ho9)
     simp only[setsFrom,exCells,ptCells,Nat.add_assoc,Nat.reduceAdd] at hW9
     subst hW9
     simp only[fillA,List.contains_cons,List.contains_nil,Nat.reduceAdd,Nat.reduceBEq,Bool.or_false,Bool.or_true,Bool.false_eq_true,if_true,if_false,Act.put,List.setIfInBounds_toArray,List.set_cons_zero,List.set_cons_succ,e0,e1,e2,e3,e4,e5,e6,e7,e8]
     simp only[List.filterMap_cons,List.filterMap_nil,List.getElem?_toArray,List.getElem?_cons_succ,List.getElem?_cons_zero]
     clear hv hJ e0 e1 e2 e3 e4 e5 e6 e7 e8 hr hk5 hp5 ho5 hk9 ho9 HKK
     go_wp2_with fail
     go_roundg (a.length-(j+1))
     case measure=>omega
     case rel=>exact⟨j+1,by omega,by go_num,G1,G2⟩
  ·have hjl:j=L:=by omega
   subst hjl
   have c0:=hRB.out.box.2 0 _ rfl
   have c1:=hRB.out.box.2 1 _ rfl
   have c2:=hRB.out.box.2 2 _ rfl
   have c3:=hRB.out.box.2 3 _ rfl
   have c4:=hRB.out.box.2 4 _ rfl
   have d0:=hRB.out.res.2 0 _ rfl
   have d1:=hRB.out.res.2 1 _ rfl
   have d2:=hRB.out.res.2 2 _ rfl
   have d3:=hRB.out.res.2 3 _ rfl
   have d4:=hRB.out.res.2 4 _ rfl
   have z0:=hRB.out.fz 0
   have z1:=hRB.out.fz 1
   have z2:=hRB.out.fz 2
   have z3:=hRB.out.fz 3
   have z4:=hRB.out.fz 4
   obtain⟨W9,hW9⟩:∃W9,setsFrom wr (w.heap.size+1) 0 (ptCells k q n (.slice vb j c) p)=W9:=⟨_,rfl⟩
   have hb9:BoxAt (w.heap.size+1) W9 (ptCells k q n (.slice vb j c) p):=by rw[←hW9];exact setsFrom_box hRB.out.res rfl
   have hk9:Kept [w.heap.size+1] wr W9:=by rw[←hW9];exact setsFrom_kept _ _ _
   have f0:=hb9.2 0 _ rfl
   have f1:=hb9.2 1 _ rfl
   have f2:=hb9.2 2 _ rfl
   have f3:=hb9.2 3 _ rfl
   have f4:=hb9.2 4 _ rfl
   have HFin:=Lib.hid (show Kept F w W9∧PtM W9 (.mk 0 [] 0 (rnPs a) 0) F (.slice vb j c) from by
    refine⟨⟨hk9.os.trans hRB.out.kept.os,hk9.tape.trans hRB.out.kept.tape,hk9.output.trans hRB.out.kept.output,Nat.le_trans hRB.out.kept.size hk9.size,λx hx hn=>(hk9.block x (Nat.lt_of_lt_of_le hx hRB.out.kept.size) (by simp;omega)).trans (hRB.out.kept.block x hx hn)⟩,?_⟩
    have h:=hP.out
    rw[HL.out,mixF_all,←rnPs_map] at h
    rw[HL.out]
    exact PtM.kept _ _ _ (λx hx=>hk9.block x (PtM.lt _ _ _ h x hx) (by have:=HLT.out x hx;simp;omega)) h)
   simp only[setsFrom,ptCells,Nat.reduceAdd] at hW9
   clear hb9 hk9 hRB hP HB1 HV1
   subst hW9
   go_wp2_with fail
   refine bodyPost_ret (v:=.agg #[.int .i64 k,.string ⟨q.toArray⟩,.int .i64 n,.slice vb j c,.int .i64 p]) (by simp[results,Tryz.results95,go_sem,f0,f1,f2,f3,f4]) rfl ?_
   exact⟨rfl,HFin.out⟩
mutual
theorem rnp_hw:∀(x:Pt),okP (2^40) x→RnPAt x
 |.mk k s n a p,h=>by
  rw[okP] at h
  exact rnp_step k s n a p (rnps_hw a h.2.2) h.2.1 h.1
theorem rnps_hw:∀(l:List Pt),okPs (2^40) l→∀y∈l,RnPAt y
 |[],_,y,hy=>by cases hy
 |q::l,h,y,hy=>by
  rw[okPs] at h
  exact(List.mem_cons.1 hy).elim (λe=>by rw[e];exact rnp_hw q h.1) (λhy=>rnps_hw l h.2 y hy)
end
end Go.Proofs.YtgmapdcdmomioaaGreatDoor.Pa
