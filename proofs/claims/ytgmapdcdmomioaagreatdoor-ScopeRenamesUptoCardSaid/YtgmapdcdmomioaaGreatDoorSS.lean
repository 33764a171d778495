/- ScopeRenames, plain: names made longer, each by the same letter, are wrong where they were wrong. ScopeRenames: what the law's function calls, each from any world. -/
import Derived.Test.YtgmapdcdmomioaaGreatDoorUE
import Derived.Test.YtgmapdcdmomioaaGreatDoorSO
import Derived.Test.YtgmapdcdmomioaaGreatDoorUF
set_option linter.all false
set_option autoImplicit false
set_option maxRecDepth 100000
namespace Go.Proofs.YtgmapdcdmomioaaGreatDoor.Pa
open Go Go.Proofs.YtgmapdcdmomioaaGreatDoor.Am
mutual
theorem szPt_rn:∀x:Pt,szPt (rnP x)=szPt x
 |.mk k s n a p=>by rw[rnP,szPt,szPt,szPts_rn a]
theorem szPts_rn:∀l:List Pt,szPts (rnPs l)=szPts l
 |[]=>rfl
 |x::l=>by rw[rnPs,szPts,szPts,szPt_rn x,szPts_rn l]
end
mutual
theorem szEx_rn:∀x:Ex',szEx (rnE x)=szEx x
 |.mk k s r n a b p=>by rw[rnE,szEx,szEx,szExs_rn a,szPts_rn b]
theorem szExs_rn:∀l:List Ex',szExs (rnEs l)=szExs l
 |[]=>rfl
 |x::l=>by rw[rnEs,szExs,szExs,szEx_rn x,szExs_rn l]
end
mutual
theorem dpPt_rn:∀x:Pt,dpPt (rnP x)=dpPt x
 |.mk k s n a p=>by rw[rnP,dpPt,dpPt,dpPts_rn a]
theorem dpPts_rn:∀l:List Pt,dpPts (rnPs l)=dpPts l
 |[]=>rfl
 |x::l=>by rw[rnPs,dpPts,dpPts,dpPt_rn x,dpPts_rn l]
end
mutual
theorem dpEx_rn:∀x:Ex',dpEx (rnE x)=dpEx x
 |.mk k s r n a b p=>by rw[rnE,dpEx,dpEx,dpExs_rn a,dpPts_rn b]
theorem dpExs_rn:∀l:List Ex',dpExs (rnEs l)=dpExs l
 |[]=>rfl
 |x::l=>by rw[rnEs,dpExs,dpExs,dpEx_rn x,dpExs_rn l]
end
theorem pre_rn{P:Pg}(h:Pre P):Pre ⟨P.ds,rnE P.e⟩:=⟨h.ds,by show szEx (rnE P.e)≤_;rw[szEx_rn];exact h.sz,by show dpEx (rnE P.e)≤_;rw[dpEx_rn];exact h.dp⟩
def PR.y:PR→PR
 |.bad p=>.bad p
 |.ok l=>.ok (l.map yS)
mutual
theorem patF_rn(l:List Dc):∀(x:Pt) (ns:List Str),patF l (rnP x) (ns.map yS)=(patF l x ns).y
 |.mk k s n a p,ns=>by
  rw[rnP,patF,patF,rnPs_len]
  by_cases hk:k=2
  ·subst hk
   rw[rnQ,if_pos rfl]
   simp only[beq_self_eq_true,cond_true,yS_mem]
   cases ns.contains s
   ·have h:=patFs_rn l a (ns++[s])
    rw[List.map_append] at h
    exact h
   ·rfl
  ·have h:(k==2)=false:=by simpa using hk
   rw[rnQ,if_neg hk]
   simp only[h,cond_false]
   cases (k==4&&!conOk l s a.length)
   ·exact patFs_rn l a ns
   ·rfl
theorem patFs_rn(l:List Dc):∀(xs:List Pt) (ns:List Str),patFs l (rnPs xs) (ns.map yS)=(patFs l xs ns).y
 |[],ns=>by rw[rnPs,patFs,patFs];rfl
 |x::xs,ns=>by
  rw[rnPs,patFs,patFs,patF_rn l x ns]
  cases patF l x ns with
  |bad p=>rfl
  |ok ns'=>exact patFs_rn l xs ns'
end
def Nm(k:Int)(s r:Str):Prop:=(k=1∨k=3∨k=5∨k=6→s≠[])∧(k=6→r≠[])
theorem wLow_nil:wLow []=false:=rfl
theorem nm_ok{k:Int}{s r:Str}{n la lb:Int}(h:okEx1 k s r n la lb=true):Nm k s r:=by
 refine⟨?_,?_⟩
 ·rintro (rfl|rfl|rfl|rfl) rfl<;>simp[okEx1,wLow_nil] at h
 ·rintro rfl rfl
  simp[okEx1,wLow_nil] at h
theorem binds_rn{k:Int}{s r:Str}(h:Nm k s r)(b b':List Pt)(i:Nat)(hc:¬(k=7∧0<i)):bindsOf k (rnS k s) (rnR r) b' i=(bindsOf k s r b i).map yS:=by
 unfold bindsOf
 by_cases k3:k=3
 ·subst k3
  have hs:rnS 3 s=yS s:=by rw[rnS,if_pos ⟨h.1 (by simp),by simp⟩]
  rw[hs]
  by_cases hi:i=0<;>simp[hi]
 ·by_cases k5:k=5
  ·subst k5
   have hs:rnS 5 s=yS s:=by rw[rnS,if_pos ⟨h.1 (by simp),by simp⟩]
   rw[hs]
   by_cases hi:i=1<;>simp[hi]
  ·by_cases k6:k=6
   ·subst k6
    have hs:rnS 6 s=yS s:=by rw[rnS,if_pos ⟨h.1 (by simp),by simp⟩]
    have hr:rnR r=yS r:=by rw[rnR,if_pos (h.2 rfl)]
    rw[hs,hr]
    by_cases hi:i=0
    ·simp[hi]
    ·by_cases hi1:i=1<;>simp[hi,hi1]
   ·by_cases k7:k=7
    ·subst k7
     have hi:i=0:=by
      have:¬0<i:=λh=>hc ⟨rfl,h⟩
      omega
     simp[hi]
    ·simp[k3,k5,k6,k7]
theorem namesAt_rn(l:List Dc){k:Int}{s r:Str}(h:Nm k s r)(b:List Pt)(i:Nat):namesAt l k (rnS k s) (rnR r) (rnPs b) i=(namesAt l k s r b i).y:=by
 unfold namesAt
 by_cases hc:k=7∧0<i
 ·obtain⟨rfl,hi⟩:=hc
  have e:((7:Int)==7&&decide (0<i))=true:=by simpa using hi
  rw[e,cond_true,cond_true,rnPs_map,List.getElem?_map]
  cases b[i-1]? with
  |none=>rfl
  |some x=>exact patF_rn l x []
 ·have e:(k==7&&decide (0<i))=false:=by
   cases h1:(k==7&&decide (0<i)) with
   |false=>rfl
   |true=>
    simp only[Bool.and_eq_true,beq_iff_eq,decide_eq_true_eq] at h1
    exact absurd h1 hc
  rw[e,cond_false,cond_false,binds_rn h b (rnPs b) i hc]
  rfl
mutual
theorem exprF_rn(l:List Dc):∀(e:Ex') (bd:List Str),okEx e=true→exprF l (rnE e) (bd.map yS)=exprF l e bd
 |.mk k s r n a b p,bd,h=>by
  rw[okEx,Bool.and_eq_true,Bool.and_eq_true] at h
  have hn:=nm_ok h.1
  rw[rnE,exprF,exprF,rnEs_len,exprFs_rn l a 0 bd _ _ (namesAt_rn l hn b) h.2.2]
  by_cases k1:k=1
  ·subst k1
   have hs:rnS 1 s=yS s:=by rw[rnS,if_pos ⟨hn.1 (by simp),by simp⟩]
   rw[hs,yS_mem]
   rfl
  ·have e1:(k==1)=false:=by simpa using k1
   rw[e1]
   by_cases k8:k=8
   ·subst k8
    rw[rnS,if_neg (by simp)]
    rfl
   ·have e8:(k==8)=false:=by simpa using k8
    rw[e8]
    rfl
theorem exprFs_rn(l:List Dc):∀(xs:List Ex') (i:Nat) (bd:List Str) (nm nm':Nat→PR),(∀i,nm' i=(nm i).y)→okExs xs=true→exprFs l nm' (rnEs xs) i (bd.map yS)=exprFs l nm xs i bd
 |[],i,bd,nm,nm',_,_=>by rw[rnEs,exprFs,exprFs]
 |x::xs,i,bd,nm,nm',hn,h=>by
  rw[okExs,Bool.and_eq_true] at h
  rw[rnEs,exprFs,exprFs,hn i]
  cases nm i with
  |bad p=>rfl
  |ok ns=>
   show(match exprF l (rnE x) (bd.map yS++ns.map yS) with|some p=>some p|none=>exprFs l nm' (rnEs xs) (i+1) (bd.map yS))=_
   rw[←List.map_append,exprF_rn l x (bd++ns) h.1,exprFs_rn l xs (i+1) bd nm nm' hn h.2]
   rfl
end
theorem chkNames_rn{P:Pg}(h:okEx P.e=true):chkNames ⟨P.ds,rnE P.e⟩=chkNames P:=by
 unfold chkNames
 have e:allDc ⟨P.ds,rnE P.e⟩=allDc P:=rfl
 have e2:=exprF_rn (allDc P) P.e [] h
 rw[List.map_nil] at e2
 simp only[e,e2]
theorem renames_plain{P:Pg}(h:rCheckP P=true)(h':rCheckP ⟨P.ds,rnE P.e⟩=true):chk14 ⟨P.ds,rnE P.e⟩=chk14 P:=by
 rw[chk14,chk14,h,h',cond_true,cond_true]
 unfold rCheckP at h
 simp only[Bool.and_eq_true] at h
 exact chkNames_rn h.2.2.2.2
end Go.Proofs.YtgmapdcdmomioaaGreatDoor.Pa
namespace Go.Proofs.YtgmapdcdmomioaaGreatDoor.Pa
open Go Go.Proofs.YtgmapdcdmomioaaGreatDoor.Am Go.Proofs.YtgmapdcdmomioaaGreatDoor.Hw Go.RowKit
theorem okPs_row{n:Nat}(hn:2^40≤n+1):∀(k:Nat) (d:Dat),SizeOf.sizeOf d<k→HasTy TT 25 d→StrB d→okPs n (rowP d)
 |0,d,h,_,_=>by omega
 |k+1,d,h,hd,hb=>by
  rw[okPs_all]
  intro p hp
  obtain⟨x,hx,rfl⟩:=List.mem_map.1 hp
  have hbx:=strB_els hb x hx
  obtain⟨i,hi,rfl⟩:=List.getElem_of_mem hx
  have hsz:=sizeOf_el hi
  obtain⟨k1,s1,n1,a1,p1,e1,hs1,t1⟩:=pat_ty ((hd.els undPats).2 _ (List.getElem_mem hi))
  have hc:=sizeOf_cell (cs:=[.int .i64 k1,.str s1,.int .i64 n1,a1,.int .i64 p1]) (c:=a1) (by simp)
  rw[e1] at hsz hbx⊢
  show okP n (.mk k1 s1 n1 (absPtA a1) p1)
  have h1:s1.length<2^40:=strs_of (strB_fld hbx 1)
  rw[okP,absPtA_map]
  exact⟨by omega,by rw[List.length_map];exact(t1.els undPats).1.1,okPs_row hn k a1 (by omega) t1 (strB_fld hbx 3)⟩
theorem okE_row{n:Nat}(hn:2^40≤n+1):∀(k:Nat) (d:Dat),SizeOf.sizeOf d<k→HasTy TT 27 d→StrB d→okE n (absEx d)
 |0,d,h,_,_=>by omega
 |k+1,d,h,hd,hb=>by
  obtain⟨k1,s1,r1,n1,a1,b1,p1,rfl,hs1,hr1,t1,u1⟩:=expr_ty hd
  have hc:=sizeOf_cell (cs:=[.int .i64 k1,.str s1,.str r1,.int .i64 n1,a1,b1,.int .i64 p1]) (c:=a1) (by simp)
  show okE n (.mk k1 s1 r1 n1 (absExA a1) (absPtA b1) p1)
  have h1:s1.length<2^40:=strs_of (strB_fld hb 1)
  have h2:r1.length<2^40:=strs_of (strB_fld hb 2)
  rw[okE,absPtA_map,absExA_map,List.length_map,List.length_map]
  refine⟨by omega,by omega,(t1.els undExprs).1,?_,(u1.els undPats).1.1,okPs_row hn _ b1 (Nat.lt_succ_self _) u1 (strB_fld hb 5)⟩
  rw[okEs_all]
  intro p hp
  obtain⟨x,hx,rfl⟩:=List.mem_map.1 hp
  have hbx:=strB_els (strB_fld hb 4) x hx
  have htx:=(t1.els undExprs).2 x hx
  obtain⟨i,hi,rfl⟩:=List.getElem_of_mem hx
  have hsz:=sizeOf_el hi
  exact okE_row hn k _ (by omega) htx hbx
theorem rep_sliceX{t e:TypeId}{E:Em}{w:World}{d:Dat}{v:Value}(h:HasTy TT t d)(hu:TT.und t=some (.slice e))(r:Rep E w d v):∃a n c,v=.slice a n c:=by
 have key:∀m xs,Rep E w (.sl m xs) v→∃a n c,v=.slice a n c:=λm xs h=>by cases h<;>exact⟨_,_,_,rfl⟩
 rcases h.sl_inv hu with rfl|⟨m,xs,rfl|⟨k,rfl⟩,_⟩
 ·cases r;exact⟨_,_,_,rfl⟩
 ·exact key _ _ r
 ·cases r with
  |gsl _ _ _ _ _ h _ _ _=>exact key _ _ h
theorem one_slice{t e:TypeId}{d:Dat}(h:HasTy TT t d)(hu:TT.und t=some (.slice e)):d.one=true:=by
 rcases h.sl_inv hu with rfl|⟨m,ys,rfl|⟨t,rfl⟩,_⟩<;>rfl
theorem rep_prog{E:Em}{w:World}{d a b:Dat}{k n p:Int}{s r:Str}{v:Value}(h:Rep E w (.agg [d,.int .i64 k,.str s,.str r,.int .i64 n,a,b,.int .i64 p]) v):∃vd va vb,v=progV vd k s r n va vb p∧Rep E w d vd∧Rep E w a va∧Rep E w b vb:=by
 cases h with
 |agg _ vs hl h1 h=>
  match vs,hl with
  |[v0,v1,v2,v3,v4,v5,v6,v7],_=>
   have e1:=(rep_cell (h 1 _ _ rfl rfl)).1 _ _ rfl
   have e2:=(rep_cell (h 2 _ _ rfl rfl)).2 _ rfl
   have e3:=(rep_cell (h 3 _ _ rfl rfl)).2 _ rfl
   have e4:=(rep_cell (h 4 _ _ rfl rfl)).1 _ _ rfl
   have e7:=(rep_cell (h 7 _ _ rfl rfl)).1 _ _ rfl
   subst e1 e2 e3 e4 e7
   exact⟨v0,v5,v6,rfl,h 0 _ _ rfl rfl,h 5 _ _ rfl rfl,h 6 _ _ rfl rfl⟩
theorem rep_prog_mk{E:Em}{w:World}{d a b:Dat}{k n p:Int}{s r:Str}{vd va vb:Value}(td:HasTy TT 23 d)(ta:HasTy TT 24 a)(tb:HasTy TT 25 b)(hd:Rep E w d vd)(ha:Rep E w a va)(hb:Rep E w b vb):Rep E w (.agg [d,.int .i64 k,.str s,.str r,.int .i64 n,a,b,.int .i64 p]) (progV vd k s r n va vb p):=by
 have o1:=one_slice td undDecls
 have o2:=one_slice ta undExprs
 have o3:=one_slice tb undPats
 refine .agg _ [vd,.int .i64 k,.string ⟨s.toArray⟩,.string ⟨r.toArray⟩,.int .i64 n,va,vb,.int .i64 p] rfl (λx hx=>?_) (λj x v hx hv=>?_)
 ·simp only[List.mem_cons,List.not_mem_nil,or_false] at hx
  rcases hx with rfl|rfl|rfl|rfl|rfl|rfl|rfl|rfl
  ·exact o1
  ·rfl
  ·rfl
  ·rfl
  ·rfl
  ·exact o2
  ·exact o3
  ·rfl
 ·match j,hx,hv with
  |0,hx,hv=>cases hx;cases hv;exact hd
  |1,hx,hv=>cases hx;cases hv;exact .int _ _
  |2,hx,hv=>cases hx;cases hv;exact .str _
  |3,hx,hv=>cases hx;cases hv;exact .str _
  |4,hx,hv=>cases hx;cases hv;exact .int _ _
  |5,hx,hv=>cases hx;cases hv;exact ha
  |6,hx,hv=>cases hx;cases hv;exact hb
  |7,hx,hv=>cases hx;cases hv;exact .int _ _
theorem rep_expr_mk{E:Em}{w:World}{a b:Dat}{k n p:Int}{s r:Str}{va vb:Value}(ta:HasTy TT 24 a)(tb:HasTy TT 25 b)(ha:Rep E w a va)(hb:Rep E w b vb):Rep E w (.agg [.int .i64 k,.str s,.str r,.int .i64 n,a,b,.int .i64 p]) (exprV k s r n va vb p):=by
 have o2:=one_slice ta undExprs
 have o3:=one_slice tb undPats
 refine .agg _ [.int .i64 k,.string ⟨s.toArray⟩,.string ⟨r.toArray⟩,.int .i64 n,va,vb,.int .i64 p] rfl (λx hx=>?_) (λj x v hx hv=>?_)
 ·simp only[List.mem_cons,List.not_mem_nil,or_false] at hx
  rcases hx with rfl|rfl|rfl|rfl|rfl|rfl|rfl
  ·rfl
  ·rfl
  ·rfl
  ·rfl
  ·exact o2
  ·exact o3
  ·rfl
 ·match j,hx,hv with
  |0,hx,hv=>cases hx;cases hv;exact .int _ _
  |1,hx,hv=>cases hx;cases hv;exact .str _
  |2,hx,hv=>cases hx;cases hv;exact .str _
  |3,hx,hv=>cases hx;cases hv;exact .int _ _
  |4,hx,hv=>cases hx;cases hv;exact ha
  |5,hx,hv=>cases hx;cases hv;exact hb
  |6,hx,hv=>cases hx;cases hv;exact .int _ _
theorem rep_int2{E:Em}{w:World}{a b:Int}{v:Value}(h:Rep E w (.agg [.int .i64 a,.int .i64 b]) v):v=.agg #[.int .i64 a,.int .i64 b]:=by
 cases h with
 |agg _ vs hl h1 h=>
  match vs,hl with
  |[v0,v1],_=>
   rw[(rep_cell (h 0 _ _ rfl rfl)).1 _ _ rfl,(rep_cell (h 1 _ _ rfl rfl)).1 _ _ rfl]
def ProgAt(P:Pg)(w:World)(u:Value):Prop:=∃x,HasTy TT 29 x∧absPg x=P∧Rep (startE w.heap.size) w x u
theorem ProgAt.later{P:Pg}{w w':World}{u:Value}(h:ProgAt P w u)(hb:Below w.heap.size w w'):ProgAt P w' u:=let ⟨x,a,b,c⟩:=h;⟨x,a,b,rep_later c hb⟩
theorem q_large{W w:World}(hE:ErrsIn W)(hW:Below W.heap.size W w){x:Dat}{u:Value}(hx:HasTy TT 29 x)(ru:Rep (startE w.heap.size) w x u):
 Calls Tryz.prog 21 #[u] w λe w'=>∃b,e=.returned (.bool b)∧Below w.heap.size w w'∧(b=false→(∀d∈elsOf (fld x 0),SmDc d)∧szEx (absPg x).e≤20000∧dpEx (absPg x).e≤601):=
 (hw_call hE hW (large_all x ⟨[],[]⟩ hx (λout _=>∃b,out=.val (.d (.bool b))∧(b=false→(∀d∈elsOf (fld x 0),SmDc d)∧szEx (absPg x).e≤20000∧dpEx (absPg x).e≤601)) ⟨true,rfl,λh=>by cases h⟩ λh1 h2 h3=>⟨false,rfl,λ_=>⟨h1,h2,h3⟩⟩) (reL1 ru)).mono λe w' ⟨out,g',E',⟨b,hb,hq⟩,hn,_,ho⟩=>by
  subst hb
  obtain⟨y,rfl,hy⟩:=ho
  cases hy
  exact⟨b,rfl,hn,hq⟩
theorem q_small{W w:World}(hE:ErrsIn W)(hW:Below W.heap.size W w){x:Dat}{u:Value}(hx:HasTy TT 27 x)(ru:Rep (startE w.heap.size) w x u):
 Calls Tryz.prog 38 #[u] w λe w'=>∃b,e=.returned (.bool b)∧Below w.heap.size w w':=
 (hw_call hE hW (small_ok (g:=⟨[],[]⟩) hx (Qf:=λout _=>∃b,out=.val (.d (.bool b))) λb _=>⟨b,rfl⟩) (reL1 ru)).mono λe w' ⟨out,g',E',⟨b,hb⟩,hn,_,ho⟩=>by
  subst hb
  obtain⟨y,rfl,hy⟩:=ho
  cases hy
  exact⟨b,rfl,hn⟩
theorem q_wakes{W w:World}(hE:ErrsIn W)(hW:Below W.heap.size W w):Calls Tryz.prog 28 #[] w λe w'=>e=.returned (.bool true)∧Below w.heap.size w w':=
 (hw_call hE hW (wakes14_ok ⟨[],[]⟩ (λout _=>out=.val (.d (.bool true))) rfl) (vs:=[]) ⟨rfl,λj d v h=>by simp at h⟩).mono λe w' ⟨out,g',E',hb,hn,_,ho⟩=>by
  subst hb
  obtain⟨y,rfl,hy⟩:=ho
  cases hy
  exact⟨rfl,hn⟩
theorem q_check{W w:World}(hE:ErrsIn W)(hW:Below W.heap.size W w){P:Pg}{u:Value}(hp:Pre P)(h:ProgAt P w u):Calls Tryz.prog 25 #[u] w λe w'=>e=.returned (.bool (rCheckP P))∧Below w.heap.size w w':=by
 obtain⟨x,hx,rfl,ru⟩:=h
 exact(hw_call hE hW (rCheck_ok (g:=⟨[],[]⟩) hx hp (Qf:=λout _=>out=.val (.d (.bool (rCheckP (absPg x))))) rfl) (reL1 ru)).mono λe w' ⟨out,g',E',hb,hn,_,ho⟩=>by
  subst hb
  obtain⟨y,rfl,hy⟩:=ho
  cases hy
  exact⟨rfl,hn⟩
theorem q_scope{W w:World}(hE:ErrsIn W)(hW:Below W.heap.size W w){P:Pg}{u:Value}(hp:Pre P)(h:ProgAt P w u):Calls Tryz.prog 29 #[u] w λe w'=>e=.returned (.agg #[.int .i64 (chk14 P).1,.int .i64 (chk14 P).2])∧Below w.heap.size w w':=by
 obtain⟨x,hx,rfl,ru⟩:=h
 exact(hw_call hE hW (scopeCheck_ok (g:=⟨[],[]⟩) hx hp (Qf:=λout _=>out=.val (.d (.agg [.int .i64 (chk14 (absPg x)).1,.int .i64 (chk14 (absPg x)).2]))) λ_=>rfl) (reL1 ru)).mono λe w' ⟨out,g',E',hb,hn,_,ho⟩=>by
  subst hb
  obtain⟨y,rfl,hy⟩:=ho
  rw[rep_int2 hy]
  exact⟨rfl,hn⟩
theorem q_copy{W w:World}(hE:ErrsIn W)(hW:Below W.heap.size W w){P:Pg}{u:Value}(h:ProgAt P w u):Calls Tryz.prog 23 #[u] w λe w'=>∃v,e=.returned v∧Below w.heap.size w w'∧ProgAt P w' v:=by
 obtain⟨x,hx,rfl,ru⟩:=h
 exact(hw_call hE hW (copy_ok x ⟨[],[]⟩ hx (λout g'=>∃r,out=.val (.d r)∧HasTy TT 29 r∧absPg r=absPg x∧g'=⟨[],[]⟩) λr hr he=>⟨r,rfl,hr,he,rfl⟩) (reL1 ru)).mono λe w' ⟨out,g',E',⟨r,hb,hr,he,hg⟩,hn,rel,ho⟩=>by
  subst hb hg
  obtain⟨y,rfl,hy⟩:=ho
  exact⟨y,rfl,hn,r,hr,he,rep_empty rel hy⟩
end Go.Proofs.YtgmapdcdmomioaaGreatDoor.Pa
