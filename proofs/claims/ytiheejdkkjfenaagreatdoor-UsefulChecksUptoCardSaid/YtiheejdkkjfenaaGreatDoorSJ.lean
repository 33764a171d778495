/- Useful: the document's Useful, Exhaustive; cases; the law UsefulChecks. Useful: cases; Check of the program and of the document; the law UsefulChecks. -/
import Derived.Test.YtiheejdkkjfenaaGreatDoorSI
set_option linter.all false
set_option autoImplicit false
set_option maxRecDepth 100000
namespace Go.Proofs.YtiheejdkkjfenaaGreatDoor.Pa
open Go Go.Proofs.YtiheejdkkjfenaaGreatDoor.Am
def wgl(D:List Dc)(d:Nat)(n:Int)(l:List Pt):Int:=if (decide (0≤n)&&(fiB D d l&&decide (n+szP l≤2048)))=true then n+szP l else -1
theorem wgp{D:List Dc}{d:Nat}{n:Int}{l:List Pt}(h:0≤n)(hf:fiB D d l=true)(hs:n+szP l≤2048):wgl D d n l=n+szP l:=by
 unfold wgl;rw[decide_eq_true h,hf,decide_eq_true hs];rfl
theorem wgn{D:List Dc}{d:Nat}{n:Int}{l:List Pt}(h:n<0):wgl D d n l=-1:=by
 unfold wgl;rw[show decide (0≤n)=false from decide_eq_false (by omega)];rfl
theorem wga{D:List Dc}{d:Nat}{n:Int}{l:List Pt}(hf:fiB D d l=false):wgl D d n l=-1:=by
 unfold wgl;rw[hf,Bool.false_and,Bool.and_false];rfl
theorem wgb{D:List Dc}{d:Nat}{n:Int}{l:List Pt}(hs:¬n+szP l≤2048):wgl D d n l=-1:=by
 unfold wgl;rw[decide_eq_false hs,Bool.and_false,Bool.and_false];rfl
theorem wgi{D:List Dc}{d:Nat}{n:Int}(h0:-1≤n)(h1:n≤2048):wgl D d n []=n:=by
 by_cases h:0≤n
 ·rw[wgp h rfl (by show n+((0:Nat):Int)≤2048;omega)];show n+((0:Nat):Int)=n;omega
 ·rw[wgn (by omega)];omega
theorem wgr{D:List Dc}{d:Nat}{n:Int}{l:List Pt}:-1≤wgl D d n l∧wgl D d n l≤2048:=by
 by_cases h:0≤n
 ·by_cases hs:n+szP l≤2048
  ·cases hf:fiB D d l with
   |true=>rw[wgp h hf hs];omega
   |false=>rw[wga hf];omega
  ·rw[wgb hs];omega
 ·rw[wgn (by omega)];omega
theorem wgc{D:List Dc}{d:Nat}{n:Int}{x:Pt}{l:List Pt}:wgl D d n (x::l)=wgl D d (wgl D d n [x]) l:=by
 have s1:szP [x]=sPt x:=by simp[szP]
 have s2:szP (x::l)=sPt x+szP l:=rfl;have f1:fiB D d [x]=ftB D d x:=by simp[fiB]
 have f2:fiB D d (x::l)=(ftB D d x&&fiB D d l):=rfl
 by_cases h:0≤n
 ·cases hf:ftB D d x with
  |false=>
   rw[wga (l:=[x]) (by rw[f1,hf]),wgn (n:=-1) (by omega),wga (by rw[f2,hf];rfl)]
  |true=>
   by_cases hs:n+sPt x≤2048
   ·rw[wgp (l:=[x]) h (by rw[f1,hf]) (by rw[s1];exact hs),s1];cases hl:fiB D d l with
    |false=>rw[wga (l:=l) hl,wga (by rw[f2,hf,hl];rfl)]
    |true=>
     by_cases ht:n+sPt x+szP l≤2048
     ·rw[wgp (l:=l) (by omega) hl ht,wgp h (by rw[f2,hf,hl];rfl) (by rw[s2];omega),s2];omega
     ·rw[wgb (l:=l) ht,wgb (by rw[s2];omega)]
   ·rw[wgb (l:=[x]) (by rw[s1];exact hs),wgn (n:=-1) (by omega),wgb (by rw[s2];omega)]
 ·rw[wgn (n:=n) (by omega),wgn (n:=n) (by omega),wgn (n:=-1) (by omega)]
theorem weh{l:Dat}(hl:Ha TT 22 l):∀(k:Nat) (x:Dat) (d:Nat) (n:Int) (g:Glob),SizeOf.sizeOf x<k→Ha TT 52 x→d≤257→0≤n→n≤2048→∀(Qf:OGP),Qf (.val (.d (.int .i64 (wgl (DD l) d n [aP x])))) g→EvF TT 215 [l,x,.int .i64 d,.int .i64 n] g Qf
 |0,x,d,n,g,hk,_,_,_,_=>by omega
 |k+1,x,d,n,g,hk,hx,hd,h0,h1=>by
  intro Qf hQ;have hw:=w215 (n2:=(d:Int)) (n3:=n) (g:=g) (Qf:=Qf) hl hx;obtain⟨k1,s1,n1,a1,q1,rfl,hs1,t1⟩:=ptt hx;have hab:aP (.agg [.int .i64 k1,.str s1,.int .i64 n1,a1,.int .i64 q1])=.mk k1 s1 n1 (roA a1) q1:=by unfold roA;rw[←abP];rfl
  rw[hab] at hQ;have hc:=sO (cs:=[.int .i64 k1,.str s1,.int .i64 n1,a1,.int .i64 q1]) (c:=a1) (by simp);have e1:=t1.els uP;have e1l:=e1.1.1;have hlen:(roA a1).length=(elO a1).length:=List.length_map _;refine hw ?_;have f0:intOf (fld (.agg [.int .i64 k1,.str s1,.int .i64 n1,a1,.int .i64 q1]) 0)=k1:=rfl;have f1:strOf (fld (.agg [.int .i64 k1,.str s1,.int .i64 n1,a1,.int .i64 q1]) 1)=s1:=rfl;have f3:fld (.agg [.int .i64 k1,.str s1,.int .i64 n1,a1,.int .i64 q1]) 3=a1:=rfl;rw[f0,f1,f3];have hww:IntKind.i64.wrap (n+1)=n+1:=wrp (by omega) (by omega);rw[hww]
  -- what comes out,by the parts
  have bad:(ftB (DD l) d (.mk k1 s1 n1 (roA a1) q1)=false∨¬(n+1≤2048))→Qf (.val (.d (.int .i64 (-1)))) g:=λh=>by
   have e:wgl (DD l) d n [.mk k1 s1 n1 (roA a1) q1]=-1:=by
    rcases h with h|h
    ·exact wga (by simp[fiB,h])
    ·have e1:szP [.mk k1 s1 n1 (roA a1) q1]=1+szP (roA a1):=rfl;exact wgb (by rw[e1];omega)
   rw[e] at hQ;exact hQ
  have good:n+1≤2048→(ftB (DD l) d (.mk k1 s1 n1 (roA a1) q1)=fiB (DD l) (d+1) (roA a1))→d≤256→L215_9 l (d:Int) (n+1) 0 (.agg [.int .i64 k1,.str s1,.int .i64 n1,a1,.int .i64 q1]) g Qf:=λhn hf hd'=>by
   have e:wgl (DD l) d n [.mk k1 s1 n1 (roA a1) q1]=wgl (DD l) (d+1) (n+1) (roA a1):=by
    have e1:szP [.mk k1 s1 n1 (roA a1) q1]=1+szP (roA a1):=rfl;cases hp:fiB (DD l) (d+1) (roA a1) with
    |false=>rw[wga hp,wga (by simp[fiB,hf,hp])]
    |true=>
     have hp':fiB (DD l) d [.mk k1 s1 n1 (roA a1) q1]=true:=by simp[fiB,hf,hp]
     by_cases ht:n+1+szP (roA a1)≤2048
     ·rw[wgp (by omega) hp ht,wgp h0 hp' (by rw[e1];omega),e1];omega
     ·rw[wgb ht,wgb (by rw[e1];omega)]
   rw[e] at hQ;refine lU (len:=(elO a1).length) (λi=>∀m:Int,-1≤m→m≤2048→wgl (DD l) (d+1) m (((elO a1).drop i).map aP)=wgl (DD l) (d+1) (n+1) (roA a1)→L215_9 l (d:Int) m (i:Int) (.agg [.int .i64 k1,.str s1,.int .i64 n1,a1,.int .i64 q1]) g Qf) ?_ ?_ 0 (Nat.zero_le _) (n+1) (by omega) hn rfl
   ·intro m m0 m1 he;refine w215_9 ?_;rw[f3,Bg];rw[List.drop_length,List.map_nil,wgi m0 m1] at he;rw[←he] at hQ;exact hQ
   ·intro i hi ih m m0 m1 he;refine w215_9 ?_;rw[f3,Bl hi,geE hi,wra (by omega),wra (by omega)];rw[List.drop_eq_getElem_cons hi,List.map_cons] at he;refine Bi.2 ⟨λq=>⟨inB hi,?_⟩,λq=>?_⟩
    ·have hsz:=siz hi;refine weh hl k _ (d+1) m g (by omega) (e1.2 _ (List.getElem_mem hi)) (by omega) (of_decide_eq_true q) m1 _ ⟨_,rfl,?_⟩;exact ih _ wgr.1 wgr.2 (by rw[←wgc];exact he)
    ·have hm:m<0:=by have:=of_decide_eq_false q;omega
     rw[wgn hm] at he;have:m=-1:=by omega
     rw[this,he];exact hQ
  refine Bi.2 ⟨λq=>bad (.inr (by have:=of_decide_eq_true q;omega)),λq=>Bi.2 ⟨λq2=>bad (.inl ?_),λq2=>Bi.2 ⟨λq3=>bad (.inl ?_),λq3=>Bi.2 ⟨λq4=>bad (.inl ?_),λq4=>?_⟩⟩⟩⟩
  ·have:decide (d≤256)=false:=decide_eq_false (by have:=of_decide_eq_true q2;omega);simp only[ftB,this,Bool.false_and,Bool.and_false]
  ·have:decide (1≤k1)=false:=decide_eq_false (by have:=of_decide_eq_true q3;omega);simp only[ftB,this,Bool.false_and]
  ·have:decide (k1≤4)=false:=decide_eq_false (by have:=of_decide_eq_true q4;omega);simp only[ftB,this,Bool.and_false,Bool.false_and]
  ·have c1:decide (1≤k1)=true:=decide_eq_true (by have:=of_decide_eq_false q3;omega);have c2:decide (k1≤4)=true:=decide_eq_true (by have:=of_decide_eq_false q4;omega);have hd':d≤256:=by have:=of_decide_eq_false q2;omega
   have c3:decide (d≤256)=true:=decide_eq_true hd';have hn:n+1≤2048:=by have:=of_decide_eq_false q;omega
   refine Bi.2 ⟨λq5=>rF l s1 g hl hs1 _ ⟨_,_,_,⟨rfl,rfl,rfl,trivial⟩,Bi.2 ⟨λq6=>bad (.inl ?_),λq6=>?_⟩⟩,λq5=>good hn ?_ hd'⟩
   ·rw[Bool.not_eq_true'] at q6;simp only[ftB,q5,q6,Bool.not_true,Bool.false_or,Bool.false_and,Bool.and_false]
   ·rw[Bool.not_eq_false'] at q6;obtain⟨n',m',d1,d2,d3,d4,d5⟩:=dcl hl q6;rw[d1,d2];refine⟨d3,d4,?_⟩;rw[d5];refine Bi.2 ⟨λq7=>bad (.inl ?_),λq7=>good hn ?_ hd'⟩
    ·have:(nFi (DD l) s1==(roA a1).length)=false:=by
      rw[hlen,beq_eq_false_iff_ne];intro e;rw[e] at q7;simp at q7
     simp only[ftB,this,q5,Bool.not_true,Bool.false_or,Bool.and_false,Bool.false_and]
    ·have:(nFi (DD l) s1==(roA a1).length)=true:=by
      rw[hlen,beq_iff_eq];have:(nFi (DD l) s1:Int)=((elO a1).length:Int):=by simpa[bne] using q7
      omega
     simp only[ftB,c1,c2,c3,q5,q6,this,Bool.not_true,Bool.false_or,Bool.true_and,Bool.and_self]
   ·simp only[ftB,c1,c2,c3,q5,Bool.not_false,Bool.true_or,Bool.true_and]
def goR(D:List Dc)(cols:Nat):Int→List (List Pt)→Bool
 |n,[]=>decide (0≤n)
 |n,r::l=>decide (0≤n)&&((r.length==cols)&&goR D cols (wgl D 1 n r) l)
theorem gon{D:List Dc}{cols:Nat}{n:Int}(h:n<0):∀l,goR D cols n l=false
 |[]=>decide_eq_false (by omega)
 |r::l=>by rw[goR,decide_eq_false (show ¬0≤n by omega),Bool.false_and]
theorem goe(D:List Dc)(cols:Nat):∀(l:List (List Pt)) (n:Int),0≤n→n≤2048→goR D cols n l=(l.all (λr=>r.length==cols)&&(decide (n+((l.map szP).sum:Int)≤2048)&&l.all λr=>r.all (ftB D 1)))
 |[],n,h,h1=>by simp[goR,h,h1]
 |r::l,n,h,h1=>by
  rw[goR,List.all_cons,List.map_cons,List.sum_cons,List.all_cons,decide_eq_true h,Bool.true_and]
  by_cases hc:(fiB D 1 r&&decide (n+szP r≤2048))=true
  ·have e:wgl D 1 n r=n+szP r:=if_pos (by rw[decide_eq_true h,Bool.true_and];exact hc);simp only[Bool.and_eq_true,decide_eq_true_eq,fil] at hc;rw[e,goe D cols l _ (by omega) (by omega),hc.1,Bool.true_and,Bool.and_assoc];congr 3;rw[decide_eq_decide];omega
  ·have e:wgl D 1 n r=-1:=if_neg (by rw[decide_eq_true h,Bool.true_and];exact hc);rw[e,gon (by omega),Bool.and_false];simp only[Bool.and_eq_true,decide_eq_true_eq,fil,not_and] at hc;symm;rw[Bool.and_eq_false_iff];right
   by_cases hf:r.all (ftB D 1)=true
   ·have:=hc hf;rw[decide_eq_false (by omega),Bool.false_and]
   ·rw[Bool.not_eq_true] at hf;rw[hf,Bool.false_and,Bool.and_false]
theorem maR(D:List Dc)(rows:List (List Pt))(row:List Pt):goR D row.length (wgl D 1 0 row) rows=maB D (rows++[row]) row.length:=by
 have hcc:goR D row.length 0 (row::rows)=goR D row.length (wgl D 1 0 row) rows:=by
  rw[goR];simp
 rw[←hcc,goe D _ _ 0 (by omega) (by omega)];unfold maB;rw[List.all_append,List.map_append,List.sum_append,List.all_append];simp only[List.all_cons,List.all_nil,List.map_cons,List.map_nil,List.sum_cons,List.sum_nil,beq_self_eq_true,Bool.true_and,Bool.and_true,Nat.add_zero];congr 2
 ·rw[decide_eq_decide];omega
 ·rw[Bool.and_comm]
theorem myo{l X Y:Dat}{g:Glob}(hl:Ha TT 22 l)(tX:Ha TT 86 X)(tY:Ha TT 24 Y)(Qf:OGP)
 (hQ:Qf (.val (.d (.bool (maB (DD l) (ros X++[roA Y]) (roA Y).length)))) g):EvF TT 184 [l,X,Y] g Qf:=by
 rw[←maR] at hQ;have eX:=tX.els uo;have eXl:=eX.1.1;have eY:=tY.els uP;have eYl:=eY.1.1;have hlen:(ros X).length=(elO X).length:=List.length_map _;have hYl:(roA Y).length=(elO Y).length:=List.length_map _;have rowsL:∀n:Int,-1≤n→n≤2048→goR (DD l) (roA Y).length n (ros X)=goR (DD l) (roA Y).length (wgl (DD l) 1 0 (roA Y)) (ros X)→L184_7 l X Y n 0 g Qf:=λn h0 h1 he=>by
  refine lU (len:=(elO X).length) (λi=>∀n:Int,-1≤n→n≤2048→goR (DD l) (roA Y).length n ((ros X).drop i)=goR (DD l) (roA Y).length (wgl (DD l) 1 0 (roA Y)) (ros X)→L184_7 l X Y n (i:Int) g Qf) ?_ ?_ 0 (Nat.zero_le _) n h0 h1 he
  ·intro n h0 h1 he;refine w184_7 ?_;rw[Bg];rw[←hlen,List.drop_length,goR] at he;rw[he];exact hQ
  ·intro i hi ih n h0 h1 he;have hi':i<(ros X).length:=by omega
   have hr:(ros X)[i]=roA (elO X)[i]:=List.getElem_map _;have te:=eX.2 _ (List.getElem_mem hi);have ee:=te.els uP;have eel:=ee.1.1;have hl0:(roA (elO X)[i]).length=(elO (elO X)[i]).length:=List.length_map _;rw[List.drop_eq_getElem_cons hi',hr,goR] at he;refine w184_7 ?_;rw[Bl hi,geE hi,flr te];refine Bi.2 ⟨λq=>⟨inB hi,Bi.2 ⟨λq2=>?_,λq2=>?_⟩⟩,λq=>?_⟩
   ·have hcf:((roA (elO X)[i]).length==(roA Y).length)=false:=by
     rw[hl0,hYl,beq_eq_false_iff_ne];intro e;rw[e] at q2;simp at q2
    rw[hcf,Bool.false_and,Bool.and_false] at he;rw[←he] at hQ;exact hQ
   ·have hcf:((roA (elO X)[i]).length==(roA Y).length)=true:=by
     rw[hl0,hYl,beq_iff_eq];have:((elO (elO X)[i]).length:Int)=((elO Y).length:Int):=by simpa[bne] using q2
     omega
    rw[q,hcf,Bool.true_and,Bool.true_and] at he;refine lU (len:=(elO (elO X)[i]).length) (λj=>∀m:Int,-1≤m→m≤2048→wgl (DD l) 1 m (((elO (elO X)[i]).drop j).map aP)=wgl (DD l) 1 n (roA (elO X)[i])→L184_12 l X Y m (i:Int) (j:Int) g Qf) ?_ ?_ 0 (Nat.zero_le _) n h0 h1 rfl
    ·intro m m0 m1 hm;refine w184_12 ?_;rw[geE hi,flr te,Bg,wra (by omega)];rw[List.drop_length,List.map_nil,wgi m0 m1] at hm;rw[←hm] at he;exact⟨inB hi,ih m m0 m1 he⟩
    ·intro j hj ihj m m0 m1 hm;refine w184_12 ?_;rw[geE hi,flr te,Bl hj,geE hj,wra (by omega),wra (by omega)];rw[List.drop_eq_getElem_cons hj,List.map_cons] at hm;refine⟨inB hi,Bi.2 ⟨λq3=>⟨inB hi,inB hj,weh hl _ _ 1 m g (Nat.lt_succ_self _) (ee.2 _ (List.getElem_mem hj)) (by omega) (of_decide_eq_true q3) m1 _ ⟨_,rfl,ihj _ wgr.1 wgr.2 (by rw[←wgc];exact hm)⟩⟩,λq3=>?_⟩⟩;have hneg:m<0:=by have:=of_decide_eq_false q3;omega
     rw[wgn hneg] at hm;have:m=-1:=by omega
     rw[←hm,←this] at he;exact ih m m0 m1 he
   ·have hneg:n<0:=by have:=of_decide_eq_false q;omega
    rw[q,Bool.false_and] at he;rw[q];rw[←he] at hQ;exact hQ
 refine w184 hl tX tY ?_;refine lU (len:=(elO Y).length) (λi=>∀m:Int,-1≤m→m≤2048→wgl (DD l) 1 m (((elO Y).drop i).map aP)=wgl (DD l) 1 0 (roA Y)→L184_3 l X Y m (i:Int) g Qf) ?_ ?_ 0 (Nat.zero_le _) 0 (by omega) (by omega) rfl
 ·intro m m0 m1 hm;refine w184_3 ?_;rw[Bg];rw[List.drop_length,List.map_nil,wgi m0 m1] at hm;exact rowsL m m0 m1 (by rw[hm])
 ·intro i hi ih m m0 m1 hm;refine w184_3 ?_;rw[Bl hi,geE hi,wra (by omega)];rw[List.drop_eq_getElem_cons hi,List.map_cons] at hm;refine Bi.2 ⟨λq=>⟨inB hi,weh hl _ _ 1 m g (Nat.lt_succ_self _) (eY.2 _ (List.getElem_mem hi)) (by omega) (of_decide_eq_true q) m1 _ ⟨_,rfl,ih _ wgr.1 wgr.2 (by rw[←wgc];exact hm)⟩⟩,λq=>?_⟩;have hneg:m<0:=by have:=of_decide_eq_false q;omega
  rw[wgn hneg] at hm;have:m=-1:=by omega
  exact rowsL m m0 m1 (by rw[this,hm])
theorem uso{l X Y:Dat}{g:Glob}(hl:Ha TT 22 l)(hF:Few (DD l) 2097152)(tX:Ha TT 86 X)(tY:Ha TT 24 Y)(hY:(elO Y).length≤2097152)(Qf:OGP)
 (hQ:∀g',Kp [] 0 g g'→Qf (ouB (uf (DD l) (ros X) (roA Y)).1 (uf (DD l) (ros X) (roA Y)).2) g'):EvF TT 119 [l,X,Y] g Qf:=by
 have hYl:(roA Y).length=(elO Y).length:=List.length_map _;refine w119 hl tX tY (myo hl tX tY _ ⟨_,rfl,Bi.2 ⟨λq=>?_,λq=>?_⟩⟩)
 ·have hh:=hQ g (Kp.refl _ _ _);have q:maB (DD l) (ros X++[roA Y]) (roA Y).length=false:=by simpa using q
  have ea:uf (DD l) (ros X) (roA Y)=(false,1):=by unfold uf;rw[q];rfl
  rw[ea] at hh;exact hh
 ·have q:maB (DD l) (ros X++[roA Y]) (roA Y).length=true:=by simpa using q
  have ea:uf (DD l) (ros X) (roA Y)=aF (DD l) (ros X) (roA Y):=by unfold uf;rw[q];rfl
  rw[ea] at hQ;have kA:=kw g [l,Dat.int IntKind.i64 (intOf (Dat.int IntKind.i64 0)),Dat.bool false] 0;have bA:Rk (gne g [l,Dat.int IntKind.i64 (intOf (Dat.int IntKind.i64 0)),Dat.bool false]) g.boxes.length l 65536:=gnw _ _;have out:∀g',Kp [g.boxes.length] 0 (gne g [l,Dat.int IntKind.i64 (intOf (Dat.int IntKind.i64 0)),Dat.bool false]) g'→Kp [] 0 g g':=λg' k=>by
   refine⟨Nat.le_trans kA.len k.len,λj hj _=>?_,Nat.le_trans kA.tlen k.tlen,λj hj=>by omega⟩;have:=kA.len;rw[k.box j (by omega) (by simp;omega),kA.box j hj (by simp)]
  refine uok hl hF 65537 65536 g.boxes.length X Y _ _ (by omega) (Nat.le_refl _) (Nat.le_refl _) tX tY bA (by simpa using mav q (by omega)) (λb m' g' e k a=>⟨b,rfl,false,Rf.gb a,?_⟩) (λg' e k a=>⟨false,rfl,true,?_,?_⟩)
  ·have hh:=hQ _ (out _ k);have eb:aF (DD l) (ros X) (roA Y)=(b,0):=by unfold aF;rw[e]
   rw[eb] at hh;exact hh
  ·obtain⟨n,a⟩:=a;exact a.gb
  ·have hh:=hQ _ (out _ k);have eb:aF (DD l) (ros X) (roA Y)=(false,3):=by unfold aF;rw[e]
   rw[eb] at hh;exact hh
theorem clu{x:Dat}{g:Glob}(tx:Ha TT 24 x)(Qf:OGP)(hQ:∀v X,Ha TT 86 X→Rt v X→ros X=(roA x).map (λp=>[p])→Qf (.val v) g):EvF TT 120 [x] g Qf:=by
 have ex:=tx.els uP;have exl:=ex.1.1;refine w120 tx ?_;refine lU (len:=(elO x).length) (λi=>∀l:List Dat,l.length=i→(∀y∈l,Ha TT 24 y)→l.map roA=((elO x).take i).map (λy=>[aP y])→L120_3 x l (i:Int) g Qf) ?_ ?_ 0 (Nat.zero_le _) [] rfl (λy h=>by cases h) rfl
 ·intro l h1 h2 h3;refine w120_3 ?_;rw[Bg];rw[List.take_length] at h3;refine hQ _ (sOf 1 l) (slf uo szR (fiR (by omega)) h2) (rO _ _) ?_;unfold ros;rw[slO,h3];unfold roA;rw[List.map_map];rfl
 ·intro i hi ih l h1 h2 h3;refine w120_3 ?_;rw[Bl hi,geE hi,wra (by omega)];refine⟨inB hi,((fiR (by simp;omega)).fits byR),ih _ (by simp[h1]) (λy hy=>?_) ?_⟩
  ·rcases List.mem_append.1 hy with hy|hy
   ·exact h2 y hy
   ·simp only[List.mem_singleton] at hy;subst hy;exact tya (ftP (by simp)) (by simpa using ex.2 _ (List.getElem_mem hi))
  ·rw[List.map_append,h3,List.take_succ,List.getElem?_eq_getElem hi,List.map_append];rfl
theorem eho{l x:Dat}{g:Glob}(hl:Ha TT 22 l)(hF:Few (DD l) 2097152)(tx:Ha TT 24 x)(Qf:OGP)
 (hQ:∀g',Kp [] 0 g g'→Qf (ouB (exh (DD l) (roA x)).1 (exh (DD l) (roA x)).2) g'):EvF TT 68 [l,x] g Qf:=by
 refine w68 hl tx (clu tx _ λv X tX hv hX=>⟨X,tX,hv,?_⟩);have t1:=tan (n:=1) (ftP (by omega));refine uso hl hF tX t1 (by simp[elO]) _ λg' k=>⟨_,_,⟨rfl,rfl,trivial⟩,?_⟩
 have hh:=hQ g' k;have e1:roA (.sl 5 (List.replicate 1 anP))=[ayP]:=rob 1;rw[hX,e1];unfold exh clO at hh;refine Bi.2 ⟨λq=>?_,λq=>?_⟩
 ·rw[q,Bool.true_and] at hh;exact hh
 ·rw[q,Bool.false_and] at hh;exact hh
end Go.Proofs.YtiheejdkkjfenaaGreatDoor.Pa
namespace Go.Proofs.YtiheejdkkjfenaaGreatDoor.Pa
open Go Go.Proofs.YtiheejdkkjfenaaGreatDoor.Am
def eA0(D:List Dc)(b:List Pt):Int:=if ((exh D b).2==0&&!(exh D b).1)=true then 170 else(exh D b).2
mutual
def csE(D:List Dc):Ex'→Int×Int
 |.mk k _ _ _ a b p=>if (k==7&&!(eA0 D b==0))=true then(eA0 D b,p) else cEs D a
def cEs(D:List Dc):List Ex'→Int×Int
 |[]=>(0,0)
 |x::l=>if ((csE D x).1==0)=true then cEs D l else csE D x
end
mutual
theorem cse(D:List Dc):∀x:Ex',(csE D x).1=0→csE D x=(0,0)
 |.mk k s r n a b p,h=>by
  unfold csE at h⊢;split
  ·rename_i hc;rw[if_pos hc] at h;have h:eA0 D b=0:=h;rw[h] at hc;simp at hc
  ·rename_i hc;rw[if_neg hc] at h;exact csz D a h
theorem csz(D:List Dc):∀l:List Ex',(cEs D l).1=0→cEs D l=(0,0)
 |[],_=>rfl
 |x::l,h=>by
  unfold cEs at h⊢;split
  ·rename_i hc;rw[if_pos hc] at h;exact csz D l h
  ·rename_i hc;rw[if_neg hc] at h;exact cse D x h
end
mutual
def nep:Ex'→Bool
 |.mk k _ _ _ a b _=>(!(k==7)||(!b.isEmpty&&Nat.ble b.length 1073741824))&&nps a
def nps:List Ex'→Bool
 |[]=>true
 |x::l=>nep x&&nps l
end
theorem szl(l:List Pt):l.length≤szP l:=by
 induction l with
 |nil=>exact Nat.le_refl _
 |cons x l ih=>cases x;simp only[List.length_cons,szP,sPt];omega
mutual
theorem npo:∀x:Ex',okE x=true→szx x≤20000→nep x=true
 |.mk k s r n a b p,h,hs=>by
  simp only[okE,Bool.and_eq_true] at h;simp only[szx] at hs;have hb:=szl b;unfold nep;rw[nes a h.2.2 (by omega),Bool.and_true];cases h7:(k==7) with
  |false=>rfl
  |true=>
   have:k=7:=by simpa using h7
   subst this;have h1:=h.1;have hp:pA0 (b.length:Int)=true:=by
    cases hp:pA0 (b.length:Int) with
    |true=>rfl
    |false=>
     simp[oEx,hp] at h1
   have hne:b.isEmpty=false:=by
    cases b with
    |nil=>simp[pA0] at hp
    |cons=>rfl
   rw[hne,Nat.ble_eq_true_of_le (by omega)];rfl
theorem nes:∀l:List Ex',okx l=true→szE l≤20000→nps l=true
 |[],_,_=>rfl
 |x::l,h,hs=>by
  simp only[okx,Bool.and_eq_true] at h;simp only[szE] at hs;unfold nps;rw[npo x h.1 (by omega),nes l h.2 (by omega)];rfl
end
theorem exf{x:Dat}(h:Ha TT 26 x):∃k s r n a b p,ax x=.mk k s r n ((elO a).map ax) (roA b) p∧intOf (fld x 0)=k∧fld x 4=a∧fld x 5=b∧intOf (fld x 6)=p∧Ha TT 23 a∧Ha TT 24 b∧SizeOf.sizeOf a<SizeOf.sizeOf x:=by
 obtain⟨k,s,r,n,a,b,p,rfl,_,_,ha,hb⟩:=exr h;refine⟨k,s,r,n,a,b,p,?_,rfl,rfl,rfl,rfl,ha,hb,sO (by simp)⟩;show Ex'.mk k s r n (abx a) (abt b) p=_;rw[abE,abP];rfl
theorem csd{D:List Dc}{xs:List Dat}{i:Nat}(hi:i<xs.length):cEs D ((xs.drop i).map ax)=if ((csE D (ax xs[i])).1==0)=true then cEs D ((xs.drop (i+1)).map ax) else csE D (ax xs[i]):=by
 rw[List.drop_eq_getElem_cons hi,List.map_cons,cEs]
theorem npa{xs:List Dat}{i:Nat}(h:nps (xs.map ax)=true)(hi:i<xs.length):nep (ax xs[i])=true:=by
 have:∀l:List Ex',nps l=l.all nep:=λl=>by
  induction l with
  |nil=>rfl
  |cons x l ih=>rw[nps,ih,List.all_cons]
 rw[this] at h;exact List.all_eq_true.1 h _ (List.mem_map_of_mem (List.getElem_mem hi))
theorem cao{l:Dat}(hl:Ha TT 22 l)(hF:Few (DD l) 2097152):∀(k:Nat) (x:Dat) (g:Glob),SizeOf.sizeOf x<k→Ha TT 26 x→nep (ax x)=true→∀(Qf:OGP),(∀g',Qf (.val (.d (.agg [.int .i64 (csE (DD l) (ax x)).1,.int .i64 (csE (DD l) (ax x)).2]))) g')→EvF TT 36 [l,x] g Qf
 |0,x,g,hk,_,_=>by omega
 |k+1,x,g,hk,hx,hn=>by
  intro Qf hQ;obtain⟨k1,s1,r1,n1,a,b,p,hab,f0,f4,f5,f6,ta,tb,hsz⟩:=exf hx;rw[hab] at hn hQ;unfold nep at hn;simp only[Bool.and_eq_true] at hn;have ea:=ta.els unE;have eal:=ea.1.1;have tail:∀g1,(∀g',Qf (.val (.d (.agg [.int .i64 (cEs (DD l) ((elO a).map ax)).1,.int .i64 (cEs (DD l) ((elO a).map ax)).2]))) g')→∀y,L36_8 l a ((elO a).length:Int) 0 y g1 Qf:=λg1 h y=>by
   refine lU (len:=(elO a).length) (λi=>∀g1 y,(∀g',Qf (.val (.d (.agg [.int .i64 (cEs (DD l) (((elO a).drop i).map ax)).1,.int .i64 (cEs (DD l) (((elO a).drop i).map ax)).2]))) g')→L36_8 l a ((elO a).length:Int) (i:Int) y g1 Qf) ?_ ?_ 0 (Nat.zero_le _) g1 y h
   ·intro g1 y h;refine w36_8 ?_;rw[Bg];rw[List.drop_length] at h;exact h g1
   ·intro i hi ih g1 y h;refine w36_8 ?_;rw[Bl hi,geE hi,wra (by omega)];rw[csd hi] at h;have hs:=siz hi;refine⟨inB hi,cao hl hF k _ g1 (by omega) (ea.2 _ (List.getElem_mem hi)) (npa hn.2 hi) _ λg2=>⟨_,tyf,rfl,?_⟩⟩;show Br (!((csE (DD l) (ax (elO a)[i])).1==0&&((csE (DD l) (ax (elO a)[i])).2==0&&true))) _ _;cases hz:((csE (DD l) (ax (elO a)[i])).1==0) with
    |true=>
     have hz':=cse _ _ (by simpa using hz);rw[hz,if_pos rfl] at h;rw[hz'];exact ih g2 _ h
    |false=>
     rw[hz,if_neg (by simp)] at h;rw[Bool.false_and];exact h g2
  refine w36 hl hx ?_;rw[f0,f4,f5,f6];refine Bi.2 ⟨λq=>?_,λq=>?_⟩
  ·rw[q] at hn;have hn1:=hn.1;simp only[Bool.not_true,Bool.false_or,Bool.and_eq_true,Bool.not_eq_true',List.isEmpty_eq_false_iff] at hn1;have hbl:(roA b).length=(elO b).length:=List.length_map _;have hne:elO b≠[]:=λh=>hn1.1 (by unfold roA;rw[h];rfl);have hle:(elO b).length≤2^30:=by have:=Nat.le_of_ble_eq_true hn1.2;omega
   have hcs:∀c,eA0 (DD l) (roA b)=c→(c==0)=false→∀g',Qf (.val (.d (.agg [.int .i64 c,.int .i64 p]))) g':=λc hc h0 g'=>by
    have:=hQ g';unfold csE at this;rw[hc,q,h0,show(true&&!false)=true from rfl,if_pos rfl] at this;exact this
   have hgo:eA0 (DD l) (roA b)=0→∀g',Qf (.val (.d (.agg [.int .i64 (cEs (DD l) ((elO a).map ax)).1,.int .i64 (cEs (DD l) ((elO a).map ax)).2]))) g':=λhc g'=>by
    have:=hQ g';unfold csE at this;rw[hc,q,if_neg (by simp)] at this;exact this
   refine ehk hl hF tb hne hle _ λg1 k1'=>⟨_,_,⟨rfl,rfl,trivial⟩,?_⟩
   refine Bi.2 ⟨λz=>Bi.2 ⟨λz2=>hcs 170 ?_ rfl g1,λz2=>?_⟩,λz=>?_⟩
   ·unfold eA0;rw[z,z2];rfl
   ·have e0:(exh (DD l) (roA b)).2=0:=by simpa using z
    have hc:eA0 (DD l) (roA b)=0:=by unfold eA0;rw[z,z2];exact e0
    rw[show((exh (DD l) (roA b)).2!=0)=false from by rw[e0];rfl,Bf];exact tail g1 (hgo hc) _
   ·rw[show((exh (DD l) (roA b)).2!=0)=true from by rw[bne,z];rfl,Be];refine hcs _ ?_ z g1;unfold eA0;rw[z];rfl
  ·refine tail g (λg'=>?_) _;have:=hQ g';unfold csE at this;rw[q,if_neg (by simp)] at this;exact this
theorem cas{l:Dat}(hl:Ha TT 22 l)(hF:Few (DD l) 2097152):∀(k:Nat) (x:Dat) (g:Glob),SizeOf.sizeOf x<k→Ha TT 26 x→∀(Qf:OGP),(∀g',Qf (.val (pai (csE (DD l) (ax x)).1 (csE (DD l) (ax x)).2)) g')→EvF TT 38 [l,x] g Qf
 |0,x,g,hk,_=>by omega
 |k+1,x,g,hk,hx=>by
  intro Qf hQ;obtain⟨k1,s1,r1,n1,a,b,p,hab,f0,f4,f5,f6,ta,tb,hsz⟩:=exf hx;rw[hab] at hQ;have ea:=ta.els unE;have eal:=ea.1.1;have tail:∀g1,(∀g',Qf (.val (pai (cEs (DD l) ((elO a).map ax)).1 (cEs (DD l) ((elO a).map ax)).2)) g')→L38_8 l 0 x g1 Qf:=λg1 h=>by
   refine lU (len:=(elO a).length) (λi=>∀g1,(∀g',Qf (.val (pai (cEs (DD l) (((elO a).drop i).map ax)).1 (cEs (DD l) (((elO a).drop i).map ax)).2)) g')→L38_8 l (i:Int) x g1 Qf) ?_ ?_ 0 (Nat.zero_le _) g1 h
   ·intro g1 h;refine w38_8 ?_;rw[f4,Bg];rw[List.drop_length] at h;exact h g1
   ·intro i hi ih g1 h;refine w38_8 ?_;rw[f4,Bl hi,geE hi,wra (by omega)];rw[csd hi] at h;have hs:=siz hi;refine⟨inB hi,cas hl hF k _ g1 (by omega) (ea.2 _ (List.getElem_mem hi)) _ λg2=>⟨_,_,⟨rfl,rfl,trivial⟩,?_⟩⟩;cases hz:((csE (DD l) (ax (elO a)[i])).1==0) with
    |true=>
     rw[hz,if_pos rfl] at h;rw[bne,hz];exact ih g2 h
    |false=>
     rw[hz,if_neg (by simp)] at h;rw[bne,hz];exact h g2
  refine w38 hl hx ?_;rw[f0,f5,f6];refine Bi.2 ⟨λq=>?_,λq=>?_⟩
  ·have hcs:∀c,eA0 (DD l) (roA b)=c→(c==0)=false→∀g',Qf (.val (pai c p)) g':=λc hc h0 g'=>by
    have:=hQ g';unfold csE at this;rw[hc,q,h0,show(true&&!false)=true from rfl,if_pos rfl] at this;exact this
   have hgo:eA0 (DD l) (roA b)=0→∀g',Qf (.val (pai (cEs (DD l) ((elO a).map ax)).1 (cEs (DD l) ((elO a).map ax)).2)) g':=λhc g'=>by
    have:=hQ g';unfold csE at this;rw[hc,q,if_neg (by simp)] at this;exact this
   refine eho hl hF tb _ λg1 k1'=>⟨_,_,⟨rfl,rfl,trivial⟩,?_⟩
   refine Bi.2 ⟨λz=>Bi.2 ⟨λz2=>hcs 170 ?_ rfl g1,λz2=>?_⟩,λz=>?_⟩
   ·unfold eA0;rw[z,z2];rfl
   ·have e0:(exh (DD l) (roA b)).2=0:=by simpa using z
    have hc:eA0 (DD l) (roA b)=0:=by unfold eA0;rw[z,z2];exact e0
    rw[show((exh (DD l) (roA b)).2!=0)=false from by rw[e0];rfl,Bf];exact tail g1 (hgo hc)
   ·rw[show((exh (DD l) (roA b)).2!=0)=true from by rw[bne,z];rfl,Be];refine hcs _ ?_ z g1;unfold eA0;rw[z];rfl
  ·refine tail g (λg'=>?_);have:=hQ g';unfold csE at this;rw[q,if_neg (by simp)] at this;exact this
def cA1(P:Pg):Int×Int:=if ((cA0 P).1==0)=true then csE (alD P) P.e else cA0 P
theorem chz{P:Pg}(h:(cA0 P).1=0):cA0 P=(0,0)∧rC P=true:=by
 unfold cA0 at h⊢;cases hr:rC P with
 |false=>rw[hr] at h;cases h
 |true=>
  rw[hr] at h;refine⟨?_,rfl⟩;simp only[cond_true] at h⊢;unfold chN at h⊢;split
  ·rename_i p hp;rw[hp] at h;cases h
  ·rename_i hp;rw[hp] at h;split
   ·rename_i p hp2;simp only[hp2] at h;cases h
   ·rename_i hp2;simp only[hp2] at h;split
    ·rename_i p hp3;simp only[hp3] at h;cases h
    ·rfl
theorem fF{x:Dat}(hx:Ha TT 28 x)(hb:Sr x):Few (alD (abg x)) 2097152:=by
 intro d hd c hc;rcases List.mem_append.1 hd with hd|hd
 ·simp only[bas,List.map_cons,List.map_nil,List.mem_cons,List.not_mem_nil,or_false] at hd;rcases hd with rfl|rfl|rfl
  ·have:c.fs.length=0:=by
    have hc:c∈[(⟨[85,110,105,116],[]⟩:Cn)]:=hc;simp only[List.mem_singleton] at hc;rw[hc];rfl
   omega
  ·have:c.fs.length=0:=by
    have hc:c∈[(⟨[70,97,108,115,101],[]⟩:Cn),⟨[84,114,117,101],[]⟩]:=hc;simp only[List.mem_cons,List.not_mem_nil,or_false] at hc;rcases hc with rfl|rfl<;>rfl
   omega
  ·have:c.fs.length≤2:=by
    obtain⟨i,hi,rfl⟩:=List.mem_iff_getElem.1 hc
    match i,hi with
    |0,_=>exact Nat.zero_le _
    |1,_=>exact Nat.le_refl _
   omega
 ·rw[abd] at hd;obtain⟨y,hy,rfl⟩:=List.mem_map.1 hd;obtain⟨d1,k1,s1,r1,n1,a1,b1,p1,rfl,hd1,he1⟩:=pro hx;have hy:y∈elO d1:=hy;have ty:=(hd1.els uD).2 _ hy;have sy:Sr y:=stl (stf hb 0) y hy;rw[asD] at hc;obtain⟨z,hz,rfl⟩:=List.mem_map.1 hc;obtain⟨s2,a2,b2,p2,rfl,hs2,ha2,hb2⟩:=det ty;have sz:Sr z:=stl (stf sy 2) z hz;have tz:=(hb2.els uC).2 _ hz;have:=srl (stf sz 1);rw[(cof tz).2.1] at this;omega
theorem cho{x:Dat}{g:Glob}{Qf:OGP}(hx:Ha TT 28 x)(hp:Pre (abg x))(hF:Few (alD (abg x)) 2097152)(hn:(abg x).ds.length≤2^22)(hs:szx (abg x).e≤20000)
 (hQ:∀g',Qf (.val (.d (.agg [.int .i64 (cA1 (abg x)).1,.int .i64 (cA1 (abg x)).2]))) g'):EvF TT 11 [x] g Qf:=by
 refine w11 hx (scp hx hp λg1=>⟨_,tyf,rfl,?_⟩);show Br (!((cA0 (abg x)).1==0&&((cA0 (abg x)).2==0&&true))) _ _;unfold cA1 at hQ;cases hz:((cA0 (abg x)).1==0) with
 |false=>
  rw[hz,if_neg (by simp)] at hQ;rw[Bool.false_and];exact hQ g1
 |true=>
  rw[hz,if_pos rfl] at hQ;obtain⟨h0,hr⟩:=chz (by simpa using hz);rw[h0];show EvF TT _ _ _ _;refine sco x g1 hx hn _ λl hl el v hv=>⟨l,hl,hv,?_⟩
  have he:ax (sub x 1 7)=(abg x).e:=rfl;have te:Ha TT 26 (sub x 1 7):=by
   obtain⟨d1,k1,s1,r1,n1,a1,b1,p1,rfl,hd1,he1⟩:=pro hx;exact he1
  have hDD:DD l=alD (abg x):=el;rw[←hDD] at hF hQ;refine cao hl hF _ _ g1 (Nat.lt_succ_self _) te ?_ _ λg2=>⟨_,tyf,rfl,?_⟩
  ·rw[he];refine npo _ ?_ hs;unfold rC at hr;simp only[Bool.and_eq_true] at hr;exact hr.2.2.2.2
  ·rw[he];exact hQ g2
theorem chc{x:Dat}{g:Glob}{Qf:OGP}(hx:Ha TT 28 x)(hp:Pre (abg x))(hF:Few (alD (abg x)) 2097152)(hn:(abg x).ds.length≤2^22)
 (hQ:∀g',Qf (.val (pai (cA1 (abg x)).1 (cA1 (abg x)).2)) g'):EvF TT 12 [x] g Qf:=by
 refine w12 hx (rCe hx hp λg1=>⟨_,_,⟨rfl,rfl,trivial⟩,?_⟩);unfold cA1 at hQ;cases hz:((cA0 (abg x)).1==0) with
 |false=>
  rw[hz,if_neg (by simp)] at hQ;rw[bne,hz];exact hQ g1
 |true=>
  rw[hz,if_pos rfl] at hQ;rw[bne,hz];show EvF TT _ _ _ _;refine rAl x g1 hx hn _ λl hl el v hv=>⟨l,hl,hv,?_⟩
  have he:ax (sub x 1 7)=(abg x).e:=rfl;have te:Ha TT 26 (sub x 1 7):=by
   obtain⟨d1,k1,s1,r1,n1,a1,b1,p1,rfl,hd1,he1⟩:=pro hx;exact he1
  have hDD:DD l=alD (abg x):=el;rw[←hDD] at hF hQ;refine cas hl hF _ _ g1 (Nat.lt_succ_self _) te _ λg2=>⟨_,_,⟨rfl,rfl,trivial⟩,?_⟩
  rw[he];exact hQ g2
theorem usC(x:Dat)(g:Glob)(hx:Ha TT 28 x)(hb:Sr x)(Qf:OGP)(hQ:∀g',Qf (.val (.d (.bool true))) g'):EvF TT 3 [x] g Qf:=by
 have hwk:∀g,EvF TT 9 [] g (KQ Qf λv g'=>∃b,v=Val.d (Dat.bool b)∧Qf (Out.val (Val.d (Dat.bool b))) g'):=λg=>wak g _ ⟨_,rfl,hQ g⟩;refine w3 hx ?_;have hn:(abg x).ds.length≤2^22:=by
  rw[abd,List.length_map];have:=srl (stf hb 0);omega
 refine lae x g hx _ ⟨_,rfl,hwk g⟩ λh1 h2 h3=>⟨_,rfl,?_⟩
 rw[Bf];refine ref x g hx _ ⟨_,rfl,Bi.2 ⟨λ_=>hwk g,λ_=>?_⟩⟩;have hp:=prf hx hb h1 h2 h3;have hF:=fF hx hb;refine cpo x g hx _ λa ha ea=>⟨a,ha,rfl,?_⟩
 refine cho ha (by rw[ea];exact hp) (by rw[ea];exact hF) (by rw[ea];exact hn) (by rw[ea];exact h2) λg1=>⟨_,tyf,rfl,?_⟩
 refine chc hx hp hF hn λg2=>⟨_,_,⟨rfl,rfl,trivial⟩,?_⟩
 rw[ea];show Br ((cA1 (abg x)).1==(cA1 (abg x)).1) (Br ((cA1 (abg x)).2==(cA1 (abg x)).2) _ _) _;rw[beq_self_eq_true,Be,beq_self_eq_true,Be];refine reS true a x g2 ha hx _ ⟨_,rfl,?_⟩;rw[ea,ePg,Be];exact hwk g2
end Go.Proofs.YtiheejdkkjfenaaGreatDoor.Pa
