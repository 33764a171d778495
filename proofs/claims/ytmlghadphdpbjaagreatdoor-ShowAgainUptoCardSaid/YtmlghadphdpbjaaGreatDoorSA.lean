/- Show: the texts of types, patterns, expressions, declared types, programs. Show: a page of bytes; a text that is cut. Show: how long the texts are. Show: what may be shown, and how long it is at most. -/
import Derived.Test.YtmlghadphdpbjaaGreatDoorRI
import Derived.Test.YtmlghadphdpbjaaGreatDoorQH
set_option linter.all false
set_option autoImplicit false
set_option maxRecDepth 100000
namespace Go.Proofs.YtmlghadphdpbjaaGreatDoor.Pa
open Go Go.Proofs.YtmlghadphdpbjaaGreatDoor.Am
def kTy:Ty→Int
 |.mk k _ _ _=>k
def noTy:Ty→Bool
 |.mk _ _ _ a=>a.isEmpty
def noPt:Pt→Bool
 |.mk _ _ _ a _=>a.isEmpty
def kEx:Ex'→Int
 |.mk k ..=>k
def noEx:Ex'→Bool
 |.mk _ _ _ _ a _ _=>a.isEmpty
def brk(c:Bool)(t:Str):Str:=bif c then[40]++(t++[41]) else t
def sTo:Str:=[32,45,62,32]
def tBarS:Str:=[32,124,32]
def tEqS:Str:=[32,61,32]
mutual
def tTy:Ty→Str
 |.mk k s _ a=>bif k==1 then[105,110,116] else bif k==2 then[39]++s else bif k==3 then tFn a else s++tFs a
def tFn:List Ty→Str
 |[]=>[]
 |x::l=>brk (kTy x==3) (tTy x)++(sTo++tT0 l)
def tT0:List Ty→Str
 |[]=>[]
 |x::_=>tTy x
def tFs:List Ty→Str
 |[]=>[]
 |x::l=>[32]++(brk (kTy x==3||kTy x==4&&!(noTy x)) (tTy x)++tFs l)
end
def decS(n:Nat):Str:=if n<10 then[UInt8.ofNat (48+n)] else decS (n/10)++[UInt8.ofNat (48+n%10)]
termination_by n
decreasing_by exact Nat.div_lt_self (by omega) (by decide)
def tInt(n:Int):Str:=if n<0 then[126]++decS (-n).toNat else decS n.toNat
mutual
def tPt:Pt→Str
 |.mk k s n a _=>bif k==1 then[95] else bif k==3 then tInt n else s++tPs a
def tPs:List Pt→Str
 |[]=>[]
 |x::l=>[32]++(brk (!(noPt x)) (tPt x)++tPs l)
end
def atomK(x:Ex'):Bool:=kEx x==1||(kEx x==2||kEx x==8&&noEx x)
def branchK(k:Int):Bool:=k==3||(k==5||k==6)
mutual
def tEx:Ex'→Str
 |.mk k s r n a b _=>bif k==1 then s else bif k==2 then tInt n else bif k==3 then[102,117,110,32]++(s++(sTo++tE0 a)) else bif k==4 then tH0 a
  else bif k==5 then[108,101,116,32]++(s++(tEqS++tIn a)) else bif k==6 then[108,101,116,32]++([114,101,99,32]++(s++([32]++(r++(tEqS++tIn a)))))
  else bif k==7 then[99,97,115,101,32]++tCa b a else bif k==8 then s++tAs a else bif k==9 then tPr s a else bif k==10 then[112,114,105,110,116,32]++tA0 a else[]
def tE0:List Ex'→Str
 |[]=>[]
 |x::_=>tEx x
def tIn:List Ex'→Str
 |[]=>[]
 |x::l=>tEx x++([32,105,110,32]++tE0 l)
def tA0:List Ex'→Str
 |[]=>[]
 |x::_=>brk (!(atomK x)) (tEx x)
def tH0:List Ex'→Str
 |[]=>[]
 |x::l=>brk (!(kEx x==4)&&(kEx x==8||!(atomK x))) (tEx x)++([32]++tA0 l)
def tPr(s:Str):List Ex'→Str
 |[]=>[]
 |x::l=>brk (!(atomK x)) (tEx x)++([32]++(s++([32]++tA0 l)))
def tAs:List Ex'→Str
 |[]=>[]
 |x::l=>[32]++(brk (!(atomK x)) (tEx x)++tAs l)
def tCa(b:List Pt):List Ex'→Str
 |[]=>[]
 |x::l=>tEx x++tBr [32,111,102,32] b l
def tBr(hd:Str):List Pt→List Ex'→Str
 |_,[]=>[32,101,110,100]
 |[],_=>[32,101,110,100]
 |q::b,x::l=>hd++(tPt q++(sTo++(brk (branchK (kEx x)) (tEx x)++tBr tBarS b l)))
end
def tCs(hd:Str):List Cn→Str
 |[]=>[59,10]
 |c::l=>hd++(c.s++(tFs c.fs++tCs tBarS l))
def tVs:List Str→Str
 |[]=>[]
 |v::l=>[32,39]++(v++tVs l)
def tDc(d:Dc):Str:=[116,121,112,101,32]++(d.s++(tVs d.ps++tCs tEqS d.cs))
def tDs:List Dc→Str
 |[]=>[]
 |d::l=>tDc d++tDs l
def tPg(P:Pg):Str:=tDs P.ds++(tEx P.e++[10])
end Go.Proofs.YtmlghadphdpbjaaGreatDoor.Pa
namespace Go.Proofs.YtmlghadphdpbjaaGreatDoor.Pa
open Go Go.Proofs.YtmlghadphdpbjaaGreatDoor.Am
def PageIs(g:Glob)(q:Nat)(b:Str):Prop:=∃B,g.boxes[q]?=some (.cells [.d B])∧((B=.nil∧b=[])∨∃k,B=.gsl k 1 (bytesUp b)∧g.toks[k]?=some (1,b.length))
theorem bytesUp_len(s:Str):(bytesUp s).length=s.length:=List.length_map ..
theorem bytesUp_app(s t:Str):bytesUp (s++t)=bytesUp s++bytesUp t:=List.map_append ..
structure Oth(q:Nat)(g g':Glob):Prop where
 len:g.boxes.length≤g'.boxes.length
 box:∀j,j<g.boxes.length→j≠q→g'.boxes[j]?=g.boxes[j]?
theorem Oth.refl(q:Nat)(g:Glob):Oth q g g:=⟨Nat.le_refl _,λ_ _ _=>rfl⟩
theorem Oth.trans{q:Nat}{g g' g'':Glob}(h:Oth q g g')(k:Oth q g' g''):Oth q g g'':=⟨Nat.le_trans h.len k.len,λj hj hn=>(k.box j (Nat.lt_of_lt_of_le hj h.len) hn).trans (h.box j hj hn)⟩
theorem Oth.at{q j:Nat}{g g':Glob}{b:GBox}(h:Oth q g g')(hb:g.boxes[j]?=some b)(hn:j≠q):g'.boxes[j]?=some b:=by
 rw[h.box j (List.getElem?_eq_some_iff.1 hb).1 hn];exact hb
theorem page_put{g:Glob}{q:Nat}{b:Str}(h:PageIs g q b)(s:Str):∃B r g1,g.boxes[q]?=some (.cells [.d B])∧elsOf B=bytesUp b∧gapp 1 B (bytesUp s) g=some (r,g1)∧GPut g1 q 0 1∧PageIs (gput g1 q 0 r) q (b++s)∧Oth q g (gput g1 q 0 r):=by
 obtain⟨B,h1,h2⟩:=h
 have key:∀(r:Dat) (g1:Glob),g1.boxes=g.boxes→r.one=true→((r=.nil∧b++s=[])∨∃k,r=.gsl k 1 (bytesUp (b++s))∧g1.toks[k]?=some (1,(b++s).length))→GPut g1 q 0 1∧PageIs (gput g1 q 0 r) q (b++s)∧Oth q g (gput g1 q 0 r):=λr g1 e1 ho hr=>by
  have hb:g1.boxes[q]?=some (.cells [.d B]):=by rw[e1];exact h1
  have hlt:=(List.getElem?_eq_some_iff.1 hb).1
  have hc:r.cells=[r]:=by cases r<;>first|rfl|cases ho
  have hg:gput g1 q 0 r={g1 with boxes:=g1.boxes.set q (.cells [.d r])}:=by
   unfold gput
   rw[hb,hc]
   rfl
  refine⟨⟨_,hb,Nat.le_refl _⟩,?_,?_⟩
  ·rw[hg]
   exact⟨r,by simp only;rw[List.getElem?_set_self hlt],hr⟩
  ·rw[hg]
   refine⟨by simp only[List.length_set,e1];omega,λj hj hn=>?_⟩
   simp only
   rw[List.getElem?_set_ne (λe=>hn e.symm),e1]
 have ea:elsOf B=bytesUp b:=by rcases h2 with ⟨rfl,rfl⟩|⟨k,rfl,_⟩<;>rfl
 have one:B.one=true:=by rcases h2 with ⟨rfl,rfl⟩|⟨k,rfl,_⟩<;>rfl
 cases s with
 |nil=>
  refine⟨B,B,g,h1,ea,rfl,key B g rfl one ?_⟩
  rw[List.append_nil]
  exact h2
 |cons c s=>
  rcases h2 with ⟨rfl,rfl⟩|⟨k,rfl,h3⟩
  ·refine⟨_,_,_,h1,rfl,rfl,key _ _ rfl rfl (.inr ⟨_,rfl,?_⟩)⟩
   simp[gtok,bytesUp]
  ·have hk:=(List.getElem?_eq_some_iff.1 h3).1
   have h4:g.toks[k]?=some (1,(bytesUp b).length):=by rw[bytesUp_len];exact h3
   refine⟨_,.gsl k 1 (bytesUp b++bytesUp (c::s)),{g with toks:=g.toks.set k (1,(bytesUp b).length+(bytesUp (c::s)).length)},h1,rfl,?_,key _ _ rfl rfl (.inr ⟨k,?_,?_⟩)⟩
   ·simp only[gapp,h4]
    simp[bytesUp]
   ·rw[bytesUp_app]
   ·simp only[List.getElem?_set_self hk,bytesUp_len,List.length_append]
def most:Nat:=8192
end Go.Proofs.YtmlghadphdpbjaaGreatDoor.Pa
namespace Go.Proofs.YtmlghadphdpbjaaGreatDoor.Pa
open Go Go.Proofs.YtmlghadphdpbjaaGreatDoor.Am
theorem wordB_ln{low:Bool}{s:Str}(h:wordB low s=true):s.length≤32:=by
 cases s with
 |nil=>simp
 |cons c r=>
  unfold wordB at h
  rw[Bool.and_eq_true] at h
  have:=of_decide_eq_true h.1
  simp only[List.length_cons]
  omega
theorem wLow_ln{s:Str}(h:wLow s=true):s.length≤32:=by
 unfold wLow at h
 rw[Bool.and_eq_true] at h
 exact wordB_ln h.1
theorem brk_len(c:Bool)(t:Str):(brk c t).length≤t.length+2:=by
 unfold brk
 cases c<;>simp
theorem sTo_len:sTo.length=4:=rfl
theorem tEqS_len:tEqS.length=3:=rfl
theorem okTy1_len{k n l:Int}{s:Str}(h:okTy1 k s n l=true):s.length≤32:=by
 unfold okTy1 at h
 rw[Bool.and_eq_true] at h
 obtain⟨h,_⟩:=h
 cases h1:k==1 with
 |true=>rw[h1] at h;simp at h;rw[h.1];simp
 |false=>
  cases h2:k==2 with
  |true=>rw[h1,h2] at h;simp at h;exact wordB_ln h.1
  |false=>
   cases h3:k==3 with
   |true=>rw[h1,h2,h3] at h;simp at h;rw[h.1];simp
   |false=>
    cases h4:k==4 with
    |true=>rw[h1,h2,h3,h4] at h;simp at h;exact wLow_ln h.1
    |false=>rw[h1,h2,h3,h4] at h;simp at h
mutual
theorem tTy_len:∀(t:Ty),okTy t=true→(tTy t).length+8≤48*ndTy t
 |.mk k s n a,h=>by
  unfold okTy at h
  rw[Bool.and_eq_true] at h
  have hs:=okTy1_len h.1
  have h1:=tFn_len a h.2
  have h2:=tFs_len a h.2
  unfold tTy ndTy
  cases k==1<;>cases k==2<;>cases k==3<;>simp only[cond_true,cond_false,List.length_append,List.length_cons,List.length_nil]<;>omega
theorem tFn_len:∀(a:List Ty),okTys a=true→(tFn a).length≤48*ndTys a
 |[],_=>by simp[tFn]
 |x::l,h=>by
  unfold okTys at h
  rw[Bool.and_eq_true] at h
  have h1:=tTy_len x h.1
  have h2:=tT0_len l h.2
  have h3:=brk_len (kTy x==3) (tTy x)
  unfold tFn ndTys
  simp only[List.length_append,sTo_len]
  omega
theorem tT0_len:∀(a:List Ty),okTys a=true→(tT0 a).length≤48*ndTys a
 |[],_=>by simp[tT0]
 |x::l,h=>by
  unfold okTys at h
  rw[Bool.and_eq_true] at h
  have h1:=tTy_len x h.1
  unfold tT0 ndTys
  omega
theorem tFs_len:∀(a:List Ty),okTys a=true→(tFs a).length≤48*ndTys a
 |[],_=>by simp[tFs]
 |x::l,h=>by
  unfold okTys at h
  rw[Bool.and_eq_true] at h
  have h1:=tTy_len x h.1
  have h2:=tFs_len l h.2
  have h3:=brk_len (kTy x==3||kTy x==4&&!(noTy x)) (tTy x)
  unfold tFs ndTys
  simp only[List.length_append,List.length_cons,List.length_nil]
  omega
end
theorem decS_len:∀(j n:Nat),n<10^(j+1)→(decS n).length≤j+1
 |0,n,h=>by
  unfold decS
  rw[if_pos (by omega)]
  simp
 |j+1,n,h=>by
  unfold decS
  split
  ·simp
  ·have:n/10<10^(j+1):=by
    rw[Nat.div_lt_iff_lt_mul (by omega)]
    rw[Nat.pow_succ] at h
    exact h
   have:=decS_len j (n/10) this
   simp only[List.length_append,List.length_cons,List.length_nil]
   omega
theorem tInt_len{n:Int}(h:inI n=true):(tInt n).length≤11:=by
 unfold inI at h
 rw[Bool.and_eq_true] at h
 have h1:=of_decide_eq_true h.1
 have h2:=of_decide_eq_true h.2
 unfold tInt
 split
 ·have:=decS_len 9 (-n).toNat (by omega)
  simp only[List.length_append,List.length_cons,List.length_nil]
  omega
 ·have:=decS_len 9 n.toNat (by omega)
  omega
theorem okPt1_len{k n l:Int}{s:Str}(h:okPt1 k s n l=true):s.length≤32∧((k==3)=true→inI n=true):=by
 unfold okPt1 at h
 cases h1:k==1 with
 |true=>rw[h1] at h;simp at h;exact⟨by rw[h.1];simp,λe=>by rw[beq_iff_eq] at h1 e;omega⟩
 |false=>
  cases h2:k==2 with
  |true=>rw[h1,h2] at h;simp at h;exact⟨wLow_ln h.1,λe=>by rw[beq_iff_eq] at h2 e;omega⟩
  |false=>
   cases h3:k==3 with
   |true=>rw[h1,h2,h3] at h;simp at h;exact⟨by rw[h.1];simp,λ_=>h.2.1⟩
   |false=>
    cases h4:k==4 with
    |true=>rw[h1,h2,h3,h4] at h;simp at h;exact⟨wordB_ln h.1,λe=>by cases e⟩
    |false=>rw[h1,h2,h3,h4] at h;simp at h
mutual
theorem tPt_len:∀(t:Pt),okPt t=true→(tPt t).length+8≤48*szPt t
 |.mk k s n a p,h=>by
  unfold okPt at h
  rw[Bool.and_eq_true] at h
  obtain⟨hs,hn⟩:=okPt1_len h.1
  have h2:=tPs_len a h.2
  unfold tPt szPt
  cases h3:k==3 with
  |true=>
   have:=tInt_len (hn h3)
   cases k==1<;>simp only[cond_true,cond_false,List.length_append,List.length_cons,List.length_nil]<;>omega
  |false=>cases k==1<;>simp only[cond_true,cond_false,List.length_append,List.length_cons,List.length_nil]<;>omega
theorem tPs_len:∀(a:List Pt),okPts a=true→(tPs a).length≤48*szPts a
 |[],_=>by simp[tPs]
 |x::l,h=>by
  unfold okPts at h
  rw[Bool.and_eq_true] at h
  have h1:=tPt_len x h.1
  have h2:=tPs_len l h.2
  have h3:=brk_len (!(noPt x)) (tPt x)
  unfold tPs szPts
  simp only[List.length_append,List.length_cons,List.length_nil]
  omega
end
theorem opN_len{s:Str}(h:pos0 (opN s)=true):s.length≤32:=by
 have key:∀(l:List Str),(∀x∈l,x.length≤32)→∀i,ixF s l i≠0→s.length≤32:=by
  intro l
  induction l with
  |nil=>intro _ i h;exact absurd rfl h
  |cons x l ih=>
   intro hl i h
   unfold ixF at h
   cases q:x==s with
   |true=>rw[beq_iff_eq.1 q] at hl;exact hl s List.mem_cons_self
   |false=>rw[q] at h;exact ih (λy hy=>hl y (List.mem_cons_of_mem _ hy)) _ h
 refine key opL (by decide) 1 λe=>?_
 have e:opN s=0:=e
 rw[e] at h
 cases h
theorem okEx1_len{k n la lb:Int}{s r:Str}(h:okEx1 k s r n la lb=true):s.length≤32∧r.length≤32∧((k==2)=true→inI n=true):=by
 unfold okEx1 at h
 cases q:(!(k==6)&&!(r==[]))||((!(k==2)&&!(n==0))||(!(k==7)&&pos0 lb)) with
 |true=>rw[q] at h;cases h
 |false=>
  rw[q,cond_false] at h
  have q1:(!(k==6)&&!(r==[]))=false:=by
   cases e:(!(k==6)&&!(r==[])) with
   |false=>rfl
   |true=>rw[e] at q;cases q
  have hr:k≠6→r.length≤32:=λhk=>by
   have:(k==6)=false:=by simpa using hk
   rw[this] at q1
   have:r=[]:=by simpa using q1
   rw[this];simp
  have go:∀{b:Bool} (j:Int),k=j→j≠6→b=false→s.length≤32→s.length≤32∧r.length≤32∧(b=true→inI n=true):=λj e h6 h2 hs=>⟨hs,hr (by omega),λe2=>by rw[h2] at e2;cases e2⟩
  cases h1:k==1 with
  |true=>rw[h1] at h;simp at h;exact go 1 (beq_iff_eq.1 h1) (by decide) (by rw[beq_iff_eq.1 h1];rfl) (wLow_ln h.1)
  |false=>
   cases h2:k==2 with
   |true=>rw[h1,h2] at h;simp at h;exact⟨by rw[h.1];simp,hr (by rw[beq_iff_eq] at h2;omega),λ_=>h.2.1⟩
   |false=>
    cases h3:k==3 with
    |true=>rw[h1,h2,h3] at h;simp at h;exact go 3 (beq_iff_eq.1 h3) (by decide) rfl (wLow_ln h.1)
    |false=>
     cases h4:k==4 with
     |true=>rw[h1,h2,h3,h4] at h;simp at h;exact go 4 (beq_iff_eq.1 h4) (by decide) rfl (by rw[h.1];simp)
     |false=>
      cases h5:k==5 with
      |true=>rw[h1,h2,h3,h4,h5] at h;simp at h;exact go 5 (beq_iff_eq.1 h5) (by decide) rfl (wLow_ln h.1)
      |false=>
       cases h6:k==6 with
       |true=>rw[h1,h2,h3,h4,h5,h6] at h;simp at h;exact⟨wLow_ln h.1,wLow_ln h.2.1,λe=>by cases e⟩
       |false=>
        have k6:k≠6:=λe=>by rw[e] at h6;cases h6
        have k2:k≠2:=λe=>by rw[e] at h2;cases h2
        have fin:s.length≤32→s.length≤32∧r.length≤32∧(false=true→inI n=true):=λhs=>⟨hs,hr k6,λe=>by cases e⟩
        cases h7:k==7 with
        |true=>rw[h1,h2,h3,h4,h5,h6,h7] at h;simp at h;exact fin (by rw[h.1];simp)
        |false=>
         cases h8:k==8 with
         |true=>rw[h1,h2,h3,h4,h5,h6,h7,h8] at h;exact fin (wordB_ln h)
         |false=>
          cases h9:k==9 with
          |true=>rw[h1,h2,h3,h4,h5,h6,h7,h8,h9] at h;simp at h;exact fin (opN_len h.1)
          |false=>
           cases h10:k==10 with
           |true=>rw[h1,h2,h3,h4,h5,h6,h7,h8,h9,h10] at h;simp at h;exact fin (by rw[h.1];simp)
           |false=>rw[h1,h2,h3,h4,h5,h6,h7,h8,h9,h10] at h;cases h
mutual
theorem tEx_len:∀(e:Ex'),okEx e=true→(tEx e).length+16≤128*szEx e
 |.mk k s r n a b p,h=>by
  unfold okEx at h
  rw[Bool.and_eq_true,Bool.and_eq_true] at h
  obtain⟨h0,hb,ha⟩:=h
  obtain⟨hs,hr,hn⟩:=okEx1_len h0
  have a1:=tE0_len a ha
  have a2:=tIn_len a ha
  have a3:=tA0_len a ha
  have a4:=tH0_len a ha
  have a5:=tPr_len s hs a ha
  have a6:=tAs_len a ha
  have a7:=tCa_len b a hb ha
  have hi:(k==2)=true→(tInt n).length≤11:=λe=>tInt_len (hn e)
  unfold tEx szEx
  cases h1:k==1
  ·cases h2:k==2
   ·cases k==3
    ·cases k==4
     ·cases k==5
      ·cases k==6
       ·cases k==7
        ·cases k==8
         ·cases k==9
          ·cases k==10<;>simp only[cond_true,cond_false,List.length_append,List.length_cons,List.length_nil,sTo_len,tEqS_len]<;>omega
          ·simp only[cond_true,cond_false];omega
         ·simp only[cond_true,cond_false,List.length_append];omega
        ·simp only[cond_true,cond_false,List.length_append,List.length_cons,List.length_nil];omega
       ·simp only[cond_true,cond_false,List.length_append,List.length_cons,List.length_nil,sTo_len,tEqS_len];omega
      ·simp only[cond_true,cond_false,List.length_append,List.length_cons,List.length_nil,sTo_len,tEqS_len];omega
     ·simp only[cond_true,cond_false];omega
    ·simp only[cond_true,cond_false,List.length_append,List.length_cons,List.length_nil,sTo_len,tEqS_len];omega
   ·have:=hi h2
    simp only[cond_true,cond_false];omega
  ·simp only[cond_true];omega
theorem tE0_len:∀(a:List Ex'),okExs a=true→(tE0 a).length≤128*szExs a
 |[],_=>by simp[tE0]
 |x::l,h=>by
  unfold okExs at h
  rw[Bool.and_eq_true] at h
  have h1:=tEx_len x h.1
  unfold tE0 szExs
  omega
theorem tIn_len:∀(a:List Ex'),okExs a=true→(tIn a).length≤128*szExs a
 |[],_=>by simp[tIn]
 |x::l,h=>by
  unfold okExs at h
  rw[Bool.and_eq_true] at h
  have h1:=tEx_len x h.1
  have h2:=tE0_len l h.2
  unfold tIn szExs
  simp only[List.length_append,List.length_cons,List.length_nil]
  omega
theorem tA0_len:∀(a:List Ex'),okExs a=true→(tA0 a).length≤128*szExs a
 |[],_=>by simp[tA0]
 |x::l,h=>by
  unfold okExs at h
  rw[Bool.and_eq_true] at h
  have h1:=tEx_len x h.1
  have h3:=brk_len (!(atomK x)) (tEx x)
  unfold tA0 szExs
  omega
theorem tH0_len:∀(a:List Ex'),okExs a=true→(tH0 a).length≤128*szExs a
 |[],_=>by simp[tH0]
 |x::l,h=>by
  unfold okExs at h
  rw[Bool.and_eq_true] at h
  have h1:=tEx_len x h.1
  have h2:=tA0_len l h.2
  have h3:=brk_len (!(kEx x==4)&&(kEx x==8||!(atomK x))) (tEx x)
  unfold tH0 szExs
  simp only[List.length_append,List.length_cons,List.length_nil]
  omega
theorem tPr_len(s:Str)(hs:s.length≤32):∀(a:List Ex'),okExs a=true→(tPr s a).length≤32+128*szExs a
 |[],_=>by simp[tPr]
 |x::l,h=>by
  unfold okExs at h
  rw[Bool.and_eq_true] at h
  have h1:=tEx_len x h.1
  have h2:=tA0_len l h.2
  have h3:=brk_len (!(atomK x)) (tEx x)
  unfold tPr szExs
  simp only[List.length_append,List.length_cons,List.length_nil]
  omega
theorem tAs_len:∀(a:List Ex'),okExs a=true→(tAs a).length≤128*szExs a
 |[],_=>by simp[tAs]
 |x::l,h=>by
  unfold okExs at h
  rw[Bool.and_eq_true] at h
  have h1:=tEx_len x h.1
  have h2:=tAs_len l h.2
  have h3:=brk_len (!(atomK x)) (tEx x)
  unfold tAs szExs
  simp only[List.length_append,List.length_cons,List.length_nil]
  omega
theorem tCa_len:∀(b:List Pt) (a:List Ex'),okPts b=true→okExs a=true→(tCa b a).length≤4+48*szPts b+128*szExs a
 |b,[],_,_=>by simp[tCa]
 |b,x::l,hb,h=>by
  unfold okExs at h
  rw[Bool.and_eq_true] at h
  have h1:=tEx_len x h.1
  have h2:=tBr_len [32,111,102,32] (by decide) b l hb h.2
  unfold tCa szExs
  simp only[List.length_append]
  omega
theorem tBr_len(hd:Str)(hh:hd.length≤4):∀(b:List Pt) (a:List Ex'),okPts b=true→okExs a=true→(tBr hd b a).length≤4+48*szPts b+128*szExs a
 |b,[],_,_=>by cases b<;>(unfold tBr;simp only[List.length_cons,List.length_nil];omega)
 |[],x::l,_,_=>by unfold tBr;simp only[List.length_cons,List.length_nil];omega
 |q::b,x::l,hb,h=>by
  unfold okExs at h
  unfold okPts at hb
  rw[Bool.and_eq_true] at h hb
  have h1:=tEx_len x h.1
  have h2:=tBr_len tBarS (by decide) b l hb.2 h.2
  have h3:=brk_len (branchK (kEx x)) (tEx x)
  have h4:=tPt_len q hb.1
  unfold tBr szExs szPts
  simp only[List.length_append,sTo_len]
  omega
end
end Go.Proofs.YtmlghadphdpbjaaGreatDoor.Pa
namespace Go.Proofs.YtmlghadphdpbjaaGreatDoor.Pa
open Go Go.Proofs.YtmlghadphdpbjaaGreatDoor.Am
structure DcOk(d:Dc):Prop where
 s:d.s.length≤32
 ps:∀v∈d.ps,v.length≤32
 pn:d.ps.length≤4
 cn:d.cs.length≤32
 c0:0<d.cs.length
 cs:∀c∈d.cs,c.s.length≤32∧okTys c.fs=true∧c.fs.length≤8
theorem dcOk_of{d:Dc}(h:rDc d=true):DcOk d:=by
 unfold rDc at h
 rw[Bool.and_eq_true,Bool.and_eq_true,Bool.not_eq_true'] at h
 obtain⟨h1,h2,_⟩:=h
 unfold okDc at h1
 rw[Bool.and_eq_true,Bool.and_eq_true,Bool.and_eq_true] at h1
 obtain⟨a1,a2,a3,a4⟩:=h1
 unfold badDc at h2
 rw[Bool.or_eq_false_iff,Bool.or_eq_false_iff] at h2
 obtain⟨b1,b2,b3⟩:=h2
 have c1:¬(4:Int)<d.ps.length:=by simpa[gtI] using b1
 have c2:¬(32:Int)<d.cs.length:=by simpa[gtI] using b2
 have c3:¬(d.cs.length:Int)=0:=by simpa using a2
 refine⟨wLow_ln a1,λv hv=>wordB_ln ((List.all_eq_true.1 a3) v hv),by omega,by omega,by omega,λc hc=>?_⟩
 have e:=(List.all_eq_true.1 a4) c hc
 unfold okCn at e
 rw[Bool.and_eq_true] at e
 have f:badCn c=false:=by
  cases q:badCn c with
  |false=>rfl
  |true=>rw[List.any_eq_true.2 ⟨c,hc,q⟩] at b3;cases b3
 refine⟨wordB_ln e.1,e.2,?_⟩
 have:¬(8:Int)<c.fs.length:=by
  unfold badCn at f
  simpa[gtI] using f
 omega
theorem check_show{P:Pg}(h:rCheckP P=true):P.ds.length≤32∧szEx P.e≤2048∧okEx P.e=true∧∀d∈P.ds,DcOk d:=by
 unfold rCheckP at h
 simp only[Bool.and_eq_true,Bool.not_eq_true'] at h
 obtain⟨h1,h2,h3,_,h5⟩:=h
 refine⟨?_,?_,h5,λd hd=>dcOk_of ((List.all_eq_true.1 h3) d hd)⟩
 ·have:¬(32:Int)<P.ds.length:=by simpa[gtI] using h1
  omega
 ·have:¬(2048:Int)<upto 0 (szEx P.e):=by simpa[gtI] using h2
  unfold upto at this
  repeat' split at this
  all_goals omega
theorem ndTys_le{m:Nat}:∀{l:List Ty},(∀t∈l,ndTy t≤m)→ndTys l≤m*l.length
 |[],_=>by simp[ndTys]
 |x::l,h=>by
  have h1:=h x List.mem_cons_self
  have h2:=ndTys_le (l:=l) λt ht=>h t (List.mem_cons_of_mem _ ht)
  unfold ndTys
  rw[List.length_cons,Nat.mul_succ]
  omega
theorem tVs_len:∀{l:List Str},(∀v∈l,v.length≤32)→(tVs l).length≤34*l.length
 |[],_=>by simp[tVs]
 |x::l,h=>by
  have h1:=h x List.mem_cons_self
  have h2:=tVs_len (l:=l) λt ht=>h t (List.mem_cons_of_mem _ ht)
  unfold tVs
  simp only[List.length_append,List.length_cons,List.length_nil]
  omega
theorem tCs_len:∀{l:List Cn} {hd:Str},hd.length≤4→(∀c∈l,c.s.length≤32∧okTys c.fs=true∧c.fs.length≤8∧∀t∈c.fs,ndTy t≤20000)→(tCs hd l).length≤2+7680040*l.length
 |[],_,_,_=>by simp[tCs]
 |c::l,hd,hh,h=>by
  obtain⟨h1,h2,h3,h4⟩:=h c List.mem_cons_self
  have h5:=tCs_len (l:=l) (hd:=tBarS) (by decide) λt ht=>h t (List.mem_cons_of_mem _ ht)
  have h6:=tFs_len c.fs h2
  have h7:=ndTys_le h4
  have h8:20000*c.fs.length≤160000:=by omega
  unfold tCs
  simp only[List.length_append,List.length_cons]
  omega
theorem tDc_len{d:Dc}(h:DcOk d)(hn:∀c∈d.cs,∀t∈c.fs,ndTy t≤20000):(tDc d).length≤2^28:=by
 have h1:=tVs_len h.ps
 have h2:=tCs_len (l:=d.cs) (hd:=tEqS) (by decide) λc hc=>⟨(h.cs c hc).1,(h.cs c hc).2.1,(h.cs c hc).2.2,hn c hc⟩
 have:=h.s
 have:=h.pn
 have:=h.cn
 unfold tDc
 simp only[List.length_append,List.length_cons,List.length_nil]
 omega
theorem tDs_len:∀{l:List Dc},(∀d∈l,(tDc d).length≤2^28)→(tDs l).length≤2^28*l.length
 |[],_=>by simp[tDs]
 |x::l,h=>by
  have h1:=h x List.mem_cons_self
  have h2:=tDs_len (l:=l) λt ht=>h t (List.mem_cons_of_mem _ ht)
  unfold tDs
  rw[List.length_append,List.length_cons,Nat.mul_succ]
  omega
end Go.Proofs.YtmlghadphdpbjaaGreatDoor.Pa
