/- Show: the texts of types, patterns, expressions, declared types, programs. Show: a page of bytes; a text that is cut. Show: how long the texts are. Show: what may be shown, and how long it is at most. -/
import Derived.Test.YtmlghadphdpbjaaGreatDoorRI
import Derived.Test.YtmlghadphdpbjaaGreatDoorQH
set_option linter.all false
set_option autoImplicit false
set_option maxRecDepth 100000
namespace Go.Proofs.YtmlghadphdpbjaaGreatDoor.Pa
open Go Go.Proofs.YtmlghadphdpbjaaGreatDoor.Am
def kTy:Ty→Int
 |.mk k _ _ _=>k
def noTy:Ty→Bool
 |.mk _ _ _ a=>a.isEmpty
def noPt:Pt→Bool
 |.mk _ _ _ a _=>a.isEmpty
def kEx:Ex'→Int
 |.mk k ..=>k
def noEx:Ex'→Bool
 |.mk _ _ _ _ a _ _=>a.isEmpty
def brk(c:Bool)(t:Str):Str:=bif c then[40]++(t++[41]) else t
def sTo:Str:=[32,45,62,32]
def tEqS:Str:=[32,61,32]
mutual
def tTy:Ty→Str
 |.mk k s _ a=>bif k==1 then[105,110,116] else bif k==2 then[39]++s else bif k==3 then tFn a else s++tFs a
def tFn:List Ty→Str
 |[]=>[]
 |x::l=>brk (kTy x==3) (tTy x)++(sTo++tT0 l)
def tT0:List Ty→Str
 |[]=>[]
 |x::_=>tTy x
def tFs:List Ty→Str
 |[]=>[]
 |x::l=>[32]++(brk (kTy x==3||kTy x==4&&!(noTy x)) (tTy x)++tFs l)
end
def decS(n:Nat):Str:=if n<10 then[UInt8.ofNat (48+n)] else decS (n/10)++[UInt8.ofNat (48+n%10)]
termination_by n
decreasing_by exact Nat.div_lt_self (by omega) (by decide)
def tInt(n:Int):Str:=if n<0 then[126]++decS (-n).toNat else decS n.toNat
def atomK(x:Ex'):Bool:=kEx x==1||(kEx x==2||kEx x==8&&noEx x)
def branchK(k:Int):Bool:=k==3||(k==5||k==6)
end Go.Proofs.YtmlghadphdpbjaaGreatDoor.Pa
namespace Go.Proofs.YtmlghadphdpbjaaGreatDoor.Pa
open Go Go.Proofs.YtmlghadphdpbjaaGreatDoor.Am
def PageIs(g:Glob)(q:Nat)(b:Str):Prop:=∃B,g.boxes[q]?=some (.cells [.d B])∧((B=.nil∧b=[])∨∃k,B=.gsl k 1 (bytesUp b)∧g.toks[k]?=some (1,b.length))
theorem bytesUp_len(s:Str):(bytesUp s).length=s.length:=List.length_map ..
theorem bytesUp_app(s t:Str):bytesUp (s++t)=bytesUp s++bytesUp t:=List.map_append ..
structure Oth(q:Nat)(g g':Glob):Prop where
 len:g.boxes.length≤g'.boxes.length
 box:∀j,j<g.boxes.length→j≠q→g'.boxes[j]?=g.boxes[j]?
theorem Oth.refl(q:Nat)(g:Glob):Oth q g g:=⟨Nat.le_refl _,λ_ _ _=>rfl⟩
theorem Oth.trans{q:Nat}{g g' g'':Glob}(h:Oth q g g')(k:Oth q g' g''):Oth q g g'':=⟨Nat.le_trans h.len k.len,λj hj hn=>(k.box j (Nat.lt_of_lt_of_le hj h.len) hn).trans (h.box j hj hn)⟩
theorem Oth.at{q j:Nat}{g g':Glob}{b:GBox}(h:Oth q g g')(hb:g.boxes[j]?=some b)(hn:j≠q):g'.boxes[j]?=some b:=by
 rw[h.box j (List.getElem?_eq_some_iff.1 hb).1 hn];exact hb
theorem page_put{g:Glob}{q:Nat}{b:Str}(h:PageIs g q b)(s:Str):∃B r g1,g.boxes[q]?=some (.cells [.d B])∧elsOf B=bytesUp b∧gapp 1 B (bytesUp s) g=some (r,g1)∧GPut g1 q 0 1∧PageIs (gput g1 q 0 r) q (b++s)∧Oth q g (gput g1 q 0 r):=by
 obtain⟨B,h1,h2⟩:=h
 have key:∀(r:Dat) (g1:Glob),g1.boxes=g.boxes→r.one=true→((r=.nil∧b++s=[])∨∃k,r=.gsl k 1 (bytesUp (b++s))∧g1.toks[k]?=some (1,(b++s).length))→GPut g1 q 0 1∧PageIs (gput g1 q 0 r) q (b++s)∧Oth q g (gput g1 q 0 r):=λr g1 e1 ho hr=>by
  have hb:g1.boxes[q]?=some (.cells [.d B]):=by rw[e1];exact h1
  have hlt:=(List.getElem?_eq_some_iff.1 hb).1
  have hc:r.cells=[r]:=by cases r<;>first|rfl|cases ho
  have hg:gput g1 q 0 r={g1 with boxes:=g1.boxes.set q (.cells [.d r])}:=by
   unfold gput
   rw[hb,hc]
   rfl
  refine⟨⟨_,hb,Nat.le_refl _⟩,?_,?_⟩
  ·rw[hg]
   exact⟨r,by simp only;rw[List.getElem?_set_self hlt],hr⟩
  ·rw[hg]
   refine⟨by simp only[List.length_set,e1];omega,λj hj hn=>?_⟩
   simp only
   rw[List.getElem?_set_ne (λe=>hn e.symm),e1]
 have ea:elsOf B=bytesUp b:=by rcases h2 with ⟨rfl,rfl⟩|⟨k,rfl,_⟩<;>rfl
 have one:B.one=true:=by rcases h2 with ⟨rfl,rfl⟩|⟨k,rfl,_⟩<;>rfl
 cases s with
 |nil=>
  refine⟨B,B,g,h1,ea,rfl,key B g rfl one ?_⟩
  rw[List.append_nil]
  exact h2
 |cons c s=>
  rcases h2 with ⟨rfl,rfl⟩|⟨k,rfl,h3⟩
  ·refine⟨_,_,_,h1,rfl,rfl,key _ _ rfl rfl (.inr ⟨_,rfl,?_⟩)⟩
   simp[gtok,bytesUp]
  ·have hk:=(List.getElem?_eq_some_iff.1 h3).1
   have h4:g.toks[k]?=some (1,(bytesUp b).length):=by rw[bytesUp_len];exact h3
   refine⟨_,.gsl k 1 (bytesUp b++bytesUp (c::s)),{g with toks:=g.toks.set k (1,(bytesUp b).length+(bytesUp (c::s)).length)},h1,rfl,?_,key _ _ rfl rfl (.inr ⟨k,?_,?_⟩)⟩
   ·simp only[gapp,h4]
    simp[bytesUp]
   ·rw[bytesUp_app]
   ·simp only[List.getElem?_set_self hk,bytesUp_len,List.length_append]
def most:Nat:=8192
end Go.Proofs.YtmlghadphdpbjaaGreatDoor.Pa
namespace Go.Proofs.YtmlghadphdpbjaaGreatDoor.Pa
open Go Go.Proofs.YtmlghadphdpbjaaGreatDoor.Am
theorem wordB_ln{low:Bool}{s:Str}(h:wordB low s=true):s.length≤32:=by
 cases s with
 |nil=>simp
 |cons c r=>
  unfold wordB at h
  rw[Bool.and_eq_true] at h
  have:=of_decide_eq_true h.1
  simp only[List.length_cons]
  omega
theorem wLow_ln{s:Str}(h:wLow s=true):s.length≤32:=by
 unfold wLow at h
 rw[Bool.and_eq_true] at h
 exact wordB_ln h.1
theorem brk_len(c:Bool)(t:Str):(brk c t).length≤t.length+2:=by
 unfold brk
 cases c<;>simp
theorem sTo_len:sTo.length=4:=rfl
theorem okTy1_len{k n l:Int}{s:Str}(h:okTy1 k s n l=true):s.length≤32:=by
 unfold okTy1 at h
 rw[Bool.and_eq_true] at h
 obtain⟨h,_⟩:=h
 cases h1:k==1 with
 |true=>rw[h1] at h;simp at h;rw[h.1];simp
 |false=>
  cases h2:k==2 with
  |true=>rw[h1,h2] at h;simp at h;exact wordB_ln h.1
  |false=>
   cases h3:k==3 with
   |true=>rw[h1,h2,h3] at h;simp at h;rw[h.1];simp
   |false=>
    cases h4:k==4 with
    |true=>rw[h1,h2,h3,h4] at h;simp at h;exact wLow_ln h.1
    |false=>rw[h1,h2,h3,h4] at h;simp at h
mutual
theorem tTy_len:∀(t:Ty),okTy t=true→(tTy t).length+8≤48*ndTy t
 |.mk k s n a,h=>by
  unfold okTy at h
  rw[Bool.and_eq_true] at h
  have hs:=okTy1_len h.1
  have h1:=tFn_len a h.2
  have h2:=tFs_len a h.2
  unfold tTy ndTy
  cases k==1<;>cases k==2<;>cases k==3<;>simp only[cond_true,cond_false,List.length_append,List.length_cons,List.length_nil]<;>omega
theorem tFn_len:∀(a:List Ty),okTys a=true→(tFn a).length≤48*ndTys a
 |[],_=>by simp[tFn]
 |x::l,h=>by
  unfold okTys at h
  rw[Bool.and_eq_true] at h
  have h1:=tTy_len x h.1
  have h2:=tT0_len l h.2
  have h3:=brk_len (kTy x==3) (tTy x)
  unfold tFn ndTys
  simp only[List.length_append,sTo_len]
  omega
theorem tT0_len:∀(a:List Ty),okTys a=true→(tT0 a).length≤48*ndTys a
 |[],_=>by simp[tT0]
 |x::l,h=>by
  unfold okTys at h
  rw[Bool.and_eq_true] at h
  have h1:=tTy_len x h.1
  unfold tT0 ndTys
  omega
theorem tFs_len:∀(a:List Ty),okTys a=true→(tFs a).length≤48*ndTys a
 |[],_=>by simp[tFs]
 |x::l,h=>by
  unfold okTys at h
  rw[Bool.and_eq_true] at h
  have h1:=tTy_len x h.1
  have h2:=tFs_len l h.2
  have h3:=brk_len (kTy x==3||kTy x==4&&!(noTy x)) (tTy x)
  unfold tFs ndTys
  simp only[List.length_append,List.length_cons,List.length_nil]
  omega
end
theorem decS_len:∀(j n:Nat),n<10^(j+1)→(decS n).length≤j+1
 |0,n,h=>by
  unfold decS
  rw[if_pos (by omega)]
  simp
 |j+1,n,h=>by
  unfold decS
  split
  ·simp
  ·have:n/10<10^(j+1):=by
    rw[Nat.div_lt_iff_lt_mul (by omega)]
    rw[Nat.pow_succ] at h
    exact h
   have:=decS_len j (n/10) this
   simp only[List.length_append,List.length_cons,List.length_nil]
   omega
end Go.Proofs.YtmlghadphdpbjaaGreatDoor.Pa
namespace Go.Proofs.YtmlghadphdpbjaaGreatDoor.Pa
open Go Go.Proofs.YtmlghadphdpbjaaGreatDoor.Am
def tyPg(c:Str)(t:Ty):Pg:=⟨[⟨[116],[],[⟨c,[t]⟩],0⟩],.mk 2 [] [] 0 [] [] 0⟩
theorem tyPg_check(t:Ty):rCheckP (tyPg [84] t)=rCheckP (tyPg [67] t):=by
 unfold rCheckP tyPg
 simp only[List.all_cons,List.all_nil]
 rfl
structure DcOk(d:Dc):Prop where
 s:d.s.length≤32
 ps:∀v∈d.ps,v.length≤32
 pn:d.ps.length≤4
 cn:d.cs.length≤32
 c0:0<d.cs.length
 cs:∀c∈d.cs,c.s.length≤32∧okTys c.fs=true∧c.fs.length≤8
theorem dcOk_of{d:Dc}(h:rDc d=true):DcOk d:=by
 unfold rDc at h
 rw[Bool.and_eq_true,Bool.and_eq_true,Bool.not_eq_true'] at h
 obtain⟨h1,h2,_⟩:=h
 unfold okDc at h1
 rw[Bool.and_eq_true,Bool.and_eq_true,Bool.and_eq_true] at h1
 obtain⟨a1,a2,a3,a4⟩:=h1
 unfold badDc at h2
 rw[Bool.or_eq_false_iff,Bool.or_eq_false_iff] at h2
 obtain⟨b1,b2,b3⟩:=h2
 have c1:¬(4:Int)<d.ps.length:=by simpa[gtI] using b1
 have c2:¬(32:Int)<d.cs.length:=by simpa[gtI] using b2
 have c3:¬(d.cs.length:Int)=0:=by simpa using a2
 refine⟨wLow_ln a1,λv hv=>wordB_ln ((List.all_eq_true.1 a3) v hv),by omega,by omega,by omega,λc hc=>?_⟩
 have e:=(List.all_eq_true.1 a4) c hc
 unfold okCn at e
 rw[Bool.and_eq_true] at e
 have f:badCn c=false:=by
  cases q:badCn c with
  |false=>rfl
  |true=>rw[List.any_eq_true.2 ⟨c,hc,q⟩] at b3;cases b3
 refine⟨wordB_ln e.1,e.2,?_⟩
 have:¬(8:Int)<c.fs.length:=by
  unfold badCn at f
  simpa[gtI] using f
 omega
theorem tyPg_ok{c:Str}{t:Ty}(h:rCheckP (tyPg c t)=true):okTy t=true:=by
 unfold rCheckP at h
 simp only[Bool.and_eq_true] at h
 have hd:=dcOk_of ((List.all_eq_true.1 h.2.2.1) _ (List.mem_singleton.2 rfl))
 have:=(hd.cs _ (List.mem_singleton.2 rfl)).2.1
 unfold okTys at this
 rw[Bool.and_eq_true] at this
 exact this.1
end Go.Proofs.YtmlghadphdpbjaaGreatDoor.Pa
