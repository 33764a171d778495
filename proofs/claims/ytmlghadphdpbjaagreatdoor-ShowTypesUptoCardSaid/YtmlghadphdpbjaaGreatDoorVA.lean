/- What was written is lexed: texts whose tokens are known. What was written is lexed: types, patterns, expressions, declared types, programs. What was written is read: types, patterns. -/
import Derived.Test.YtmlghadphdpbjaaGreatDoorRV
import Derived.Test.YtmlghadphdpbjaaGreatDoorSA
set_option linter.all false
set_option autoImplicit false
set_option maxRecDepth 100000
namespace Go.Proofs.YtmlghadphdpbjaaGreatDoor.Pa
open Go Go.Proofs.YtmlghadphdpbjaaGreatDoor.Am
def Dl(w:Str):Prop:=w=[]∨∃d r,w=d::r∧(d=32∨d=10∨d=40∨d=41∨d=59)
theorem dl_nil:Dl []:=.inl rfl
theorem dl_sp{w:Str}:Dl (32::w):=.inr ⟨_,_,rfl,.inl rfl⟩
theorem dl_cl{w:Str}:Dl (41::w):=.inr ⟨_,_,rfl,.inr (.inr (.inr (.inl rfl)))⟩
def Lx(u:Str)(ks:List Tk)(w:Str):Prop:=ks.length≤u.length∧∀(a:Nat) (acc:List Pk),acc.length≤4096→
 (acc.length+ks.length≤4096→∃l,l.map (·.1)=ks∧lexA a (u++w) acc=lexA (a+u.length) w (acc++l))∧(4096<acc.length+ks.length→∃p,lexA a (u++w) acc=.err p 3)
theorem Lx.nil{w:Str}:Lx [] [] w:=⟨Nat.le_refl _,λa acc h=>⟨λ_=>⟨[],rfl,by simp⟩,λh'=>by simp at h';omega⟩⟩
theorem Lx.app{u1 u2 w:Str}{k1 k2:List Tk}(h1:Lx u1 k1 (u2++w))(h2:Lx u2 k2 w):Lx (u1++u2) (k1++k2) w:=⟨by have:=h1.1;have:=h2.1;simp only[List.length_append];omega,λa acc hb=>by
 obtain⟨i1,i2⟩:=h1.2 a acc hb
 rw[List.append_assoc,List.length_append]
 by_cases hc:acc.length+k1.length≤4096
 ·obtain⟨l1,e1,e2⟩:=i1 hc
  have el:l1.length=k1.length:=by rw[←e1,List.length_map]
  obtain⟨j1,j2⟩:=h2.2 (a+u1.length) (acc++l1) (by rw[List.length_append,el];exact hc)
  rw[List.length_append,el] at j1 j2
  rw[e2]
  refine⟨λh=>?_,λh=>j2 (by omega)⟩
  obtain⟨l2,f1,f2⟩:=j1 (by omega)
  exact⟨l1++l2,by rw[List.map_append,e1,f1],by rw[f2,List.length_append,Nat.add_assoc,List.append_assoc]⟩
 ·exact⟨λh=>by omega,λh=>i2 (by omega)⟩⟩
theorem Lx.sp{w:Str}:Lx [32] [] w:=⟨by simp,λa acc h=>⟨λ_=>⟨[],rfl,by rw[List.append_nil];exact lex_blank⟩,λh'=>by simp at h';omega⟩⟩
theorem Lx.tok{b w:Str}{tk:Tk}(hb:b≠[])(hs:skipN (b++w)=0)(ht:tokF (b++w)=(tk,b.length,0)):Lx b [tk] w:=by
 obtain⟨c,r,rfl⟩:∃c r,b=c::r:=by
  cases b with
  |nil=>exact absurd rfl hb
  |cons c r=>exact⟨c,r,rfl⟩
 refine⟨by simp,λa acc h=>?_⟩
 refine⟨λh=>⟨[(tk,(a:Int))],rfl,?_⟩,λh=>?_⟩
 ·have:=lex_tok (a:=a) (acc:=acc) hs ht (by simp at h;omega)
  refine this.trans ?_
  congr 1
  exact List.drop_left (l₁:=c::r)
 ·have he:lexErr (tokF (c::(r++w))).2.2 acc.length=3:=by
   have ht:tokF (c::(r++w))=_:=ht
   rw[ht,lexErr,if_pos ⟨rfl,by simp at h;omega⟩]
  have hs:skipN (c::(r++w))=0:=hs
  refine⟨a+skipN (c::(r++w)),(lexA_err (u:=c::(r++w)) (c:=c) (r:=r++w) (by rw[hs];rfl) (by rw[he];decide)).trans ?_⟩
  rw[he]
theorem skip0{c:UInt8}{r:Str}(h:(smB c.toNat||(cpB c.toNat||(dgB c.toNat||(c.toNat==39||c.toNat==126))))=true):skipN (c::r)=0:=by
 have h1:blank c=false:=by
  cases hb:blank c with
  |false=>rfl
  |true=>
   exfalso
   unfold blank at hb
   simp only[Bool.or_eq_true,beq_iff_eq] at hb
   unfold smB cpB dgB at h
   simp only[Bool.or_eq_true,Bool.and_eq_true,decide_eq_true_eq,beq_iff_eq] at h
   omega
 have h2:(c.toNat==35)=false:=by
  cases hb:c.toNat==35 with
  |false=>rfl
  |true=>
   exfalso
   rw[beq_iff_eq] at hb
   unfold smB cpB dgB at h
   simp only[Bool.or_eq_true,Bool.and_eq_true,decide_eq_true_eq,beq_iff_eq] at h
   omega
 unfold skipN
 simp[h1,h2]
theorem dl_pt{w:Str}(h:Dl w):tw ptB w=[]∧tw dgB w=[]:=by
 rcases h with rfl|⟨d,r,rfl,rfl|rfl|rfl|rfl|rfl⟩<;>exact⟨rfl,rfl⟩
theorem tw_append{p:Int→Bool}:∀{s w:Str},(∀c∈s,p c.toNat=true)→tw p (s++w)=s++tw p w
 |[],_,_=>rfl
 |c::s,w,h=>by
  have h1:=h c List.mem_cons_self
  have ih:=tw_append (p:=p) (s:=s) (w:=w) λd hd=>h d (List.mem_cons_of_mem _ hd)
  unfold tw at ih⊢
  rw[List.cons_append,List.takeWhile_cons,h1,if_pos rfl,ih,List.cons_append]
theorem runN_app{p:Int→Bool}{s w:Str}(h:∀c∈s,p c.toNat=true)(hw:tw p w=[]):runN p (s++w)=s.length∧tw p (s++w)=s:=by
 have e:=tw_append (w:=w) h
 rw[hw,List.append_nil] at e
 exact⟨by rw[←tw_len,e],e⟩
theorem wordB_inv{low:Bool}{s:Str}(h:wordB low s=true):∃c r,s=c::r∧(bif low then smB c.toNat else cpB c.toNat)=true∧(∀d∈r,ptB d.toNat=true)∧(c::r).length≤32:=by
 have hl:=wordB_ln h
 cases s with
 |nil=>cases h
 |cons c r=>
  unfold wordB at h
  simp only[Bool.and_eq_true,decide_eq_true_eq,List.all_eq_true] at h
  exact⟨c,r,rfl,h.2.1,h.2.2,hl⟩
theorem lx_low{s w:Str}(h:wLow s=true)(hw:Dl w):Lx s [(1,s,0)] w:=by
 unfold wLow at h
 rw[Bool.and_eq_true,Bool.not_eq_true'] at h
 obtain⟨c,r,rfl,h1,h2,h3⟩:=wordB_inv h.1
 have h1:smB c.toNat=true:=h1
 obtain⟨e1,e2⟩:=runN_app h2 (dl_pt hw).1
 refine .tok (by simp) (skip0 (by rw[h1];rfl)) ?_
 rw[List.cons_append,tokF_eq,if_pos h1,e1,e2]
 unfold wordF
 rw[if_neg (by omega),h.2]
 simp[Nat.add_comm]
theorem lx_up{s w:Str}(h:wUp s=true)(hw:Dl w):Lx s [(2,s,0)] w:=by
 obtain⟨c,r,rfl,h1,h2,h3⟩:=wordB_inv (low:=false) h
 have h1:cpB c.toNat=true:=h1
 have h0:¬smB c.toNat=true:=by
  unfold cpB at h1
  unfold smB
  simp only[Bool.and_eq_true,decide_eq_true_eq] at h1⊢
  omega
 obtain⟨e1,e2⟩:=runN_app h2 (dl_pt hw).1
 refine .tok (by simp) (skip0 (by rw[h1];simp)) ?_
 rw[List.cons_append,tokF_eq,if_neg h0,if_pos h1,e1,e2]
 unfold wordF
 rw[if_neg (by omega)]
 simp[Nat.add_comm]
theorem lx_var{s w:Str}(h:wVar s=true)(hw:Dl w):Lx (39::s) [(3,s,0)] w:=by
 obtain⟨c,r,rfl,h1,h2,h3⟩:=wordB_inv (low:=true) h
 have h1:smB c.toNat=true:=h1
 have h4:∀d∈c::r,ptB d.toNat=true:=λd hd=>by
  rcases List.mem_cons.1 hd with rfl|hd
  ·unfold ptB;rw[h1];rfl
  ·exact h2 d hd
 obtain⟨e1,e2⟩:=runN_app h4 (dl_pt hw).1
 refine .tok (by simp) (skip0 rfl) ?_
 have hq:quoteB 39 (c::r++w)=true:=by
  unfold quoteB
  rw[e1]
  simp[h1]
 rw[List.cons_append,tokF_eq,if_neg (by decide),if_neg (by decide),if_pos hq,e1,e2]
 unfold wordF
 rw[if_neg (by omega)]
 simp[Nat.add_comm]
theorem decS_dig(n:Nat):Dig (decS n):=by
 induction n using Nat.strongRecOn with
 |_ n ih=>
  unfold decS
  split
  ·intro c hc
   simp only[List.mem_singleton] at hc
   subst hc
   have:(UInt8.ofNat (48+n)).toNat=48+n:=by simp;omega
   omega
  ·intro c hc
   rcases List.mem_append.1 hc with hc|hc
   ·exact ih (n/10) (by omega) c hc
   ·simp only[List.mem_singleton] at hc
    subst hc
    have:(UInt8.ofNat (48+n%10)).toNat=48+n%10:=by simp;omega
    omega
theorem decS_ne(n:Nat):decS n≠[]:=by
 unfold decS
 split<;>simp
theorem valF_snoc(acc:Nat)(s:Str)(c:UInt8):valF acc (s++[c])=valF acc s*10+(c.toNat-48):=by
 unfold valF
 rw[List.foldl_append]
 rfl
theorem decS_val(n:Nat):valF 0 (decS n)=n:=by
 induction n using Nat.strongRecOn with
 |_ n ih=>
  unfold decS
  split
  ·have:(UInt8.ofNat (48+n)).toNat=48+n:=by simp;omega
   rw[valF_cons,valF_nil,this]
   omega
  ·have:(UInt8.ofNat (48+n%10)).toNat=48+n%10:=by simp;omega
   rw[valF_snoc,ih (n/10) (by omega),this]
   omega
theorem decS_head(n:Nat):(decS n).head?=some 48→(decS n).length≤1:=by
 induction n using Nat.strongRecOn with
 |_ n ih=>
  unfold decS
  split
  ·intro _;simp
  ·rename_i h
   intro hh
   exfalso
   have hne:=decS_ne (n/10)
   have hv:=decS_val (n/10)
   have h1:=ih (n/10) (by omega)
   match hd:decS (n/10),hne with
   |c::r,_=>
    rw[hd] at hh hv h1
    have hc:c=48:=by simpa using hh
    subst hc
    have hl:=h1 rfl
    have hr:r=[]:=by
     cases r with
     |nil=>rfl
     |cons _ _=>simp at hl
    subst hr
    rw[valF_cons,valF_nil] at hv
    have:(48:UInt8).toNat=48:=rfl
    rw[this] at hv
    omega
theorem numR_dec{neg:Bool}{m:Nat}(hm:m<10^10)(hi:inI (if neg then -(m:Int) else m)=true):numR neg (decS m)=some (if neg then -(m:Int) else m):=by
 unfold numR
 have hl:=decS_len 9 m (by omega)
 rw[if_neg,decS_val,if_pos hi]
 rintro (h|⟨h1,h2⟩|h)
 ·exact decS_ne _ h
 ·have:=decS_head m h2;omega
 ·omega
theorem lx_int{n:Int}{w:Str}(h:inI n=true)(hw:Dl w):Lx (tInt n) [(4,[],n)] w:=by
 have hb:=inI_iff.1 h
 unfold tInt
 split
 ·rename_i hn
  have hd:=decS_dig (-n).toNat
  have hdg:∀c∈decS (-n).toNat,dgB c.toNat=true:=λc hc=>by
   have:=hd c hc
   unfold dgB
   simp only[Bool.and_eq_true,decide_eq_true_eq]
   omega
  obtain⟨e1,e2⟩:=runN_app hdg (dl_pt hw).2
  refine .tok (by simp) (skip0 rfl) ?_
  have hq:quoteB 126 (decS (-n).toNat++w)=false:=rfl
  have hv:numTok (126::decS (-n).toNat)=some n:=by
   have:=numR_dec (neg:=true) (m:=(-n).toNat) (by omega) (by
    rw[if_pos rfl,show -((((-n).toNat:Nat)):Int)=n by omega];exact h)
   rw[if_pos rfl,show -((((-n).toNat:Nat)):Int)=n by omega] at this
   rw[numTok_neg hd,this]
  rw[show[126]++decS (-n).toNat++w=126::(decS (-n).toNat++w) from rfl,tokF_eq,if_neg (by decide),if_neg (by decide),hq,if_neg (by decide),if_pos (by decide),e1,e2]
  unfold numF
  rw[hv]
  simp[Nat.add_comm]
 ·rename_i hn
  have hd:=decS_dig n.toNat
  have hdg:∀c∈decS n.toNat,dgB c.toNat=true:=λc hc=>by
   have:=hd c hc
   unfold dgB
   simp only[Bool.and_eq_true,decide_eq_true_eq]
   omega
  have hv:=numR_dec (neg:=false) (m:=n.toNat) (by omega) (by
   rw[if_neg (by decide),show(((n.toNat:Nat)):Int)=n by omega];exact h)
  rw[if_neg (by decide),show(((n.toNat:Nat)):Int)=n by omega] at hv
  cases hD:decS n.toNat with
  |nil=>exact absurd hD (decS_ne _)
  |cons c r=>
   rw[hD] at hd hdg hv
   have hc:=hdg c List.mem_cons_self
   have hcn:=hd c List.mem_cons_self
   obtain⟨e1,e2⟩:=runN_app (λx hx=>hdg x (List.mem_cons_of_mem _ hx)) (dl_pt hw).2
   refine .tok (by simp) (skip0 (by rw[hc];simp)) ?_
   have q1:¬smB c.toNat=true:=by unfold smB;simp only[Bool.and_eq_true,decide_eq_true_eq];omega
   have q2:¬cpB c.toNat=true:=by unfold cpB;simp only[Bool.and_eq_true,decide_eq_true_eq];omega
   have q3:¬quoteB c (r++w)=true:=by
    unfold quoteB
    rw[show(c.toNat==39)=false by rw[beq_eq_false_iff_ne];omega]
    simp
   rw[List.cons_append,tokF_eq,if_neg q1,if_neg q2,if_neg q3,if_pos (by unfold numB;rw[hc];simp),e1,e2]
   unfold numF
   rw[numTok_pos hd,hv]
   simp[Nat.add_comm]
theorem lx_open{w:Str}:Lx [40] [(6,sOpen,0)] w:=.tok (by simp) rfl rfl
theorem lx_close{w:Str}:Lx [41] [(6,sClose,0)] w:=.tok (by simp) rfl rfl
theorem lx_semi{w:Str}:Lx [59] [(6,sSemi,0)] w:=.tok (by simp) rfl rfl
theorem lx_to{w:Str}:Lx sTo [(6,sArrow,0)] w:=Lx.app (u1:=[32]) (u2:=[45,62,32]) .sp (Lx.app (u1:=[45,62]) (u2:=[32]) (k2:=[]) (.tok (by simp) rfl rfl) .sp)
theorem lx_eqs{w:Str}:Lx tEqS [(6,sEq,0)] w:=Lx.app (u1:=[32]) (u2:=[61,32]) .sp (Lx.app (u1:=[61]) (u2:=[32]) (k2:=[]) (.tok (by simp) rfl rfl) .sp)
theorem lx_key{b w:Str}{tk:Tk}(hb:b≠[])(hs:skipN (b++(32::w))=0)(ht:tokF (b++(32::w))=(tk,b.length,0)):Lx (b++[32]) [tk] w:=Lx.app (k2:=[]) (.tok hb hs ht) .sp
theorem lx_ktype{w:Str}:Lx [116,121,112,101,32] [(5,kType,0)] w:=lx_key (b:=[116,121,112,101]) (by simp) rfl rfl
theorem lx_kint{w:Str}(hw:Dl w):Lx [105,110,116] [(1,kInt,0)] w:=lx_low (s:=kInt) rfl hw
end Go.Proofs.YtmlghadphdpbjaaGreatDoor.Pa
namespace Go.Proofs.YtmlghadphdpbjaaGreatDoor.Pa
open Go Go.Proofs.YtmlghadphdpbjaaGreatDoor.Am
def qbrk(c:Bool)(l:List Tk):List Tk:=bif c then[(6,sOpen,0)]++(l++[(6,sClose,0)]) else l
mutual
def qTy:Ty→List Tk
 |.mk k s _ a=>bif k==1 then[(1,kInt,0)] else bif k==2 then[(3,s,0)] else bif k==3 then qFn a else[(1,s,0)]++qFs a
def qFn:List Ty→List Tk
 |[]=>[]
 |x::l=>qbrk (kTy x==3) (qTy x)++([(6,sArrow,0)]++qT0 l)
def qT0:List Ty→List Tk
 |[]=>[]
 |x::_=>qTy x
def qFs:List Ty→List Tk
 |[]=>[]
 |x::l=>[]++(qbrk (kTy x==3||kTy x==4&&!(noTy x)) (qTy x)++qFs l)
end
mutual
def qPt:Pt→List Tk
 |.mk k s n a _=>bif k==1 then[(6,sAny,0)] else bif k==3 then[(4,[],n)] else(bif k==2 then[(1,s,0)] else[(2,s,0)])++qPs a
def qPs:List Pt→List Tk
 |[]=>[]
 |x::l=>[]++(qbrk (!(noPt x)) (qPt x)++qPs l)
end
mutual
def qEx:Ex'→List Tk
 |.mk k s r n a b _=>bif k==1 then[(1,s,0)] else bif k==2 then[(4,[],n)] else bif k==3 then[(5,kFun,0)]++([(1,s,0)]++([(6,sArrow,0)]++qE0 a)) else bif k==4 then qH0 a
  else bif k==5 then[(5,kLet,0)]++([(1,s,0)]++([(6,sEq,0)]++qIn a)) else bif k==6 then[(5,kLet,0)]++([(5,kRec,0)]++([(1,s,0)]++([]++([(1,r,0)]++([(6,sEq,0)]++qIn a)))))
  else bif k==7 then[(5,kCase,0)]++qCa b a else bif k==8 then[(2,s,0)]++qAs a else bif k==9 then qPr s a else bif k==10 then[(5,kPrint,0)]++qA0 a else[]
def qE0:List Ex'→List Tk
 |[]=>[]
 |x::_=>qEx x
def qIn:List Ex'→List Tk
 |[]=>[]
 |x::l=>qEx x++([(5,kIn,0)]++qE0 l)
def qA0:List Ex'→List Tk
 |[]=>[]
 |x::_=>qbrk (!(atomK x)) (qEx x)
def qH0:List Ex'→List Tk
 |[]=>[]
 |x::l=>qbrk (!(kEx x==4)&&(kEx x==8||!(atomK x))) (qEx x)++([]++qA0 l)
def qPr(s:Str):List Ex'→List Tk
 |[]=>[]
 |x::l=>qbrk (!(atomK x)) (qEx x)++([]++([(6,s,0)]++([]++qA0 l)))
def qAs:List Ex'→List Tk
 |[]=>[]
 |x::l=>[]++(qbrk (!(atomK x)) (qEx x)++qAs l)
def qCa(b:List Pt):List Ex'→List Tk
 |[]=>[]
 |x::l=>qEx x++qBr (5,kOf,0) b l
def qBr(hd:Tk):List Pt→List Ex'→List Tk
 |_,[]=>[(5,kEnd,0)]
 |[],_=>[(5,kEnd,0)]
 |q::b,x::l=>[hd]++(qPt q++([(6,sArrow,0)]++(qbrk (branchK (kEx x)) (qEx x)++qBr (6,sBar,0) b l)))
end
def qVs:List Str→List Tk
 |[]=>[]
 |v::l=>[(3,v,0)]++qVs l
theorem Lx.brk{c:Bool}{t w:Str}{ks:List Tk}(h:∀w',Dl w'→Lx t ks w')(hw:Dl w):Lx (brk c t) (qbrk c ks) w:=by
 cases c
 ·exact h w hw
 ·exact Lx.app lx_open (Lx.app (h _ dl_cl) lx_close)
theorem dlFs{l:List Ty}{w:Str}(hw:Dl w):Dl (tFs l++w):=by
 cases l with
 |nil=>exact hw
 |cons x l=>rw[tFs];exact dl_sp
theorem okTy1_inv{k n l:Int}{s:Str}(h:okTy1 k s n l=true):n=0∧((k=1∧s=[]∧l=0)∨(k=2∧wVar s=true∧l=0)∨(k=3∧s=[]∧l=2)∨(k=4∧wLow s=true∧s≠kInt)):=by
 unfold okTy1 at h
 rw[Bool.and_eq_true] at h
 refine⟨by simpa using h.2,?_⟩
 have h:=h.1
 cases h1:k==1 with
 |true=>rw[h1] at h;simp at h;exact .inl ⟨by simpa using h1,h⟩
 |false=>
  cases h2:k==2 with
  |true=>rw[h1,h2] at h;simp at h;exact .inr (.inl ⟨by simpa using h2,h⟩)
  |false=>
   cases h3:k==3 with
   |true=>rw[h1,h2,h3] at h;simp at h;exact .inr (.inr (.inl ⟨by simpa using h3,h⟩))
   |false=>
    cases h4:k==4 with
    |true=>rw[h1,h2,h3,h4] at h;simp at h;exact .inr (.inr (.inr ⟨by simpa using h4,h.1,h.2⟩))
    |false=>rw[h1,h2,h3,h4] at h;simp at h
theorem okPt1_inv{k n l:Int}{s:Str}(h:okPt1 k s n l=true):(k=1∧s=[]∧n=0∧l=0)∨(k=2∧wLow s=true∧n=0∧l=0)∨(k=3∧s=[]∧inI n=true∧l=0)∨(k=4∧wUp s=true∧n=0):=by
 unfold okPt1 at h
 cases h1:k==1 with
 |true=>rw[h1] at h;simp at h;exact .inl ⟨by simpa using h1,h⟩
 |false=>
  cases h2:k==2 with
  |true=>rw[h1,h2] at h;simp at h;exact .inr (.inl ⟨by simpa using h2,h⟩)
  |false=>
   cases h3:k==3 with
   |true=>rw[h1,h2,h3] at h;simp at h;exact .inr (.inr (.inl ⟨by simpa using h3,h⟩))
   |false=>
    cases h4:k==4 with
    |true=>rw[h1,h2,h3,h4] at h;simp at h;exact .inr (.inr (.inr ⟨by simpa using h4,h⟩))
    |false=>rw[h1,h2,h3,h4] at h;simp at h
def ExK(k:Int)(s r:Str)(n la lb:Int):Prop:=
 (k=1∧wLow s=true∧r=[]∧n=0∧la=0∧lb=0)∨(k=2∧s=[]∧r=[]∧inI n=true∧la=0∧lb=0)∨(k=3∧wLow s=true∧r=[]∧n=0∧la=1∧lb=0)∨(k=4∧s=[]∧r=[]∧n=0∧la=2∧lb=0)∨
 (k=5∧wLow s=true∧r=[]∧n=0∧la=2∧lb=0)∨(k=6∧wLow s=true∧wLow r=true∧n=0∧la=2∧lb=0)∨(k=7∧s=[]∧r=[]∧n=0∧0<lb∧la=lb+1)∨(k=8∧wUp s=true∧r=[]∧n=0∧lb=0)∨
 (k=9∧pos0 (opN s)=true∧r=[]∧n=0∧la=2∧lb=0)∨(k=10∧s=[]∧r=[]∧n=0∧la=1∧lb=0)
theorem okEx1_inv{k n la:Int}{lb:Nat}{s r:Str}(h:okEx1 k s r n la lb=true):ExK k s r n la lb:=by
 unfold okEx1 at h
 cases hz:((!(k==6)&&!(r==[]))||((!(k==2)&&!(n==0))||(!(k==7)&&pos0 (lb:Int)))) with
 |true=>rw[hz] at h;cases h
 |false=>
  rw[hz,cond_false] at h
  simp only[Bool.or_eq_false_iff,Bool.and_eq_false_iff,Bool.not_eq_false'] at hz
  obtain⟨z1,z2,z3⟩:=hz
  have r0:k≠6→r=[]:=λhk=>by rcases z1 with z|z<;>simp_all
  have n0:k≠2→n=0:=λhk=>by rcases z2 with z|z<;>simp_all
  have b0:k≠7→(lb:Int)=0:=λhk=>by
   rcases z3 with z|z
   ·simp_all
   ·unfold pos0 at z
    have:=of_decide_eq_false z
    omega
  unfold ExK
  by_cases h1:k=1
  ·subst h1;simp at h;exact .inl ⟨rfl,h.1,r0 (by decide),n0 (by decide),h.2,b0 (by decide)⟩
  by_cases h2:k=2
  ·subst h2;simp at h;exact .inr (.inl ⟨rfl,h.1,r0 (by decide),h.2.1,h.2.2,b0 (by decide)⟩)
  by_cases h3:k=3
  ·subst h3;simp at h;exact .inr (.inr (.inl ⟨rfl,h.1,r0 (by decide),n0 (by decide),h.2,b0 (by decide)⟩))
  by_cases h4:k=4
  ·subst h4;simp at h;exact .inr (.inr (.inr (.inl ⟨rfl,h.1,r0 (by decide),n0 (by decide),h.2,b0 (by decide)⟩)))
  by_cases h5:k=5
  ·subst h5;simp at h;exact .inr (.inr (.inr (.inr (.inl ⟨rfl,h.1,r0 (by decide),n0 (by decide),h.2,b0 (by decide)⟩))))
  by_cases h6:k=6
  ·subst h6;simp at h;exact .inr (.inr (.inr (.inr (.inr (.inl ⟨rfl,h.1,h.2.1,n0 (by decide),h.2.2,b0 (by decide)⟩)))))
  by_cases h7:k=7
  ·subst h7;simp at h
   refine .inr (.inr (.inr (.inr (.inr (.inr (.inl ⟨rfl,h.1,r0 (by decide),n0 (by decide),?_,h.2.2⟩))))))
   have:=h.2.1
   unfold pos0 at this
   exact of_decide_eq_true this
  by_cases h8:k=8
  ·subst h8;simp at h;exact .inr (.inr (.inr (.inr (.inr (.inr (.inr (.inl ⟨rfl,h,r0 (by decide),n0 (by decide),b0 (by decide)⟩)))))))
  by_cases h9:k=9
  ·subst h9;simp at h;exact .inr (.inr (.inr (.inr (.inr (.inr (.inr (.inr (.inl ⟨rfl,h.1,r0 (by decide),n0 (by decide),h.2,b0 (by decide)⟩))))))))
  by_cases h10:k=10
  ·subst h10;simp at h;exact .inr (.inr (.inr (.inr (.inr (.inr (.inr (.inr (.inr ⟨rfl,h.1,r0 (by decide),n0 (by decide),h.2,b0 (by decide)⟩))))))))
  ·simp[h1,h2,h3,h4,h5,h6,h7,h8,h9,h10] at h
mutual
theorem lxTy:∀(t:Ty),okTy t=true→∀w,Dl w→Lx (tTy t) (qTy t) w
 |.mk k s n a,h,w,hw=>by
  unfold okTy at h
  rw[Bool.and_eq_true] at h
  have i1:=lxFn a h.2 w hw
  have i2:=lxFs a h.2 w hw
  unfold tTy qTy
  rcases (okTy1_inv h.1).2 with ⟨rfl,_⟩|⟨rfl,hs,_⟩|⟨rfl,_⟩|⟨rfl,hs,_⟩
  ·exact lx_kint hw
  ·exact lx_var hs hw
  ·exact i1
  ·exact Lx.app (lx_low hs (dlFs hw)) i2
theorem lxFn:∀(a:List Ty),okTys a=true→∀w,Dl w→Lx (tFn a) (qFn a) w
 |[],_,w,_=>by unfold tFn qFn;exact .nil
 |x::l,h,w,hw=>by
  unfold okTys at h
  rw[Bool.and_eq_true] at h
  unfold tFn qFn
  exact Lx.app (.brk (lxTy x h.1) dl_sp) (Lx.app lx_to (lxT0 l h.2 w hw))
theorem lxT0:∀(a:List Ty),okTys a=true→∀w,Dl w→Lx (tT0 a) (qT0 a) w
 |[],_,w,_=>by unfold tT0 qT0;exact .nil
 |x::l,h,w,hw=>by
  unfold okTys at h
  rw[Bool.and_eq_true] at h
  unfold tT0 qT0
  exact lxTy x h.1 w hw
theorem lxFs:∀(a:List Ty),okTys a=true→∀w,Dl w→Lx (tFs a) (qFs a) w
 |[],_,w,_=>by unfold tFs qFs;exact .nil
 |x::l,h,w,hw=>by
  unfold okTys at h
  rw[Bool.and_eq_true] at h
  unfold tFs qFs
  exact Lx.app .sp (Lx.app (.brk (lxTy x h.1) (dlFs hw)) (lxFs l h.2 w hw))
end
structure DcW(d:Dc):Prop where
 s:wLow d.s=true
 ps:∀v∈d.ps,wVar v=true
 cs:∀c∈d.cs,wUp c.s=true∧okTys c.fs=true
 ne:d.cs≠[]
end Go.Proofs.YtmlghadphdpbjaaGreatDoor.Pa
namespace Go.Proofs.YtmlghadphdpbjaaGreatDoor.Pa
open Go Go.Proofs.YtmlghadphdpbjaaGreatDoor.Am
def Is(l:List Pk)(ks:List Tk):Prop:=l.map (·.1)=ks
theorem is_app{l:List Pk}{k1 k2:List Tk}(h:Is l (k1++k2)):∃l1 l2,l=l1++l2∧Is l1 k1∧Is l2 k2:=by
 obtain⟨l1,l2,e,h1,h2⟩:=List.map_eq_append_iff.1 h
 exact⟨l1,l2,e,h1,h2⟩
theorem is_nil{l:List Pk}(h:Is l []):l=[]:=List.map_eq_nil_iff.1 h
theorem is_cons{l:List Pk}{k:Tk}{ks:List Tk}(h:Is l ([k]++ks)):∃p l',l=(k,p)::l'∧Is l' ks:=by
 cases l with
 |nil=>cases h
 |cons x l=>
  obtain⟨k',p⟩:=x
  have h:k'::l.map (·.1)=k::ks:=h
  injection h with h1 h2
  subst h1
  exact⟨p,l,rfl,h2⟩
theorem is_one{l:List Pk}{k:Tk}(h:Is l [k]):∃p,l=[(k,p)]:=by
 obtain⟨p,l',rfl,h'⟩:=is_cons (ks:=[]) h
 rw[is_nil h']
 exact⟨p,rfl⟩
theorem is_brk{l:List Pk}{ks:List Tk}(h:Is l (qbrk true ks)):∃p l' q,l=((6,sOpen,0),p)::(l'++[((6,sClose,0),q)])∧Is l' ks:=by
 obtain⟨p,l1,rfl,h1⟩:=is_cons h
 obtain⟨l2,l3,rfl,h2,h3⟩:=is_app h1
 obtain⟨q,rfl⟩:=is_one h3
 exact⟨p,l2,q,rfl,h2⟩
variable{en:Int}
theorem need_hit{k n p:Int}{s:Str}{r:List Pk}:need en k s (((k,s,n),p)::r)=.ok () r:=by simp[need,isK',kdK,txK]
theorem word_hit{k n p:Int}{s:Str}{r:List Pk}:word1 en k (((k,s,n),p)::r)=.ok s r:=by simp[word1,kdK,txK]
theorem ok_bind{α β:Type}{v:α}{r:List Pk}{f:α→List Pk→Res β}:(Res.ok v r).bind f=f v r:=rfl
theorem noTys{a:List Ty}(h:(a.length:Int)=0):a=[]:=List.eq_nil_of_length_eq_zero (by omega)
theorem lowTy_low{s:Str}(h:s≠kInt):lowTy s=.mk 4 s 0 []:=by
 unfold lowTy
 rw[if_neg (by simpa using h)]
theorem twoOf{α:Type}{a:List α}(h:(a.length:Int)=2):∃x y,a=[x,y]:=by
 have h:a.length=2:=by omega
 match a,h with
 |[x,y],_=>exact⟨x,y,rfl⟩
theorem oneOf{α:Type}{a:List α}(h:(a.length:Int)=1):∃x,a=[x]:=by
 have h:a.length=1:=by omega
 match a,h with
 |[x],_=>exact⟨x,rfl⟩
theorem tyHead{t:Ty}{l Y:List Pk}(ho:okTy t=true)(h:Is l (qbrk (kTy t==3||kTy t==4&&!(noTy t)) (qTy t))):tyNext (l++Y)=true∧1≤l.length:=by
 cases hb:(kTy t==3||kTy t==4&&!(noTy t)) with
 |true=>
  rw[hb] at h
  obtain⟨p,l',q,rfl,_⟩:=is_brk h
  exact⟨rfl,by simp⟩
 |false=>
  rw[hb] at h
  obtain⟨k,s,n,a⟩:=t
  have h:Is l (qTy (.mk k s n a)):=h
  unfold okTy at ho
  rw[Bool.and_eq_true] at ho
  unfold qTy at h
  rcases (okTy1_inv ho.1).2 with ⟨rfl,_⟩|⟨rfl,hs,_⟩|⟨rfl,_⟩|⟨rfl,hs,_⟩
  ·obtain⟨p,rfl⟩:=is_one h
   exact⟨rfl,by simp⟩
  ·obtain⟨p,rfl⟩:=is_one h
   exact⟨rfl,by simp⟩
  ·cases hb
  ·obtain⟨p,l',rfl,_⟩:=is_cons h
   exact⟨rfl,by simp⟩
theorem rTy:∀n:Nat,
 (∀(t:Ty) (l X:List Pk),okTy t=true→Is l (qbrk (kTy t==3||kTy t==4&&!(noTy t)) (qTy t))→4*l.length≤n→gTyatom en n (l++X)=.ok t X)∧
 (∀(a:List Ty) (s:Str) (pre:List Ty) (l X:List Pk),okTys a=true→Is l (qFs a)→tyNext X=false→4*l.length+1≤n→gTyArgs en n (.mk 4 s 0 pre) (l++X)=.ok (.mk 4 s 0 (pre++a)) X)∧
 (∀(t:Ty) (l X:List Pk),okTy t=true→(kTy t==3)=false→Is l (qTy t)→tyNext X=false→4*l.length+2≤n→gTyapp en n (l++X)=.ok t X)∧
 (∀(t:Ty) (l X:List Pk),okTy t=true→Is l (qTy t)→tyNext X=false→isK' 6 sArrow X=false→4*l.length+3≤n→gTyp en n (l++X)=.ok t X)
 |0=>⟨λt l X ho h hn=>by have:=(tyHead (Y:=[]) ho h).2;omega,λ_ _ _ _ _ _ _ _ h=>by omega,λ_ _ _ _ _ _ _ h=>by omega,λ_ _ _ _ _ _ _ h=>by omega⟩
 |n+1=>by
  obtain⟨iA,iD,iC,iB⟩:=rTy n
  refine⟨λt l X ho h hn=>?_,λa s pre l X ho h hX hn=>?_,λt l X ho hk h hX hn=>?_,λt l X ho h hX hX2 hn=>?_⟩
  ·cases hb:(kTy t==3||kTy t==4&&!(noTy t)) with
   |true=>
    rw[hb] at h
    obtain⟨p,l',q,rfl,h'⟩:=is_brk h
    simp only[List.length_cons,List.length_append,List.length_nil] at hn
    have:=iB t l' (((6,sClose,0),q)::X) ho h' rfl rfl (by omega)
    rw[gTyatom,List.cons_append,List.append_assoc,if_neg (by simp[kdK]),if_neg (by simp[kdK]),need_hit]
    simp only[ok_bind,List.cons_append,List.nil_append,this,need_hit]
   |false=>
    rw[hb] at h
    obtain⟨k,s,m,a⟩:=t
    have h:Is l (qTy (.mk k s m a)):=h
    unfold okTy at ho
    rw[Bool.and_eq_true] at ho
    obtain⟨rfl,hk⟩:=okTy1_inv ho.1
    unfold qTy at h
    rcases hk with ⟨rfl,rfl,ha⟩|⟨rfl,hs,ha⟩|⟨rfl,_⟩|⟨rfl,hs,hne⟩
    ·obtain⟨p,rfl⟩:=is_one h
     rw[noTys ha]
     rfl
    ·obtain⟨p,rfl⟩:=is_one h
     rw[noTys ha]
     rfl
    ·cases hb
    ·have ha:a=[]:=by
      cases a with
      |nil=>rfl
      |cons x a=>cases hb
     subst ha
     obtain⟨p,l',rfl,h'⟩:=is_cons h
     unfold qFs at h'
     rw[is_nil h',gTyatom]
     show Res.ok (lowTy s) X=_
     rw[lowTy_low hne]
  ·cases a with
   |nil=>
    unfold qFs at h
    rw[is_nil h,List.nil_append,gTyArgs,hX,List.append_nil]
    rfl
   |cons x a=>
    unfold qFs at h
    unfold okTys at ho
    rw[Bool.and_eq_true] at ho
    obtain⟨l1,l2,rfl,h1,h2⟩:=is_app (k1:=qbrk _ _) h
    obtain⟨e1,e2⟩:=tyHead (Y:=l2++X) ho.1 h1
    rw[List.length_append] at hn
    have g1:=iA x l1 (l2++X) ho.1 h1 (by omega)
    have g2:=iD a s (pre++[x]) l2 X ho.2 h2 hX (by omega)
    rw[List.append_assoc,gTyArgs,e1]
    show(gTyatom en n (l1++(l2++X))).bind _=_
    rw[g1]
    show gTyArgs en n (.mk 4 s 0 (pre++[x])) (l2++X)=_
    rw[g2,List.append_assoc]
    rfl
  ·obtain⟨k,s,m,a⟩:=t
   unfold okTy at ho
   rw[Bool.and_eq_true] at ho
   have ho':=ho
   obtain⟨rfl,hk'⟩:=okTy1_inv ho.1
   have hq:=h
   unfold qTy at h
   rcases hk' with ⟨rfl,rfl,ha⟩|⟨rfl,hs,ha⟩|⟨rfl,_⟩|⟨rfl,hs,hne⟩
   ·obtain⟨p,rfl⟩:=is_one h
    obtain⟨j,rfl⟩:∃j,n=j+1:=⟨n-1,by simp only[List.length_cons,List.length_nil] at hn;omega⟩
    rw[noTys ha,gTyapp]
    show gTyArgs en (j+1) (.mk 1 [] 0 []) X=_
    rw[gTyArgs,hX]
    rfl
   ·obtain⟨p,rfl⟩:=is_one h
    rw[gTyapp]
    have:=iA (.mk 2 s 0 a) [((3,s,0),p)] X (by unfold okTy;rw[ho'.1,ho'.2];rfl) (by unfold qTy;exact rfl) (by simp only[List.length_cons,List.length_nil] at hn⊢;omega)
    exact this
   ·cases hk
   ·obtain⟨p,l',rfl,h'⟩:=is_cons h
    rw[gTyapp]
    show gTyArgs en n (lowTy s) (l'++X)=_
    rw[lowTy_low hne,iD a s [] l' X ho.2 h' hX (by simp only[List.length_cons] at hn;omega)]
    rfl
  ·cases hk:kTy t==3 with
   |false=>
    rw[gTyp,iC t l X ho hk h hX (by omega)]
    show(if isK' 6 sArrow X=true then _ else _)=_
    rw[hX2]
    rfl
   |true=>
    obtain⟨k,s,m,a⟩:=t
    unfold okTy at ho
    rw[Bool.and_eq_true] at ho
    obtain⟨rfl,hk'⟩:=okTy1_inv ho.1
    rcases hk' with ⟨rfl,_⟩|⟨rfl,_⟩|⟨rfl,rfl,ha⟩|⟨rfl,_⟩
    ·cases hk
    ·cases hk
    ·obtain⟨x,y,rfl⟩:=twoOf ha
     have ho2:=ho.2
     unfold okTys okTys at ho2
     rw[Bool.and_eq_true,Bool.and_eq_true] at ho2
     unfold qTy at h
     have h:Is l (qFn [x,y]):=h
     unfold qFn qT0 at h
     obtain⟨l1,l2,rfl,h1,h2⟩:=is_app h
     obtain⟨p,l3,rfl,h3⟩:=is_cons h2
     simp only[List.length_append,List.length_cons] at hn
     have g1:gTyapp en n (l1++((((6,sArrow,0),p)::l3)++X))=.ok x ((((6,sArrow,0),p)::l3)++X):=by
      cases hx:kTy x==3 with
      |false=>
       rw[hx] at h1
       exact iC x l1 _ ho2.1 hx h1 rfl (by omega)
      |true=>
       rw[hx] at h1
       have h1':Is l1 (qbrk (kTy x==3||kTy x==4&&!(noTy x)) (qTy x)):=by rw[hx];exact h1
       obtain⟨p',l',q',rfl,_⟩:=is_brk h1
       simp only[List.length_append,List.length_cons,List.length_nil] at hn
       obtain⟨j,rfl⟩:∃j,n=j+1:=⟨n-1,by omega⟩
       obtain⟨jA,_⟩:=rTy j
       rw[gTyapp]
       exact jA x _ _ ho2.1 h1' (by simp only[List.length_append,List.length_cons,List.length_nil];omega)
     have g2:=iB y l3 X ho2.2.1 h3 hX hX2 (by omega)
     rw[List.append_assoc,gTyp,g1]
     show(gTyp en n (l3++X)).bind _=_
     rw[g2]
     rfl
    ·cases hk
abbrev PT:Int→Int→Prop:=λ_ _=>True
theorem ptW_of{k:Int}{s:Str}{n p p':Int}{a a':List Pt}(h:ptsW PT a a'):ptW PT (.mk k s n a p) (.mk k s n a' p'):=by simp[ptW,h]
theorem ptHead{t:Pt}{l Y:List Pk}(ho:okPt t=true)(h:Is l (qbrk (!(noPt t)) (qPt t))):(atNext (l++Y)||isK' 6 sAny (l++Y))=true∧1≤l.length:=by
 cases hb:!(noPt t) with
 |true=>
  rw[hb] at h
  obtain⟨p,l',q,rfl,_⟩:=is_brk h
  exact⟨rfl,by simp⟩
 |false=>
  rw[hb] at h
  obtain⟨k,s,n,a,p⟩:=t
  have h:Is l (qPt (.mk k s n a p)):=h
  unfold okPt at ho
  rw[Bool.and_eq_true] at ho
  unfold qPt at h
  rcases okPt1_inv ho.1 with ⟨rfl,_⟩|⟨rfl,hs,_⟩|⟨rfl,_⟩|⟨rfl,hs,_⟩
  ·obtain⟨p,rfl⟩:=is_one h
   exact⟨rfl,by simp⟩
  ·obtain⟨p,l',rfl,_⟩:=is_cons h
   exact⟨rfl,by simp⟩
  ·obtain⟨p,rfl⟩:=is_one h
   exact⟨rfl,by simp⟩
  ·obtain⟨p,l',rfl,_⟩:=is_cons h
   exact⟨rfl,by simp⟩
theorem noPts{a:List Pt}(h:(a.length:Int)=0):a=[]:=List.eq_nil_of_length_eq_zero (by omega)
theorem rPt:∀n:Nat,
 (∀(t:Pt) (l X:List Pk),okPt t=true→Is l (qbrk (!(noPt t)) (qPt t))→4*l.length≤n→∃t',gPatom en n (l++X)=.ok t' X∧ptW PT t t')∧
 (∀(a:List Pt) (s:Str) (q:Int) (pre:List Pt) (l X:List Pk),okPts a=true→Is l (qPs a)→(atNext X||isK' 6 sAny X)=false→4*l.length+1≤n→∃a',gPatArgs en n (.mk 4 s 0 pre q) (l++X)=.ok (.mk 4 s 0 (pre++a') q) X∧ptsW PT a a')∧
 (∀(t:Pt) (l X:List Pk),okPt t=true→Is l (qPt t)→(atNext X||isK' 6 sAny X)=false→4*l.length+2≤n→∃t',gPat en n (l++X)=.ok t' X∧ptW PT t t')
 |0=>⟨λt l X ho h hn=>by have:=(ptHead (Y:=[]) ho h).2;omega,λ_ _ _ _ _ _ _ _ _ h=>by omega,λ_ _ _ _ _ _ h=>by omega⟩
 |n+1=>by
  obtain⟨iA,iD,iB⟩:=rPt n
  refine⟨λt l X ho h hn=>?_,λa s q pre l X ho h hX hn=>?_,λt l X ho h hX hn=>?_⟩
  ·cases hb:!(noPt t) with
   |true=>
    rw[hb] at h
    obtain⟨p,l',q,rfl,h'⟩:=is_brk h
    simp only[List.length_cons,List.length_append,List.length_nil] at hn
    obtain⟨t',e1,e2⟩:=iB t l' (((6,sClose,0),q)::X) ho h' rfl (by omega)
    refine⟨t',?_,e2⟩
    rw[gPatom,List.cons_append,List.append_assoc,if_neg (by simp[kdK]),if_neg (by simp[isK',kdK,txK,sOpen,sAny]),if_neg (by simp[kdK]),if_neg (by simp[kdK]),need_hit]
    simp only[ok_bind,List.cons_append,List.nil_append,e1,need_hit]
   |false=>
    rw[hb] at h
    obtain⟨k,s,m,a,p0⟩:=t
    have h:Is l (qPt (.mk k s m a p0)):=h
    have ha:a=[]:=by
     cases a with
     |nil=>rfl
     |cons x a=>cases hb
    subst ha
    unfold okPt at ho
    rw[Bool.and_eq_true] at ho
    unfold qPt at h
    have nil:ptsW PT [] []:=p0W
    rcases okPt1_inv ho.1 with ⟨rfl,rfl,rfl,_⟩|⟨rfl,hs,rfl,_⟩|⟨rfl,rfl,_⟩|⟨rfl,hs,rfl⟩
    ·obtain⟨p,rfl⟩:=is_one h
     exact⟨.mk 1 [] 0 [] p,by rw[gPatom];rfl,ptW_of nil⟩
    ·obtain⟨p,l',rfl,h'⟩:=is_cons h
     unfold qPs at h'
     rw[is_nil h']
     exact⟨.mk 2 s 0 [] p,by rw[gPatom];rfl,ptW_of nil⟩
    ·obtain⟨p,rfl⟩:=is_one h
     exact⟨.mk 3 [] m [] p,by rw[gPatom];rfl,ptW_of nil⟩
    ·obtain⟨p,l',rfl,h'⟩:=is_cons h
     unfold qPs at h'
     rw[is_nil h']
     exact⟨.mk 4 s 0 [] p,by rw[gPatom];rfl,ptW_of nil⟩
  ·cases a with
   |nil=>
    unfold qPs at h
    refine⟨[],?_,p0W⟩
    rw[is_nil h,List.nil_append,gPatArgs,hX,List.append_nil]
    rfl
   |cons x a=>
    unfold qPs at h
    unfold okPts at ho
    rw[Bool.and_eq_true] at ho
    obtain⟨l1,l2,rfl,h1,h2⟩:=is_app (k1:=qbrk _ _) h
    obtain⟨e1,e2⟩:=ptHead (Y:=l2++X) ho.1 h1
    rw[List.length_append] at hn
    obtain⟨x',g1,gx⟩:=iA x l1 (l2++X) ho.1 h1 (by omega)
    obtain⟨a',g2,ga⟩:=iD a s q (pre++[x']) l2 X ho.2 h2 hX (by omega)
    refine⟨x'::a',?_,pcW gx ga⟩
    rw[List.append_assoc,gPatArgs,e1]
    show(gPatom en n (l1++(l2++X))).bind _=_
    rw[g1]
    show gPatArgs en n (.mk 4 s 0 (pre++[x']) q) (l2++X)=_
    rw[g2,List.append_assoc]
    rfl
  ·obtain⟨k,s,m,a,p0⟩:=t
   have ho0:=ho
   have hq:=h
   unfold okPt at ho
   rw[Bool.and_eq_true] at ho
   unfold qPt at h
   have atom:∀p tk,a=[]→l=[(tk,p)]→tk.1≠2→∃t',gPat en (n+1) (l++X)=.ok t' X∧ptW PT (.mk k s m a p0) t':=λp tk ha hl hk=>by
    subst ha hl
    obtain⟨t',e1,e2⟩:=iA (.mk k s m [] p0) [(tk,p)] X ho0 hq (by simp only[List.length_cons,List.length_nil] at hn⊢;omega)
    refine⟨t',?_,e2⟩
    rw[gPat]
    have:(kdK ((tk,p)::X)==2)=false:=by simpa[kdK] using hk
    show(if (kdK ((tk,p)::X)==2)=true then _ else _)=_
    rw[this]
    exact e1
   rcases okPt1_inv ho.1 with ⟨rfl,rfl,rfl,ha⟩|⟨rfl,hs,rfl,ha⟩|⟨rfl,rfl,_,ha⟩|⟨rfl,hs,rfl⟩
   ·obtain⟨p,rfl⟩:=is_one h
    exact atom p _ (noPts ha) rfl (by simp)
   ·obtain⟨p,l',rfl,h'⟩:=is_cons h
    rw[noPts ha] at h'
    unfold qPs at h'
    rw[is_nil h'] at atom⊢
    exact atom p _ (noPts ha) rfl (by simp)
   ·obtain⟨p,rfl⟩:=is_one h
    exact atom p _ (noPts ha) rfl (by simp)
   ·obtain⟨p,l',rfl,h'⟩:=is_cons h
    obtain⟨a',e1,e2⟩:=iD a s p [] l' X ho.2 h' hX (by simp only[List.length_cons] at hn;omega)
    refine⟨.mk 4 s 0 a' p,?_,ptW_of e2⟩
    rw[gPat]
    exact e1
end Go.Proofs.YtmlghadphdpbjaaGreatDoor.Pa
