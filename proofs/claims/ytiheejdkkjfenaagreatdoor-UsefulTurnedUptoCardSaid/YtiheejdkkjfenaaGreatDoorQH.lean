/- Regions, told as propositions. Regions that draw, told as propositions: they are so. Code, told as a proposition: functions and their loops. Functions and loops by name. Maps that are numbered: what they hold, as a function of the key. -/
import Derived.Test.YtiheejdkkjfenaaGreatDoorQG
set_option linter.all false
set_option autoImplicit false
namespace Go.Proofs.YtiheejdkkjfenaaGreatDoor.Am
open Go
variable(T:Tb)
def SSt.know(s:SSt)(t:Nat)(b:Bool):SSt:=
 match s.regs.get t with
 |some (.v ty (.bool _))=>{s with regs:=s.regs.set t (.v ty (.bool b))}
 |_=>s
def sWant(ops:Array Oper)(o:Oper)(s:SSt)(go skip:SSt→Prop):Prop:=
 match o.guard with
 |none=>go s
 |some (j,b)=>match (ops[j]?).bind (·.dst) with
  |some t=>(match s.regs.get t with
   |some (.v _ (.bool c))=>(match b with|true=>Br c (go (s.know t true)) (skip (s.know t false))|false=>Br c (skip (s.know t true)) (go (s.know t false)))
   |some .off=>skip s
   |_=>False)
  |none=>False
def panicD(s:SSt)(x:Operand):Option Dat:=
 match x with
 |.tmp i=>(match s.regs.get i with|some (.v _ (.iface t d))=>some (.iface t d)|_=>none)
 |_=>none
def pinS(s:SSt):List ResultVar→Option (List (Nat×Nat×Nat))
 |[]=>some []
 |.cell t _::l=>(match s.regs.get t,pinS s l with
  |some (.v _ (.ptr (some (i,o)))),some r=>some ((t,i,o)::r)
  |_,_=>none)
 |.tmp _::l=>pinS s l
def sDefer(o:Oper)(c:Call)(s:SSt)(N:SSt→Prop):Prop:=
 match c.callee with
 |.value f=>(match s.fn f,argsS T s c.args.toList c.argTypes.toList,pinS s s.res with
  |some (fn,[],cap),some ds,some pin=>if notPinned pin o.dst then N ({s with defs:=(fn,ds++cap)::s.defs,pin:=pin}.put o.dst .junk) else False
  |_,_,_=>False)
 |_=>False
def sxOps(rk:FuncId→RK)(ops:Array Oper)(P:Dat→Glob→Prop)(N:SSt→Prop):List Oper→SSt→Prop
 |[],s=>N s
 |o::l,s=>
  if dstOk s.nt o.dst&&notPinned s.pin o.dst then
   sWant ops o s (λs=>match o.op with
    |.defer c=>(match l with
     |[]=>sDefer T o c s N
     |_=>False)
    |.call ⟨.value f,args,ats⟩=>sCall T rk o ⟨.value f,args,ats⟩ s P λ_ s'=>sxOps rk ops P N l s'
    |.call ⟨.invoke f m,args,ats⟩=>sCall T rk o ⟨.invoke f m,args,ats⟩ s P λ_ s'=>sxOps rk ops P N l s'
    |.panic x=>(match panicD s x with|some d=>P d s.glob|none=>False)
    |_=>sxOp T o s λ_ s'=>sxOps rk ops P N l s')
    (λs=>sxOps rk ops P N l (s.put o.dst .off))
  else False
structure SEnt where
 i:Nat
 ft:SFeet
 g0:Glob
 g1:Glob
def GSame(t:TypeId)(i o:Nat)(g0 g1:Glob):Prop:=∃a b,gload T t g0 i o=some a∧gload T t g1 i o=some b∧a.same b=true
def MSame(g0 g1:Glob)(i:Nat)(k:Dat):Prop:=∃r,glook g0 i k=some r∧glook g1 i k=some r
def LSame(g0 g1:Glob)(i:Nat):Prop:=∃n,gmlen g0 i=some n∧gmlen g1 i=some n
def RSame(r:Rd)(g0 g1:Glob):Prop:=
 match r with
 |.cell t i o=>GSame T t i o g0 g1
 |.map i _ k _=>MSame g0 g1 i k
 |.size i=>LSame g0 g1 i
def boxApart(a b:SFeet):Bool:=
 match a.box,b.box with
 |some (k,w),some (k',w')=>k !=k'||(!w&&!w')
 |_,_=>true
def tokApart(a b:SFeet):Bool:=a.toks.all λk=>!(b.toks.contains k)
def apartK(bf:Array Nat)(b:SEnt)(K:Prop):List SEnt→Prop
 |[]=>K
 |a::l=>
  if (bf.getD b.i 0).testBit a.i then apartK bf b K l
  else if boxApart a.ft b.ft&&tokApart a.ft b.ft&&!(a.ft.wr&&b.ft.wr)&&!((a.ft.rd.isSome&&a.ft.wr)||(b.ft.rd.isSome&&b.ft.wr)) then
   (match a.ft.rd,b.ft.wr with
   |some r,true=>RSame T r b.g0 b.g1∧apartK bf b K l
   |_,_=>(match b.ft.rd,a.ft.wr with
    |some r,true=>RSame T r a.g0 a.g1∧apartK bf b K l
    |_,_=>apartK bf b K l))
  else False
def callFt(dst:Option Nat):SFeet:={toks:=dst.toList,wr:=true}
def sxD(rk:FuncId→RK)(ops:Array Oper)(bf:Array Nat):Nat→List Nat→SSt→List SEnt→(Dat→Glob→Prop)→(SSt→Prop)→Prop
 |0,_,_,_,_,_=>False
 |_+1,[],s,_,_,N=>N s
 |n+1,i::l,s,pre,P,N=>
  match ops[i]? with
  |none=>False
  |some o=>
   if (dstOk s.nt o.dst&&notPinned s.pin o.dst)&&(isDefer o.op).isNone then
    sWant ops o s (λs=>match o.op with
     |.call ⟨.value f,args,ats⟩=>sCall T rk o ⟨.value f,args,ats⟩ s
      (λx g=>apartK T bf ⟨i,callFt o.dst,s.glob,s.glob⟩ (sxD rk ops bf n (l.filter λj=>!(bf.getD j 0).testBit i) s (⟨i,callFt o.dst,s.glob,s.glob⟩::pre) (λ_ _=>False) (λ_=>P x g)) pre)
      (λg s'=>apartK T bf ⟨i,callFt o.dst,s.glob,g⟩ (sxD rk ops bf n l s' (⟨i,callFt o.dst,s.glob,g⟩::pre) P N) pre)
     |.call ⟨.invoke f m,args,ats⟩=>sCall T rk o ⟨.invoke f m,args,ats⟩ s
      (λx g=>apartK T bf ⟨i,callFt o.dst,s.glob,s.glob⟩ (sxD rk ops bf n (l.filter λj=>!(bf.getD j 0).testBit i) s (⟨i,callFt o.dst,s.glob,s.glob⟩::pre) (λ_ _=>False) (λ_=>P x g)) pre)
      (λg s'=>apartK T bf ⟨i,callFt o.dst,s.glob,g⟩ (sxD rk ops bf n l s' (⟨i,callFt o.dst,s.glob,g⟩::pre) P N) pre)
     |.panic x=>(match panicD s x with
      |some d=>apartK T bf ⟨i,{wr:=true},s.glob,s.glob⟩ (sxD rk ops bf n (l.filter λj=>!(bf.getD j 0).testBit i) s (⟨i,{wr:=true},s.glob,s.glob⟩::pre) (λ_ _=>False) (λ_=>P d s.glob)) pre
      |none=>False)
     |_=>sxOp T o s λft s'=>apartK T bf ⟨i,ft,s.glob,s'.glob⟩ (sxD rk ops bf n l s' (⟨i,ft,s.glob,s'.glob⟩::pre) P N) pre)
     (λs=>apartK T bf ⟨i,{},s.glob,s.glob⟩ (sxD rk ops bf n l (s.put o.dst .off) (⟨i,{},s.glob,s.glob⟩::pre) P N) pre)
   else False
section
variable{T:Tb}{ops:Array Oper}{bf:Array Nat}{s s':SSt}{st st':St}{o:Oper}{rk:FuncId→RK}
theorem know_ok{t:Nat}{b c:Bool}{ty:TypeId}(hc:Conc T s st)(hs:s.regs.get t=some (.v ty (.bool c)))(e:c=b):Conc T (s.know t b) st:=by
 subst e
 unfold SSt.know
 rw[hs]
 refine⟨hc.nt,hc.esc,hc.res,hc.defs,hc.pin,hc.glob,λt' sv ht=>?_,hc.boxes⟩
 rw[Mp.get_set] at ht
 split at ht
 ·rename_i e
  cases ht
  rw[←e]
  exact hc.regs t _ hs
 ·exact hc.regs t' sv ht
theorem want_ok{go skip:SSt→Prop}(h:sWant ops o s go skip)(hc:Conc T s st):(wantedA ops o st.regs=some true∧∃s',go s'∧Conc T s' st)∨(wantedA ops o st.regs=some false∧∃s',skip s'∧Conc T s' st):=by
 unfold sWant at h
 unfold wantedA
 split at h
 ·rename_i hg;rw[hg];exact .inl ⟨rfl,s,h,hc⟩
 ·rename_i j b hg
  rw[hg]
  simp only
  split at h
  ·rename_i t ht
   rw[ht]
   simp only
   split at h
   ·rename_i u c hs
    obtain⟨v,h1,h2,_⟩:=hc.regs t _ hs
    have:=toD_plain h2 rfl
    subst this
    rw[h1]
    cases b<;>cases c<;>simp only[Br] at h
    ·exact .inl ⟨rfl,_,h,know_ok hc hs rfl⟩
    ·exact .inr ⟨rfl,_,h,know_ok hc hs rfl⟩
    ·exact .inr ⟨rfl,_,h,know_ok hc hs rfl⟩
    ·exact .inl ⟨rfl,_,h,know_ok hc hs rfl⟩
   ·rename_i hs
    obtain⟨v,h1,h2⟩:=hc.regs t _ hs
    have:v=.tuple []:=h2
    subst this
    rw[h1]
    exact .inr ⟨rfl,s,h,hc⟩
   ·exact h.elim
  ·exact h.elim
theorem dst_ok(h:(dstOk s.nt o.dst&&notPinned s.pin o.dst)=true)(hc:Conc T s st):(dstOk st.nt o.dst&&notPinned st.pin o.dst)=true:=by
 rw[hc.nt,hc.pin]
 exact h
theorem panicD_ok{x:Operand}{d:Dat}(h:panicD s x=some d)(hc:Conc T s st):∃t y,d=.iface t y∧Am.ev st.regs x=.d (.iface t y):=by
 unfold panicD at h
 cases x with
 |tmp i=>
  simp only at h
  split at h
  ·rename_i u t y hs
   cases h
   obtain⟨v,h1,h2,_⟩:=hc.regs i _ hs
   exact⟨t,y,rfl,by simp only[Am.ev,h1,Option.getD_some];exact toD_plain h2 rfl⟩
  ·cases h
 |_=>cases h
theorem sCall_ok{c:Call}{P:Dat→Glob→Prop}{N:Glob→SSt→Prop}(h:sCall T rk o c s P N)(hc:Conc T s st):
 ∃fn ds,CalleeA T (Am.ev st.regs) c fn ds∧
  EvF T fn ds st.glob (λout g=>Outc (λx=>P x g) (λv=>∃s',N g s'∧Conc T s' (backA st o.dst v g)) out):=by
 have key:∀{rk:RK} {fn:FuncId} {ds:List Dat},EvF T fn ds s.glob (λout g=>sOut T rk o s P N out g)→
  EvF T fn ds st.glob (λout g=>Outc (λx=>P x g) (λv=>∃s',N g s'∧Conc T s' (backA st o.dst v g)) out):=λ{rk fn ds} h=>by
  rw[hc.glob]
  refine h.mono λout g ho=>?_
  cases out with
  |panic x=>exact ho
  |val v=>
   have ho:(match o.dst with|none=>N g (setG s g)|some k=>sBack T rk k o.type (setG s g) v (N g)):=ho
   show ∃s',N g s'∧Conc T s' (backA st o.dst v g)
   cases hd:o.dst with
   |none=>rw[hd] at ho;exact⟨_,ho,hc.glob' g⟩
   |some k=>rw[hd] at ho;exact sBack_ok ho hc
 unfold sCall at h
 split at h
 ·rename_i ds ha
  have ha:=hc.args ha
  split at h
  ·rename_i fo hfo
   split at h
   ·rename_i fn fst cap hf
    rcases hc.fn hf with ⟨rfl,hq⟩|⟨r,rfl,rfl,hq⟩
    ·exact⟨fn,_,⟨ds,ha,.inl ⟨fo,cap,hfo,hq,rfl⟩⟩,key h⟩
    ·exact⟨fn,_,⟨ds,ha,.inr (.inl ⟨fo,r,hfo,hq,by simp⟩)⟩,key h⟩
   ·split at h
    ·rename_i x hx
     split at h
     ·obtain⟨fn,r,rfl,h⟩:=h
      exact⟨fn,_,⟨ds,ha,.inr (.inl ⟨fo,r,hfo,hc.fnx hx rfl,rfl⟩)⟩,key h⟩
     ·obtain⟨fn,cap,rfl,h⟩:=h
      exact⟨fn,_,⟨ds,ha,.inl ⟨fo,cap,hfo,hc.fnx hx rfl,rfl⟩⟩,key h⟩
    ·exact h.elim
  ·rename_i r m hr
   split at h
   ·rename_i x hx
    obtain⟨t,v,fn,rfl,hm,h⟩:=h
    exact⟨fn,_,⟨ds,ha,.inr (.inr ⟨r,m,t,v,hr,hc.fnx hx rfl,hm,rfl⟩)⟩,key h⟩
   ·exact h.elim
  ·exact h.elim
 ·exact h.elim
theorem callee_kind{dst:Option Nat}{c:Call}{ty:TypeId}{pos:String}{after:Array Edge}{guard:Option (Nat×Bool)}{fn:FuncId}{ds:List Dat}(hw:wantedA ops ⟨dst,.call c,ty,pos,after,guard⟩ st.regs=some true)(h:CalleeA T (Am.ev st.regs) c fn ds)(R:Caller):
 kindA T R ops ⟨dst,.call c,ty,pos,after,guard⟩ st=some (doCall R fn ds dst):=by
 obtain⟨callee,args,ats⟩:=c
 obtain⟨xs,hx,⟨fo,cap,hc,hf,rfl⟩|⟨fo,r,hc,hf,rfl⟩|⟨r,m,t,v,hc,hr,hm,rfl⟩⟩:=h
 ·simp only at hc hx
  subst hc
  unfold kindA
  rw[hw]
  simp only[doing,hf,hx]
 ·simp only at hc hx
  subst hc
  unfold kindA
  rw[hw]
  simp only[doing,hf,hx]
 ·simp only at hc hx
  subst hc
  unfold kindA
  rw[hw]
  simp only[doing,hr,hx,hm]
theorem callee_step{dst:Option Nat}{c:Call}{ty:TypeId}{pos:String}{after:Array Edge}{guard:Option (Nat×Bool)}{fn:FuncId}{ds:List Dat}(hd:(dstOk st.nt dst&&notPinned st.pin dst)=true)(hw:wantedA ops ⟨dst,.call c,ty,pos,after,guard⟩ st.regs=some true)(h:CalleeA T (Am.ev st.regs) c fn ds)(R:Caller):
 (∀v g',R fn ds st.glob=some (.val v,g')→∃u,stepA T R ops ⟨dst,.call c,ty,pos,after,guard⟩ st=some (.val u,backA st dst v g'))∧
 (∀x g',R fn ds st.glob=some (.panic x,g')→stepA T R ops ⟨dst,.call c,ty,pos,after,guard⟩ st=some (.panic x,{st with glob:=g'})):=by
 have hk:=callee_kind hw h R
 have hs:stepA T R ops ⟨dst,.call c,ty,pos,after,guard⟩ st=doA T R ops ⟨dst,.call c,ty,pos,after,guard⟩ st:=by
  unfold stepA
  simp only[hd,if_true]
  rfl
 refine⟨λv g' hr=>?_,λx g' hr=>?_⟩
 ·rw[hs]
  unfold doA
  rw[hk]
  cases dst with
  |none=>simp only[doCall,Doing.apply,Doing.look,Doing.put,hr];exact⟨_,rfl⟩
  |some k=>
   simp only[doCall,Doing.apply,Doing.look,Doing.put,hr,backA]
   cases had:adopt k (genOf (st.toks.get k)) v with
   |mk v' q=>cases q<;>exact⟨_,rfl⟩
 ·rw[hs]
  unfold doA
  rw[hk]
  cases dst with
  |none=>simp only[doCall,Doing.apply,Doing.look,Doing.put,hr]
  |some k=>simp only[doCall,Doing.apply,Doing.look,Doing.put,hr]
theorem EvO.callc{l:List Oper}{K:Option Dat→St→Prop}{dst:Option Nat}{c:Call}{ty:TypeId}{pos:String}{after:Array Edge}{guard:Option (Nat×Bool)}{fn:FuncId}{ds:List Dat}
 (hd:(dstOk st.nt dst&&notPinned st.pin dst)=true) (hw:wantedA ops ⟨dst,.call c,ty,pos,after,guard⟩ st.regs=some true) (hf:CalleeA T (Am.ev st.regs) c fn ds)
 (h:EvF T fn ds st.glob (CallK T ops l st dst K)):EvO T ops (⟨dst,.call c,ty,pos,after,guard⟩::l) st K:=by
 obtain⟨out,g',hq,n,h⟩:=h
 cases out with
 |val v=>
  obtain⟨p,st2,hq2,n2,h2⟩:=hq
  refine⟨p,st2,hq2,n+n2,λm hm=>?_⟩
  have h2:=h2 m (by omega)
  obtain⟨u,hst⟩:=(callee_step hd hw hf (run T m)).1 v g' (h m (by omega))
  simp only[regionA,hst,h2]
 |panic x=>
  refine⟨_,_,hq,n,λm hm=>?_⟩
  have hst:=(callee_step hd hw hf (run T m)).2 x g' (h m hm)
  simp only[regionA,hst]
theorem EvO.out{l:List Oper}{K:Option Dat→St→Prop}{dst:Option Nat}{out:Out}{g:Glob}(h:Outc (λx=>K (some x) {st with glob:=g}) (λv=>EvO T ops l (backA st dst v g) K) out):CallK T ops l st dst K out g:=by
 cases out<;>exact h
theorem pinS_ok(hc:Conc T s st):∀{l:List ResultVar} {pin:List (Nat×Nat×Nat)},pinS s l=some pin→pinAll st.regs l=some pin
 |[],pin,h=>by cases h;rfl
 |.tmp _::l,pin,h=>pinS_ok hc (l:=l) h
 |.cell t u::l,pin,h=>by
  simp only[pinS] at h
  split at h
  ·rename_i ty i o r h1 h2
   cases h
   obtain⟨v,k1,k2,_⟩:=hc.regs t _ h1
   have:=toD_plain k2 rfl
   subst this
   simp only[pinAll,k1,pinS_ok hc h2]
  ·cases h
theorem apply_defs{A:Doing}{out:Out}{s1:St}(h:A.apply st=some (out,s1)):s1.defs=st.defs∧s1.pin=st.pin:=by
 unfold Doing.apply at h
 split at h
 ·cases h;exact⟨rfl,rfl⟩
 ·cases h
theorem put_defs{d:Option Nat}{v:Val}:(st.put d v).defs=st.defs∧(st.put d v).pin=st.pin:=by cases d<;>exact⟨rfl,rfl⟩
theorem back_defs{d:Option Nat}{v:Val}{g:Glob}:(backA st d v g).defs=st.defs∧(backA st d v g).pin=st.pin:=by
 unfold backA
 cases d with
 |none=>exact⟨rfl,rfl⟩
 |some k=>
  simp only
  split<;>exact⟨rfl,rfl⟩
theorem sDefer_ok{c:Call}{N:SSt→Prop}(h:sDefer T o c s N)(hc:Conc T s st):∃st1,deferA c o st=some (.val .undef,st1)∧∃s',N s'∧Conc T s' st1:=by
 unfold sDefer at h
 unfold deferA
 split at h
 ·rename_i f hf
  split at h
  ·rename_i fn cap ds pin h1 h2 h3
   split at h
   ·rename_i hp
    rw[hf]
    have h4:=pinS_ok hc h3
    rw[←hc.res] at h4
    have h1':Am.ev st.regs f=.d (.clo fn cap):=by
     rcases hc.fn h1 with ⟨_,q⟩|⟨r,e,_⟩
     ·exact q
     ·cases e
    simp only[h1',hc.args h2,h4,hp,if_true]
    refine⟨_,rfl,_,h,?_⟩
    have h0:Conc T {s with defs:=(fn,ds++cap)::s.defs,pin:=pin} {st with defs:=(fn,ds++cap)::st.defs,pin:=pin}:=
     ⟨hc.nt,hc.esc,hc.res,by rw[hc.defs],rfl,hc.glob,hc.regs,hc.boxes⟩
    exact h0.put (sv:=.junk) (v:=.undef) _ trivial
   ·exact h.elim
  ·exact h.elim
 ·exact h.elim
theorem sxOps_ok{P:Dat→Glob→Prop}{N:SSt→Prop}{D0:List (FuncId×List Dat)}{P0:List (Nat×Nat×Nat)}:∀{l:List Oper} {s:SSt} {st:St} {K:Option Dat→St→Prop},sxOps T rk ops P N l s→Conc T s st→st.defs=D0→st.pin=P0→
 (∀s' st',N s'→Conc T s' st'→K none st')→(∀x g st',P x g→st'.glob=g→st'.defs=D0→st'.pin=P0→K (some x) st')→EvO T ops l st K
 |[],s,st,K,h,hc,hd0,hp0,hN,hP=>EvO.nil (hN _ _ h hc)
 |o::l,s,st,K,h,hc,hd0,hp0,hN,hP=>by
  unfold sxOps at h
  split at h
  ·rename_i hd
   have hd':=dst_ok hd hc
   rcases want_ok h hc with ⟨hw,s,h,hc⟩|⟨hw,s,h,hc⟩
   ·split at h
    ·rename_i c hop
     split at h
     ·obtain⟨st1,k1,s',k2,k3⟩:=sDefer_ok h hc
      refine EvO.step (st1:=st1) (v:=.undef) (λR=>?_) (EvO.nil (hN _ _ k2 k3))
      unfold stepA
      rw[hd']
      simp only[if_true,hop,isDefer,hw,k1]
     ·exact h.elim
    ·rename_i f args ats hop
     obtain⟨fn,ds,h1,h3⟩:=sCall_ok h hc
     obtain⟨dst,op,ty,pos,after,guard⟩:=o
     simp only at hop
     subst hop
     refine EvO.callc hd' hw h1 (h3.mono λout g ho=>EvO.out ?_)
     cases out with
     |panic x=>exact hP x g _ ho rfl hd0 hp0
     |val v=>
      obtain⟨s',k1,k2⟩:=ho
      exact sxOps_ok k1 k2 (back_defs.1.trans hd0) (back_defs.2.trans hp0) hN hP
    ·rename_i f m args ats hop
     obtain⟨fn,ds,h1,h3⟩:=sCall_ok h hc
     obtain⟨dst,op,ty,pos,after,guard⟩:=o
     simp only at hop
     subst hop
     refine EvO.callc hd' hw h1 (h3.mono λout g ho=>EvO.out ?_)
     cases out with
     |panic x=>exact hP x g _ ho rfl hd0 hp0
     |val v=>
      obtain⟨s',k1,k2⟩:=ho
      exact sxOps_ok k1 k2 (back_defs.1.trans hd0) (back_defs.2.trans hp0) hN hP
    ·rename_i x hop
     split at h
     ·rename_i d hpd
      obtain⟨t,y,rfl,he⟩:=panicD_ok hpd hc
      refine EvO.panic (x:=.iface t y) (st1:=st) (λR=>?_) (hP _ _ _ h hc.glob hd0 hp0)
      unfold stepA
      rw[hd']
      simp only[if_true,hop,isDefer,doA,kindA,hw,doing,he,Doing.apply,Doing.look,Doing.put]
     ·exact h.elim
    ·obtain⟨hdf,A,v,s1,ft,s',a1,a2,a3,a4,a5⟩:=sxOp_ok h hc
     rw[Bool.and_eq_true] at hd'
     exact EvO.step (λR=>stepA_val hdf hd'.1 hd'.2 (kindOn hw (a1 R)) a2) (sxOps_ok a4 a5 (put_defs.1.trans ((apply_defs a2).1.trans hd0)) (put_defs.2.trans ((apply_defs a2).2.trans hp0)) hN hP)
   ·have hcs:Conc T (s.put o.dst .off) (st.put o.dst (.tuple [])):=hc.put _ rfl
    rw[Bool.and_eq_true] at hd'
    cases hdf:isDefer o.op with
    |none=>exact EvO.step (λR=>stepA_val hdf hd'.1 hd'.2 (kindOff hw) (ret_apply _ _)) (sxOps_ok h hcs (put_defs.1.trans hd0) (put_defs.2.trans hp0) hN hP)
    |some c=>
     refine EvO.step (v:=.undef) (λR=>?_) (sxOps_ok h hcs (put_defs.1.trans hd0) (put_defs.2.trans hp0) hN hP)
     unfold stepA
     rw[hd'.1,hd'.2]
     simp only[Bool.and_self,if_true,hdf,hw]
  ·exact h.elim
theorem skOk_snoc{a:List Sk}{b:Sk}:skOk bf (a++[b])=true↔skOk bf a=true∧∀c∈a,((bf.getD b.i 0).testBit c.i||c.apart b)=true:=by
 induction a with
 |nil=>simp[skOk]
 |cons c a ih=>
  simp only[List.cons_append,skOk,Bool.and_eq_true,ih,List.all_append,List.all_cons,List.all_nil,Bool.and_true,List.all_eq_true]
  constructor
  ·rintro ⟨⟨h1,h2⟩,h3,h4⟩
   refine⟨⟨h1,h3⟩,λd hd=>?_⟩
   rcases List.mem_cons.1 hd with rfl|hd
   ·exact h2
   ·exact h4 d hd
  ·rintro ⟨⟨h1,h3⟩,h4⟩
   exact⟨⟨h1,h4 c List.mem_cons_self⟩,h3,λd hd=>h4 d (List.mem_cons_of_mem _ hd)⟩
def EntOk(T:Tb)(e:SEnt)(k:Sk):Prop:=
 e.i=k.i∧e.g0=k.g0∧e.g1=k.g1∧(∀p,k.feet.box=some p→e.ft.box=some p)∧(∀t,k.feet.tok=some t→t∈e.ft.toks)∧
 (k.feet.glob=some false→k.feet.box=none∧k.feet.tok=none∧∃r f,e.ft.rd=some r∧k.rd=some f∧∀g,f g=Rd.read T r g)∧(k.feet.glob=some true→e.ft.wr=true)
theorem found_same(z:Dat)(ok:Bool)(r:Option (Nat×Dat)):(found z ok r).same (found z ok r)=true:=by
 cases ok<;>cases r<;>simp[found,Val.same,Dat.beq_refl]
theorem same_of_gsame{r:Rd}{g0 g1:Glob}{f:Glob→Option Val}(h:RSame T r g0 g1)(hf:∀g,f g=Rd.read T r g):rdOk (some f) g0 g1=true:=by
 show sameRead f g0 g1=true
 unfold sameRead
 rw[hf,hf]
 cases r with
 |cell t i o=>
  obtain⟨a,b,h1,h2,h3⟩:=h
  simp only[Rd.read,h1,h2]
  exact h3
 |map i z k ok=>
  obtain⟨r,h1,h2⟩:=h
  simp only[Rd.read,h1,h2,Option.map_some]
  exact found_same _ _ _
 |size i=>
  obtain⟨n,h1,h2⟩:=h
  simp only[Rd.read,h1,h2,Option.map_some]
  simp[Val.same,Dat.beq]
theorem apart_ok{a b:SEnt}{k k':Sk}(ha:EntOk T a k)(hb:EntOk T b k')(h1:boxApart a.ft b.ft=true)(h2:tokApart a.ft b.ft=true)(h3:(!(a.ft.wr&&b.ft.wr))=true)
 (h4:∀r,a.ft.rd=some r→b.ft.wr=true→RSame T r b.g0 b.g1) (h5:∀r,b.ft.rd=some r→a.ft.wr=true→RSame T r a.g0 a.g1):k.apart k'=true:=by
 obtain⟨a1,a2,a3,a4,a5,a6,a7⟩:=ha
 obtain⟨b1,b2,b3,b4,b5,b6,b7⟩:=hb
 unfold Sk.apart
 simp only[Bool.and_eq_true]
 refine⟨⟨?_,?_⟩,?_⟩
 ·cases hx:k.feet.box with
  |none=>rfl
  |some p=>
   cases hy:k'.feet.box with
   |none=>rfl
   |some q=>
    unfold boxApart at h1
    rw[a4 _ hx,b4 _ hy] at h1
    exact h1
 ·cases hx:k.feet.tok with
  |none=>rfl
  |some p=>
   cases hy:k'.feet.tok with
   |none=>rfl
   |some q=>
    unfold tokApart at h2
    have:=(List.all_eq_true.1 h2) p (a5 _ hx)
    simp only[bne_iff_ne,ne_eq]
    intro e
    subst e
    have hc:b.ft.toks.contains p=true:=by simpa using b5 _ hy
    rw[hc] at this
    cases this
 ·cases hx:k.feet.glob with
  |none=>rfl
  |some c=>
   cases hy:k'.feet.glob with
   |none=>cases c<;>rfl
   |some d=>
    cases c<;>cases d
    ·rfl
    ·obtain⟨x1,x2,r,f,x3,x4,x5⟩:=a6 hx
     simp only[x1,x2,Option.isNone_none,Bool.true_and]
     rw[x4,←b2,←b3]
     exact same_of_gsame (h4 r x3 (b7 hy)) x5
    ·obtain⟨x1,x2,r,f,x3,x4,x5⟩:=b6 hy
     simp only[x1,x2,Option.isNone_none,Bool.true_and]
     rw[x4,←a2,←a3]
     exact same_of_gsame (h5 r x3 (a7 hx)) x5
    ·rw[a7 hx,b7 hy] at h3
     cases h3
theorem apartK_ok{b:SEnt}{k':Sk}{K:Prop}(hb:EntOk T b k'):∀{pre:List SEnt} {ks:List Sk},Els (EntOk T) pre ks→apartK T bf b K pre→K∧∀c∈ks,((bf.getD k'.i 0).testBit c.i||c.apart k')=true
 |[],ks,he,h=>by
  have:ks=[]:=List.eq_nil_of_length_eq_zero he.1.symm
  subst this
  exact⟨h,λc hc=>by cases hc⟩
 |a::pre,ks,he,h=>by
  cases ks with
  |nil=>cases he.1
  |cons k ks=>
   obtain⟨ha,hr⟩:=he.tail
   have key:∀{Q:Prop},(apartK T bf b K pre→((bf.getD k'.i 0).testBit k.i||k.apart k')=true→Q)→True:=λ_=>trivial
   have fin:apartK T bf b K pre→((bf.getD k'.i 0).testBit k.i||k.apart k')=true→K∧∀c∈k::ks,((bf.getD k'.i 0).testBit c.i||c.apart k')=true:=λh1 h2=>by
    obtain⟨k1,k2⟩:=apartK_ok hb hr h1
    refine⟨k1,λc hc=>?_⟩
    rcases List.mem_cons.1 hc with rfl|hc
    ·exact h2
    ·exact k2 c hc
   unfold apartK at h
   split at h
   ·rename_i ht
    rw[hb.1,ha.1] at ht
    exact fin h (by rw[ht];rfl)
   ·split at h
    ·rename_i hap
     simp only[Bool.and_eq_true] at hap
     obtain⟨⟨⟨h1,h2⟩,h3⟩,h6⟩:=hap
     have h6:(a.ft.rd.isSome&&a.ft.wr)=false∧(b.ft.rd.isSome&&b.ft.wr)=false:=by
      rw[Bool.not_eq_true',Bool.or_eq_false_iff] at h6
      exact h6
     split at h
     ·rename_i r hrd hwr
      refine fin h.2 ?_
      rw[apart_ok ha hb h1 h2 h3 (λr' hr' hw'=>by rw[hrd] at hr';cases hr';exact h.1) (λr' hr' hw'=>by rw[hr',hwr] at h6;cases h6.2),Bool.or_true]
     ·rename_i hno
      split at h
      ·rename_i r hrd hwr
       refine fin h.2 ?_
       rw[apart_ok ha hb h1 h2 h3 (λr' hr' hw'=>by rw[hr',hwr] at h6;cases h6.1) (λr' hr' hw'=>by rw[hrd] at hr';cases hr';exact h.1),Bool.or_true]
      ·rename_i hno'
       refine fin h ?_
       rw[apart_ok ha hb h1 h2 h3 (λr' hr' hw'=>(hno r' hr' hw').elim) (λr' hr' hw'=>(hno' r' hr' hw').elim),Bool.or_true]
    ·exact h.elim
end
end Go.Proofs.YtiheejdkkjfenaaGreatDoor.Am
namespace Go.Proofs.YtiheejdkkjfenaaGreatDoor.Am
open Go
section
variable{T:Tb}{ops:Array Oper}{bf:Array Nat}{s s':SSt}{st st':St}{o:Oper}{rk:FuncId→RK}
variable(T) in
def EvR(ops:Array Oper)(bf:Array Nat)(l:List Nat)(st:St)(pre:List Sk)(Q:Option (Dat×Glob)→St→Prop):Prop:=
 ∃p fin sk,Q p fin∧skOk bf (pre.reverse++sk)=true∧∃n,∀m,n≤m→∀k,l.length<k→∃tr,runD T (run T m) ops bf k l st=some (tr,p,fin)∧Els SkOf sk tr
theorem EvR.nil{pre:List Sk}{Q:Option (Dat×Glob)→St→Prop}(h:Q none st)(hk:skOk bf pre.reverse=true):EvR T ops bf [] st pre Q:=by
 refine⟨none,st,[],h,by simpa using hk,0,λm hm k hlt=>⟨[],?_,rfl,λj a b ha=>by simp at ha⟩⟩
 obtain⟨k,rfl⟩:∃k',k=k'+1:=⟨k-1,by omega⟩
 rfl
theorem EvR.step{i:Nat}{l:List Nat}{pre:List Sk}{Q:Option (Dat×Glob)→St→Prop}{A:Doing}{v:Val}{s:St}(hi:ops[i]?=some o)(hd:isDefer o.op=none)(hn:(dstOk st.nt o.dst&&notPinned st.pin o.dst)=true)
 (hA:∀R,kindA T R ops o st=some A) (ha:A.apply st=some (.val v,s)) (h:EvR T ops bf l (s.put o.dst v) (⟨i,A.feet,some (λg=>outVal (A.f none none g)),st.glob,s.glob⟩::pre) Q):EvR T ops bf (i::l) st pre Q:=by
 obtain⟨p,fin,sk,hK,hk,n,h⟩:=h
 rw[Bool.and_eq_true] at hn
 refine⟨p,fin,⟨i,A.feet,some (λg=>outVal (A.f none none g)),st.glob,s.glob⟩::sk,hK,by simpa using hk,n,λm hm k hlt=>?_⟩
 simp only[List.length_cons] at hlt
 obtain⟨k,rfl⟩:∃k',k=k'+1:=⟨k-1,by omega⟩
 obtain⟨tr,h1,h2⟩:=h m hm k (by omega)
 refine⟨⟨i,feetA T (run T m) ops o st,readA T (run T m) ops o st,st.glob,(s.put o.dst v).glob⟩::tr,?_,Els.cons ⟨rfl,(feetA_eq (hA _)).symm,λf hf=>?_,rfl,(St.put_glob _ _ _).symm⟩ h2⟩
 ·simp only[runD,hi,stepA_val hd hn.1 hn.2 (hA _) ha,h1]
 ·cases hf;exact readA_eq (hA _)
theorem len_filter_le{l:List Nat}{f:Nat→Bool}:(l.filter f).length≤l.length:=List.length_filter_le _ _
theorem EvR.panic{i:Nat}{l:List Nat}{pre:List Sk}{Q:Option (Dat×Glob)→St→Prop}{x:Dat}{g:Glob}{sk0:Sk}(hi:ops[i]?=some o)(hsk:sk0.i=i∧sk0.g0=st.glob∧sk0.g1=st.glob∧sk0.rd=none){n0:Nat}
 (hst:∀m,n0≤m→∃s,stepA T (run T m) ops o st=some (.panic x,s)∧s.glob=g∧feetA T (run T m) ops o st=sk0.feet∧sk0.feet.glob=some true)
 (h:EvR T ops bf (l.filter λj=>!(bf.getD j 0).testBit i) st (sk0::pre) (λp fin=>p=none∧Q (some (x,g)) fin)):EvR T ops bf (i::l) st pre Q:=by
 obtain⟨p,fin,sk,⟨rfl,hK⟩,hk,n,h⟩:=h
 refine⟨some (x,g),fin,sk0::sk,hK,by simpa using hk,n+n0,λm hm k hlt=>?_⟩
 simp only[List.length_cons] at hlt
 obtain⟨k,rfl⟩:∃k',k=k'+1:=⟨k-1,by omega⟩
 have hf:=len_filter_le (l:=l) (f:=λj=>!(bf.getD j 0).testBit i)
 obtain⟨tr,h1,h2⟩:=h m (by omega) k (by omega)
 obtain⟨s,e1,e2,e3,e4⟩:=hst m (by omega)
 obtain⟨a1,a2,a3,a4⟩:=hsk
 refine⟨⟨i,feetA T (run T m) ops o st,readA T (run T m) ops o st,st.glob,st.glob⟩::tr,?_,Els.cons ⟨a1,e3.symm,λf hf=>(by rw[a4] at hf;cases hf),a2,a3⟩ h2⟩
 simp only[runD,hi,e1]
 rw[e3,e4,h1]
 simp only[e2,e3]
theorem EvX.drawnR{id:Nat}{l:List Oper}{Q:Ex→St→Prop}(hok:textOk ⟨l⟩ (Region.before ⟨l⟩)=true)
 (h:EvR T ⟨l⟩ (Region.before ⟨l⟩) (List.range l.length) st [] λp fin=>match p with|none=>Q .normal fin|some (x,g)=>Q (.panic x) {st with glob:=g}):EvX T (.region id ⟨l⟩ true) st Q:=by
 obtain⟨p,fin,sk,hq,hk,n,h⟩:=h
 have e:(⟨l⟩:Array Oper).size=l.length:=rfl
 cases p with
 |none=>
  refine⟨_,fin,hq,n+1,λm hm k hkk=>?_⟩
  obtain⟨k,rfl⟩:∃k',k=k'+1:=⟨k-1,by omega⟩
  obtain⟨tr,h1,h2⟩:=h m (by omega) (l.length+1) (by simp)
  have hp:=pairs_of h2 (by simpa using hk)
  simp only[exec,if_true,hok,e,h1,hp]
 |some q=>
  obtain⟨x,g⟩:=q
  refine⟨_,_,hq,n+1,λm hm k hkk=>?_⟩
  obtain⟨k,rfl⟩:∃k',k=k'+1:=⟨k-1,by omega⟩
  obtain⟨tr,h1,h2⟩:=h m (by omega) (l.length+1) (by simp)
  have hp:=pairs_of h2 (by simpa using hk)
  simp only[exec,if_true,hok,e,h1,hp]
def CallR(T:Tb)(ops:Array Oper)(bf:Array Nat)(i:Nat)(l:List Nat)(st:St)(dst:Option Nat)(pre:List Sk)(Q:Option (Dat×Glob)→St→Prop):Out→Glob→Prop
 |.val v,g=>EvR T ops bf l (backA st dst v g) (⟨i,⟨none,dst,some true⟩,none,st.glob,g⟩::pre) Q
 |.panic x,g=>EvR T ops bf (l.filter λj=>!(bf.getD j 0).testBit i) st (⟨i,⟨none,dst,some true⟩,none,st.glob,st.glob⟩::pre) (λp fin=>p=none∧Q (some (x,g)) fin)
theorem doCall_feet(R:Caller)(fn:FuncId)(ds:List Dat)(dst:Option Nat):(doCall R fn ds dst).feet=⟨none,dst,some true⟩:=by cases dst<;>rfl
theorem EvR.callc{i:Nat}{l:List Nat}{pre:List Sk}{Q:Option (Dat×Glob)→St→Prop}{dst:Option Nat}{c:Call}{ty:TypeId}{pos:String}{after:Array Edge}{guard:Option (Nat×Bool)}{fn:FuncId}{ds:List Dat}
 (hi:ops[i]?=some ⟨dst,.call c,ty,pos,after,guard⟩) (hd:(dstOk st.nt dst&&notPinned st.pin dst)=true)
 (hw:wantedA ops ⟨dst,.call c,ty,pos,after,guard⟩ st.regs=some true) (hf:CalleeA T (Am.ev st.regs) c fn ds)
 (hc:EvF T fn ds st.glob (CallR T ops bf i l st dst pre Q)):EvR T ops bf (i::l) st pre Q:=by
 obtain⟨out,g',hq,n0,hev⟩:=hc
 cases out with
 |panic x=>
  refine EvR.panic (sk0:=⟨i,⟨none,dst,some true⟩,none,st.glob,st.glob⟩) hi ⟨rfl,rfl,rfl,rfl⟩ (n0:=n0) (g:=g') (λm hm=>?_) hq
  refine⟨{st with glob:=g'},(callee_step hd hw hf (run T m)).2 x g' (hev m hm),rfl,?_,rfl⟩
  rw[feetA_eq (callee_kind hw hf _),doCall_feet]
 |val v=>
  obtain⟨p,fin,sk,hK,hsk,n,h2⟩:=hq
  refine⟨p,fin,_::sk,hK,by simpa using hsk,n+n0,λm hm k hlt=>?_⟩
  simp only[List.length_cons] at hlt
  obtain⟨k,rfl⟩:∃k',k=k'+1:=⟨k-1,by omega⟩
  obtain⟨tr,h3,h4⟩:=h2 m (by omega) k (by omega)
  obtain⟨u,hst⟩:=(callee_step hd hw hf (run T m)).1 v g' (hev m (by omega))
  refine⟨⟨i,feetA T (run T m) ops ⟨dst,.call c,ty,pos,after,guard⟩ st,readA T (run T m) ops ⟨dst,.call c,ty,pos,after,guard⟩ st,st.glob,(backA st dst v g').glob⟩::tr,?_,Els.cons ⟨rfl,?_,λf hf=>(by cases hf),rfl,(backA_glob st dst v g').symm⟩ h4⟩
  ·simp only[runD,hi,hst,h3]
  ·rw[feetA_eq (callee_kind hw hf _),doCall_feet]
theorem skOk_cons{ks:List Sk}{k:Sk}(h:skOk bf ks.reverse=true)(hk:∀c∈ks,((bf.getD k.i 0).testBit c.i||c.apart k)=true):skOk bf (k::ks).reverse=true:=by
 rw[List.reverse_cons,skOk_snoc]
 exact⟨h,λc hc=>hk c (by simpa using hc)⟩
theorem entOk_call{i:Nat}{dst:Option Nat}{g0 g1:Glob}:EntOk T ⟨i,callFt dst,g0,g1⟩ ⟨i,⟨none,dst,some true⟩,none,g0,g1⟩:=
 ⟨rfl,rfl,rfl,(λp h=>by cases h),(λt h=>by have h:dst=some t:=h;subst h;exact List.mem_singleton.2 rfl),(λh=>by cases h),λ_=>rfl⟩
theorem entOk_op{i:Nat}{A:Doing}{ft:SFeet}{g0 g1:Glob}(h:FeetIn T A ft):EntOk T ⟨i,ft,g0,g1⟩ ⟨i,A.feet,some (λg=>outVal (A.f none none g)),g0,g1⟩:=by
 obtain⟨h1,h2,h3,h4⟩:=h
 exact⟨rfl,rfl,rfl,h1,h2,λhg=>let ⟨a,b,r,c,d⟩:=h3 hg;⟨a,b,r,_,c,rfl,d⟩,h4⟩
theorem sxD_ok:∀{n:Nat} {l:List Nat} {s:SSt} {pre:List SEnt} {P:Dat→Glob→Prop} {N:SSt→Prop} {st:St} {ks:List Sk} {Q:Option (Dat×Glob)→St→Prop},
 sxD T rk ops bf n l s pre P N→Conc T s st→Els (EntOk T) pre ks→skOk bf ks.reverse=true→(∀s' st',N s'→Conc T s' st'→Q none st')→(∀x g fin,P x g→Q (some (x,g)) fin)→EvR T ops bf l st ks Q
 |0,l,s,pre,P,N,st,ks,Q,h,_,_,_,_,_=>by unfold sxD at h;exact h.elim
 |n+1,[],s,pre,P,N,st,ks,Q,h,hc,he,hk,hN,hP=>by unfold sxD at h;exact EvR.nil (hN _ _ h hc) hk
 |n+1,i::l,s,pre,P,N,st,ks,Q,h,hc,he,hk,hN,hP=>by
  unfold sxD at h
  split at h
  ·exact h.elim
  ·rename_i o hi
   split at h
   ·rename_i hd
    rw[Bool.and_eq_true] at hd
    have hd':=dst_ok hd.1 hc
    rcases want_ok h hc with ⟨hw,s,h,hc⟩|⟨hw,s,h,hc⟩
    ·split at h
     ·rename_i f args ats hop
      obtain⟨fn,ds,h1,h3⟩:=sCall_ok h hc
      obtain⟨dst,op,ty,pos,after,guard⟩:=o
      simp only at hop
      subst hop
      refine EvR.callc hi hd' hw h1 (h3.mono λout g ho=>?_)
      cases out with
      |panic x=>
       have ho:apartK T bf ⟨i,callFt dst,s.glob,s.glob⟩ _ pre:=ho
       have hb:EntOk T ⟨i,callFt dst,s.glob,s.glob⟩ ⟨i,⟨none,dst,some true⟩,none,st.glob,st.glob⟩:=by rw[hc.glob];exact entOk_call
       obtain⟨k1,k2⟩:=apartK_ok hb he ho
       exact sxD_ok k1 hc (Els.cons hb he) (skOk_cons hk k2) (λs' st' hp _=>⟨rfl,hP _ _ _ hp⟩) (λx g fin h=>h.elim)
      |val v=>
       obtain⟨s',ho,k3⟩:=ho
       have hb:EntOk T ⟨i,callFt dst,s.glob,g⟩ ⟨i,⟨none,dst,some true⟩,none,st.glob,g⟩:=by rw[hc.glob];exact entOk_call
       obtain⟨k1,k2⟩:=apartK_ok hb he ho
       exact sxD_ok k1 k3 (Els.cons hb he) (skOk_cons hk k2) hN hP
     ·rename_i f m args ats hop
      obtain⟨fn,ds,h1,h3⟩:=sCall_ok h hc
      obtain⟨dst,op,ty,pos,after,guard⟩:=o
      simp only at hop
      subst hop
      refine EvR.callc hi hd' hw h1 (h3.mono λout g ho=>?_)
      cases out with
      |panic x=>
       have ho:apartK T bf ⟨i,callFt dst,s.glob,s.glob⟩ _ pre:=ho
       have hb:EntOk T ⟨i,callFt dst,s.glob,s.glob⟩ ⟨i,⟨none,dst,some true⟩,none,st.glob,st.glob⟩:=by rw[hc.glob];exact entOk_call
       obtain⟨k1,k2⟩:=apartK_ok hb he ho
       exact sxD_ok k1 hc (Els.cons hb he) (skOk_cons hk k2) (λs' st' hp _=>⟨rfl,hP _ _ _ hp⟩) (λx g fin h=>h.elim)
      |val v=>
       obtain⟨s',ho,k3⟩:=ho
       have hb:EntOk T ⟨i,callFt dst,s.glob,g⟩ ⟨i,⟨none,dst,some true⟩,none,st.glob,g⟩:=by rw[hc.glob];exact entOk_call
       obtain⟨k1,k2⟩:=apartK_ok hb he ho
       exact sxD_ok k1 k3 (Els.cons hb he) (skOk_cons hk k2) hN hP
     ·rename_i x hop
      split at h
      ·rename_i d hpd
       obtain⟨t,y,rfl,hev⟩:=panicD_ok hpd hc
       have hkk:∀R,kindA T R ops o st=some (Doing.mk none none (some true) λ_ _ gl=>some (.panic (.iface t y),none,none,gl)):=λR=>by
        simp only[kindA,hw,doing,hop,hev]
       have hb:EntOk T ⟨i,{wr:=true},s.glob,s.glob⟩ ⟨i,⟨none,none,some true⟩,none,st.glob,st.glob⟩:=by
        rw[hc.glob]
        exact⟨rfl,rfl,rfl,(λp h=>by cases h),(λt h=>by cases h),(λh=>by cases h),λ_=>rfl⟩
       obtain⟨k1,k2⟩:=apartK_ok hb he h
       refine EvR.panic (x:=.iface t y) (g:=st.glob) (n0:=0) hi ⟨rfl,rfl,rfl,rfl⟩ (λm _=>⟨st,?_,rfl,?_,rfl⟩) (sxD_ok k1 hc (Els.cons hb he) (skOk_cons hk k2) (λs' st' hp _=>⟨rfl,by rw[hc.glob];exact hP _ _ _ hp⟩) (λx g fin h=>h.elim))
       ·unfold stepA
        rw[hd']
        simp only[if_true,hop,isDefer,doA,hkk,Doing.apply,Doing.look,Doing.put]
       ·rw[feetA_eq (hkk _)];rfl
      ·exact h.elim
     ·obtain⟨hdf,A,v,s1,ft,s',a1,a2,a3,a4,a5⟩:=sxOp_ok h hc
      have hg:s1.glob=s'.glob:=by rw[←St.put_glob s1 o.dst v];exact a5.glob
      have hb:EntOk T ⟨i,ft,s.glob,s'.glob⟩ ⟨i,A.feet,some (λg=>outVal (A.f none none g)),st.glob,s1.glob⟩:=by rw[hc.glob,hg];exact entOk_op a3
      obtain⟨k1,k2⟩:=apartK_ok hb he a4
      exact EvR.step hi hdf hd' (λR=>kindOn hw (a1 R)) a2 (sxD_ok k1 a5 (Els.cons hb he) (skOk_cons hk k2) hN hP)
    ·have hcs:Conc T (s.put o.dst .off) (st.put o.dst (.tuple [])):=hc.put _ rfl
     cases hdf:isDefer o.op with
     |none=>
      have hb:EntOk T ⟨i,{},s.glob,s.glob⟩ ⟨i,(Doing.ret (.tuple [])).feet,some (λg=>outVal ((Doing.ret (.tuple [])).f none none g)),st.glob,st.glob⟩:=by rw[hc.glob];exact entOk_op (feet_ret _ _)
      obtain⟨k1,k2⟩:=apartK_ok hb he h
      exact EvR.step hi hdf hd' (λR=>kindOff hw) (ret_apply _ _) (sxD_ok k1 hcs (Els.cons hb he) (skOk_cons hk k2) hN hP)
     |some c=>rw[hdf] at hd;cases hd.2
   ·exact h.elim
end
end Go.Proofs.YtiheejdkkjfenaaGreatDoor.Am
namespace Go.Proofs.YtiheejdkkjfenaaGreatDoor.Am
open Go
inductive Fr where
 |seq (b:Code)
 |loop (a:Code)
 |block (id:Nat)
inductive Md where
 |code (c:Code)
 |normal
 |exit (i:Nat)
 |ret
inductive Sh where
 |keep
 |read
 |acc (ks:List Nat)
 |drop
inductive BSh where
 |cells (l:List Sh)
 |whole (t:TypeId)
 |iter
structure CutI where
 id:Nat
 slots:List (Nat×Sh)
 boxes:List (Nat×BSh)
def headId:Code→Option Nat
 |.region id _ _=>some id
 |.seq a b=>(match headId a with|some i=>some i|none=>headId b)
 |.cond _ a b=>(match headId a with|some i=>some i|none=>headId b)
 |.block _ a|.loop a|.scope a=>headId a
 |_=>none
def findCut(i:Option Nat):List CutI→Option CutI
 |[]=>none
 |c::l=>(match i with
  |some j=>if c.id==j then some c else findCut i l
  |none=>none)
def mkMp{α:Type}(l:List (Nat×α)):Mp α:=l.foldl (λm p=>m.set p.1 p.2) ⟨[]⟩
variable(T:Tb)
def frK:List Fr→(Ex→St→Prop)→Ex→St→Prop
 |[],Q=>Q
 |.seq b::r,Q=>SeqK T b (frK r Q)
 |.loop a::r,Q=>LoopK T a (frK r Q)
 |.block id::r,Q=>BlockK id (frK r Q)
def Cut(c:Code)(fr:List Fr)(Q:Ex→St→Prop)(s:SSt):Prop:=∀st,Conc T s st→EvX T c st (frK T fr Q)
def convS(s:SSt):Sh→SV→Option SV
 |.keep,.v t x=>some (.v t x)
 |.keep,.loc k c o=>if c==cnt s.bc k then some (.loc k 0 o) else none
 |.keep,.imm t x o=>some (.imm t x o)
 |.keep,.own k c t m xs=>if c==cnt s.tc k then some (.own k 0 t m xs) else none
 |.keep,.tup l=>some (.tup l)
 |.keep,.off=>some .off
 |.read,sv=>(match sv.dat with|some (t,x)=>some (.v t x)|none=>none)
 |.acc ks,.v t .nil=>(match T.und t with
  |some (.slice e)=>(match T.size e with|some m=>some (.acc (ks.map λk=>(k,0)) t m [])|none=>none)
  |_=>none)
 |.acc ks,.acc ks' t m xs=>if curAll s.tc ks'&&ks'.all (λp=>ks.contains p.1) then some (.acc (ks.map λk=>(k,0)) t m xs) else none
 |.drop,_=>some .junk
 |_,_=>none
def convSlots(s:SSt):List (Nat×Sh)→Option (List (Nat×SV))
 |[]=>some []
 |(t,sh)::l=>(match s.regs.get t with
  |some sv=>(match convS T s sh sv,convSlots s l with
   |some sv',some r=>some ((t,sv')::r)
   |_,_=>none)
  |none=>none)
def convCells(s:SSt):List Sh→List SV→Option (List SV)
 |[],[]=>some []
 |sh::l,sv::r=>(match convS T s sh sv,convCells s l r with
  |some a,some b=>some (a::b)
  |_,_=>none)
 |_,_=>none
def convBox(s:SSt):BSh→SBox→Option SBox
 |.whole t,.whole t' x=>if t'==t then some (.whole t' x) else none
 |.whole t,.cells cs=>if isAgg? (T.und t) then(match optAll (cs.map SV.dat),lay T t with
  |some l,some tys=>if l.map (·.1)==tys then some (.whole t (.agg (l.map (·.2)))) else none
  |_,_=>none) else none
 |.cells shs,.cells cs=>(match convCells T s shs cs with|some l=>some (.cells l)|none=>none)
 |.cells shs,.whole t x=>(match cellsS T t x with
  |some cs=>(match convCells T s shs cs with|some l=>some (.cells l)|none=>none)
  |none=>none)
 |.iter,.iter b p=>some (.iter b p)
 |_,_=>none
def convBoxes(s:SSt):List (Nat×BSh)→Option (List (Nat×SBox))
 |[]=>some []
 |(k,sh)::l=>(match s.boxes.get k with
  |some sb=>(match convBox T s sh sb,convBoxes s l with
   |some sb',some r=>some ((k,sb')::r)
   |_,_=>none)
  |none=>none)
def mkS(s:SSt)(regs:List (Nat×SV))(boxes:List (Nat×SBox))(g:Glob):SSt:=
 {nt:=s.nt,esc:=s.esc,res:=s.res,regs:=mkMp regs,boxes:=mkMp boxes,bc:=⟨[]⟩,tc:=⟨[]⟩,glob:=g,defs:=s.defs,pin:=s.pin}
def restrict(s:SSt)(c:CutI):Option SSt:=
 match convSlots T s c.slots,convBoxes T s c.boxes with
 |some rs,some bs=>some (mkS s rs bs s.glob)
 |_,_=>none
def resS(s:SSt):ResultVar→Option SV
 |.tmp t=>s.regs.get t
 |.cell a t=>(match s.regs.get a with
  |some (.loc k c o)=>if c==cnt s.bc k then(match s.boxes.get k with
   |some sb=>(match sb.cs T with|some cs=>loadS T t (cs.drop o)|none=>none)
   |none=>none) else none
  |_=>none)
def endOne(s:SSt)(Qf:OGP):SV→Prop
 |.own k c _ m xs=>if c==cnt s.tc k then Qf (.val (.uq m xs)) s.glob else False
 |.acc ks _ m xs=>if curAll s.tc ks then Qf (.val (retOf m xs)) s.glob else False
 |.v t x=>if isL (T.und t) then ∀v,RetV v x→Qf (.val v) s.glob else Qf (.val (.d x)) s.glob
 |_=>False
def resK(s:SSt):List ResultVar→(List SV→Prop)→Prop
 |[],K=>K []
 |.tmp t::l,K=>(match resS T s (.tmp t) with
  |some sv=>resK s l λr=>K (sv::r)
  |none=>False)
 |.cell a t::l,K=>(match s.regs.get a with
  |some (.v _ (.ptr (some (i,o))))=>exT T t λx=>GOk T t s.glob i o x∧resK s l λr=>K (.v t x::r)
  |_=>(match resS T s (.cell a t) with
   |some sv=>resK s l λr=>K (sv::r)
   |none=>False))
def sxEnd(fn:Func)(Qf:OGP)(s:SSt):Prop:=
 resK T s fn.results.toList λsvs=>match svs with
 |[sv]=>endOne T s Qf sv
 |svs=>(match optAll (svs.map SV.dat) with
  |some l=>if l.all (λp=>!(isL (T.und p.1))) then Qf (.val (.tuple (l.map λp=>.d p.2))) s.glob
   else ∀us,RetL us (l.map (·.2))→Qf (.val (.tuple us)) s.glob
  |none=>False)
def pinPl(pin:List (Nat×Nat×Nat)):List ResultVar→Option (List (TypeId×Nat×Nat))
 |[]=>some []
 |.cell t ty::l=>(match pin.lookup t,pinPl pin l with
  |some (i,o),some r=>some ((ty,i,o)::r)
  |_,_=>none)
 |.tmp _::_=>none
def pinVal(pl:List (TypeId×Nat×Nat))(g:Glob):Option Val:=
 match optAll (pl.map λp=>gload T p.1 g p.2.1 p.2.2) with
 |some vs=>(match optAll (vs.map λv=>v.toD.map .d) with
  |some [v]=>some v
  |some us=>some (.tuple us)
  |none=>none)
 |none=>none
def DefQ(ds:List (FuncId×List Dat))(pl:List (TypeId×Nat×Nat))(p:Option Dat)(g:Glob)(Q:OGP):Prop:=
 EvL T ds p g λp' g'=>match p' with
  |none=>∃v,pinVal T pl g'=some v∧Q (.val v) g'
  |some y=>p.isSome=true∧Q (.panic y) g'
def sxDef(fn:Func)(Qf:OGP)(s:SSt)(p:Option Dat)(g:Glob):Prop:=
 match pinPl s.pin fn.results.toList with
 |some (q::pl)=>DefQ T s.defs (q::pl) p g Qf
 |_=>False
def sxFin(fn:Func)(Qf:OGP)(s:SSt):Prop:=
 match s.defs with
 |[]=>sxEnd T fn Qf s
 |_::_=>sxDef T fn Qf s none s.glob
def sxPan(fn:Func)(Qf:OGP)(s:SSt)(x:Dat)(g:Glob):Prop:=
 match s.defs with
 |[]=>Qf (.panic x) g
 |_::_=>sxDef T fn Qf s (some x) g
def sxCut(fn:Func)(Qf:OGP)(s:SSt)(c:Code)(fr:List Fr)(ci:CutI):Prop:=
 match restrict T s ci with
 |some s'=>Cut T c fr (EndK T fn Qf) s'
 |none=>False
variable(rk:FuncId→RK)(fn:Func)(Qf:OGP)(loops joins:List CutI)
def sx:Nat→Md→SSt→List Fr→Prop
 |0,_,_,_=>False
 |n+1,.code c,s,fr=>(match c with
  |.skip=>sx n .normal s fr
  |.label _=>sx n .normal s fr
  |.region _ ops draw=>(match draw with
   |true=>if textOk ops (Region.before ops) then
    sxD T rk ops (Region.before ops) (ops.size+1) (List.range ops.size) s [] (λx g=>sxPan T fn Qf s x g) (λs'=>sx n .normal s' fr) else False
   |false=>sxOps T rk ops (λx g=>sxPan T fn Qf s x g) (λs'=>sx n .normal s' fr) ops.toList s)
  |.seq a b=>sx n (.code a) s (.seq b::fr)
  |.cond x a b=>(match s.bool x with
   |some t=>Br t (sx n (.code a) s fr) (sx n (.code b) s fr)
   |none=>False)
  |.block id a=>sx n (.code a) s (.block id::fr)
  |.loop a=>(match findCut (headId a) loops with
   |some ci=>sxCut T fn Qf s (.loop a) fr ci
   |none=>sx n (.code a) s (.loop a::fr))
  |.scope a=>sx n (.code a) s fr
  |.exit i=>sx n (.exit i) s fr
  |.ret=>sx n .ret s fr
  |_=>False)
 |n+1,.normal,s,fr=>(match fr with
  |[]=>sxFin T fn Qf s
  |.seq b::r=>(match findCut (headId b) joins with
   |some ci=>sxCut T fn Qf s b r ci
   |none=>sx n (.code b) s r)
  |.loop a::r=>sx n (.code (.loop a)) s r
  |.block _::r=>sx n .normal s r)
 |n+1,.exit i,s,fr=>(match fr with
  |[]=>False
  |.block id::r=>if i==id then sx n .normal s r else sx n (.exit i) s r
  |_::r=>sx n (.exit i) s r)
 |_+1,.ret,s,_=>sxFin T fn Qf s
def setS(i:Nat):List (TypeId×Dat)→Mp SV→Mp SV
 |[],m=>m
 |p::l,m=>setS (i+1) l (m.set i (.v p.1 p.2))
def startS(f:FuncId)(fn:Func)(args:List (TypeId×Dat))(g:Glob):SSt:=
 {nt:=max args.length fn.ntmps,esc:=T.esc f,res:=fn.results.toList,regs:=setS 0 args ⟨[]⟩,boxes:=⟨[]⟩,bc:=⟨[]⟩,tc:=⟨[]⟩,glob:=g}
def AllTy:List (TypeId×Dat)→Prop
 |[]=>True
 |p::l=>HasTy T p.1 p.2∧AllTy l
section
variable{T:Tb}{s s':SSt}{st st':St}{rk:FuncId→RK}{fn:Func}{Qf:OGP}{loops joins:List CutI}
theorem mkMp_get{α:Type}{k:Nat}{v:α}:∀{l:List (Nat×α)} {m:Mp α},(l.foldl (λm p=>m.set p.1 p.2) m).get k=some v→(k,v)∈l∨m.get k=some v
 |[],m,h=>.inr h
 |p::l,m,h=>by
  rcases mkMp_get (l:=l) h with h|h
  ·exact .inl (List.mem_cons_of_mem _ h)
  ·rw[Mp.get_set] at h
   split at h
   ·rename_i e
    cases h
    left
    rw[←e]
    exact List.mem_cons_self
   ·exact .inr h
theorem mkMp_mem{α:Type}{l:List (Nat×α)}{k:Nat}{v:α}(h:(mkMp l).get k=some v):(k,v)∈l:=by
 rcases mkMp_get h with h|h
 ·exact h
 ·rw[Mp.get_empty] at h;cases h
theorem curAll_spec{tc:Mp Nat}{ks:List (Nat×Nat)}(h:curAll tc ks=true):∀p∈ks,p.2=cnt tc p.1:=λp hp=>by
 have:=(List.all_eq_true.1 h) p hp
 simpa using this
theorem concV_nrm{bc tc:Mp Nat}{B:Mp (Nat×Box)}{C:Mp (Nat×Option (Nat×Nat))}{sv:SV}{v:Val}{p:TypeId×Dat}(hv:ConcV T bc tc B C sv v)(hd:sv.dat=some p):nrm v=true:=by
 cases sv with
 |v t x=>exact hv.2.1
 |own k c t m xs=>obtain⟨_,_,g,rfl,_⟩:=hv;rfl
 |acc ks t m xs=>
  obtain⟨_,_,_,h2⟩:=hv
  rcases h2 with ⟨rfl,rfl⟩|⟨_,p,_,g,rfl,_⟩<;>rfl
 |_=>cases hd
theorem convS_ok{B:Mp (Nat×Box)}{C:Mp (Nat×Option (Nat×Nat))}{sh:Sh}{sv sv':SV}{v:Val}(h:convS T s sh sv=some sv')(hv:ConcV T s.bc s.tc B C sv v):ConcV T ⟨[]⟩ ⟨[]⟩ B C sv' v:=by
 unfold convS at h
 split at h
 ·cases h;exact hv
 ·split at h
  ·rename_i hc
   cases h
   obtain⟨_,g,h1,h2⟩:=hv
   exact⟨Nat.zero_le _,g,h1,λ_=>h2 (by simpa using hc)⟩
  ·cases h
 ·cases h;exact hv
 ·split at h
  ·rename_i hc
   cases h
   obtain⟨_,ht,g,h1,h2⟩:=hv
   exact⟨Nat.zero_le _,ht,g,h1,λ_=>h2 (by simpa using hc)⟩
  ·cases h
 ·cases h;exact hv
 ·cases h;exact hv
 ·split at h
  ·rename_i t x hd
   cases h
   have h1:=concV_dat hv hd
   exact⟨h1.1,concV_nrm hv hd,h1.2⟩
  ·cases h
 ·split at h
  ·rename_i e hu
   split at h
   ·rename_i m hs
    cases h
    exact⟨isSl_sl hu hs,hv.2.2,λp hp=>by obtain⟨k,_,rfl⟩:=List.mem_map.1 hp;exact Nat.zero_le _,.inl ⟨rfl,toD_plain hv.1 rfl⟩⟩
   ·cases h
  ·cases h
 ·split at h
  ·rename_i ks ks' t m xs hc
   cases h
   rw[Bool.and_eq_true] at hc
   have hcur:=curAll_spec hc.1
   obtain⟨h1,h2,h3,h4⟩:=hv
   refine⟨h1,h2,λp hp=>by obtain⟨k,_,rfl⟩:=List.mem_map.1 hp;exact Nat.zero_le _,?_⟩
   rcases h4 with h4|⟨hx,p,hp,g,h5,h6⟩
   ·exact .inl h4
   ·refine .inr ⟨hx,(p.1,0),?_,g,h5,λ_=>h6 (hcur p hp)⟩
    have:=(List.all_eq_true.1 hc.2) p hp
    exact List.mem_map.2 ⟨p.1,by simpa using this,rfl⟩
  ·cases h
 ·cases h;trivial
 ·cases h
theorem convSlots_ok:∀{l:List (Nat×Sh)} {r:List (Nat×SV)},convSlots T s l=some r→Conc T s st→∀p∈r,∃v,st.regs.get p.1=some v∧ConcV T ⟨[]⟩ ⟨[]⟩ st.boxes st.toks p.2 v
 |[],r,h,hc,p,hp=>by cases h;cases hp
 |(t,sh)::l,r,h,hc,p,hp=>by
  simp only[convSlots] at h
  split at h
  ·rename_i sv hsv
   split at h
   ·rename_i sv' r' h1 h2
    cases h
    rcases List.mem_cons.1 hp with rfl|hp
    ·obtain⟨v,k1,k2⟩:=hc.regs t _ hsv
     exact⟨v,k1,convS_ok h1 k2⟩
    ·exact convSlots_ok h2 hc p hp
   ·cases h
  ·cases h
theorem convCells_ok{B:Mp (Nat×Box)}{C:Mp (Nat×Option (Nat×Nat))}:∀{l:List Sh} {cs cs':List SV} {vs:List Val},convCells T s l cs=some cs'→Els (λsv v=>v.one=true∧ConcV T s.bc s.tc B C sv v) cs vs→
 Els (λsv v=>v.one=true∧ConcV T ⟨[]⟩ ⟨[]⟩ B C sv v) cs' vs
 |[],[],cs',vs,h,hv=>by cases h;exact⟨hv.1,λj a b ha=>by simp at ha⟩
 |[],_::_,cs',vs,h,hv=>by cases h
 |_::_,[],cs',vs,h,hv=>by cases h
 |sh::l,sv::cs,cs',vs,h,hv=>by
  cases vs with
  |nil=>cases hv.1
  |cons v vs=>
   obtain⟨h1,h2⟩:=hv.tail
   simp only[convCells] at h
   split at h
   ·rename_i a b e1 e2
    cases h
    exact Els.cons ⟨h1.1,convS_ok e1 h1.2⟩ (convCells_ok e2 h2)
   ·cases h
theorem convBox_ok{B:Mp (Nat×Box)}{C:Mp (Nat×Option (Nat×Nat))}{sh:BSh}{sb sb':SBox}{bx:Box}(h:convBox T s sh sb=some sb')(hb:ConcB T s.bc s.tc B C sb bx):ConcB T ⟨[]⟩ ⟨[]⟩ B C sb' bx:=by
 unfold convBox at h
 split at h
 ·split at h
  ·cases h;cases bx<;>exact hb
  ·cases h
 ·rename_i t cs
  split at h
  ·rename_i ha
   split at h
   ·rename_i l tys ho hl
    split at h
    ·rename_i hty
     cases h
     have hty:l.map (·.1)=tys:=by simpa using hty
     cases bx with
     |cells vs=>
      have hb:Els (λsv v=>v.one=true∧ConcV T s.bc s.tc B C sv v) cs vs:=hb
      obtain⟨d1,d2⟩:=dats_of hb ho
      obtain⟨o1,o2⟩:=optAll_get? d1
      refine⟨.agg _ tys _ ha hl (by rw[←hty];simp) (λc hc=>?_) (λi w c hw hc=>?_),ha,o1,o2⟩
      ·obtain⟨p,hp,rfl⟩:=List.mem_map.1 hc
       exact(d2 p hp).2
      ·rw[←hty,List.getElem?_map] at hw
       rw[List.getElem?_map] at hc
       cases hp:l[i]? with
       |none=>rw[hp] at hw;cases hw
       |some p=>
        rw[hp] at hw hc
        cases hw
        cases hc
        exact(d2 p (List.mem_of_getElem? hp)).1
     |_=>exact hb.elim
    ·cases h
   ·cases h
  ·cases h
 ·split at h
  ·rename_i cs' h1
   cases h
   cases bx with
   |cells vs=>exact convCells_ok h1 hb
   |_=>exact hb.elim
  ·cases h
 ·rename_i t x
  split at h
  ·rename_i cs hcs
   split at h
   ·rename_i l h1
    cases h
    cases bx with
    |cells vs=>exact convCells_ok h1 (concB_cs (sb:=.whole t x) hb hcs)
    |_=>exact hb.elim
   ·cases h
  ·cases h
 ·cases h;cases bx<;>exact hb
 ·cases h
theorem convBoxes_ok:∀{l:List (Nat×BSh)} {r:List (Nat×SBox)},convBoxes T s l=some r→Conc T s st→∀p∈r,∃g bx,st.boxes.get p.1=some (g,bx)∧ConcB T ⟨[]⟩ ⟨[]⟩ st.boxes st.toks p.2 bx
 |[],r,h,hc,p,hp=>by cases h;cases hp
 |(t,sh)::l,r,h,hc,p,hp=>by
  simp only[convBoxes] at h
  split at h
  ·rename_i sb hb
   split at h
   ·rename_i sb' r' h1 h2
    cases h
    rcases List.mem_cons.1 hp with rfl|hp
    ·obtain⟨g,bx,k1,k2⟩:=hc.boxes t _ hb
     exact⟨g,bx,k1,convBox_ok h1 k2⟩
    ·exact convBoxes_ok h2 hc p hp
   ·cases h
  ·cases h
theorem restrict_ok{c:CutI}(h:restrict T s c=some s')(hc:Conc T s st):Conc T s' st:=by
 unfold restrict at h
 split at h
 ·rename_i rs bs h1 h2
  cases h
  exact⟨hc.nt,hc.esc,hc.res,hc.defs,hc.pin,hc.glob,λt sv ht=>convSlots_ok h1 hc _ (mkMp_mem ht),λk sb hk=>convBoxes_ok h2 hc _ (mkMp_mem hk)⟩
 ·cases h
theorem sxCut_ok{c:Code}{fr:List Fr}{ci:CutI}(h:sxCut T fn Qf s c fr ci)(hc:Conc T s st):EvX T c st (frK T fr (EndK T fn Qf)):=by
 unfold sxCut at h
 split at h
 ·rename_i s' hs
  exact h st (restrict_ok hs hc)
 ·exact h.elim
theorem resS_ok{r:ResultVar}{sv:SV}(h:resS T s r=some sv)(hc:Conc T s st):∃v,resultOne T st r=some v∧ConcV T s.bc s.tc st.boxes st.toks sv v:=by
 cases r with
 |tmp t=>exact hc.regs t sv h
 |cell a t=>
  simp only[resS] at h
  split at h
  ·rename_i k c o ha
   split at h
   ·rename_i hcc
    split at h
    ·rename_i sb hb
     split at h
     ·rename_i cs hcs
      obtain⟨v,h1,_,g,rfl,h2⟩:=hc.regs a _ ha
      obtain⟨bx,h2⟩:=h2 (by simpa using hcc)
      obtain⟨g',bx',k1,k2⟩:=hc.boxes k _ hb
      rw[h2] at k1
      cases k1
      cases bx with
      |cells vs=>
       obtain⟨w,e1,e2⟩:=loadS_ok (Els.drop (concB_cs k2 hcs) o) h
       exact⟨w,by simp only[resultOne,h1,h2,if_true,e1],e2⟩
      |iter b q=>cases sb<;>first|(cases hcs;done)|exact k2.elim
      |map es c=>cases sb<;>exact k2.elim
     ·cases h
    ·cases h
   ·cases h
  ·cases h
theorem outOne_rd{v:Val}{x:Dat}{b:Bool}(h:v.toD=some x):∃u,outOne st b v=some u∧RetV u x:=by
 unfold outOne
 split
 ·rename_i k g m xs
  cases h
  split
  ·exact⟨_,rfl,rfl⟩
  ·exact⟨_,rfl,rfl⟩
 ·rw[h];exact⟨_,rfl,rfl⟩
theorem outOne_plain{v:Val}{x:Dat}{t:TypeId}{b:Bool}(h:v.toD=some x)(ht:HasTy T t x)(hn:isL (T.und t)=false):outOne st b v=some (.d x):=by
 unfold outOne
 split
 ·rename_i k g m xs
  cases h
  cases ht with
  |sl _ _ _ _ hu=>rw[hu] at hn;cases hn
 ·rw[h];rfl
theorem outAll_rd:∀{vs:List Val} {l:List (TypeId×Dat)} {b:Bool},Els (λv p=>v.toD=some p.2∧HasTy T p.1 p.2) vs l→∃us,outAll st b vs=some us∧RetL us (l.map (·.2))∧(l.all (λp=>!(isL (T.und p.1)))=true→us=l.map λp=>.d p.2)
 |[],l,b,h=>by
  have:l=[]:=List.eq_nil_of_length_eq_zero h.1.symm
  subst this
  exact⟨[],rfl,trivial,λ_=>rfl⟩
 |v::vs,l,b,h=>by
  cases l with
  |nil=>cases h.1
  |cons p l=>
   obtain⟨h1,h2⟩:=h.tail
   obtain⟨u,e1,e2⟩:=outOne_rd (st:=st) (b:=b) h1.1
   have ih:=λb'=>outAll_rd (b:=b') h2
   have ⟨us,k0,k2,k3⟩:∃us,outAll st b (v::vs)=some (u::us)∧RetL us (l.map (·.2))∧(l.all (λp=>!(isL (T.und p.1)))=true→us=l.map λp=>.d p.2):=by
    simp only[outAll,e1]
    generalize (b&&_)=b'
    obtain⟨us,k1,k2,k3⟩:=ih b'
    exact⟨us,by rw[k1],k2,k3⟩
   refine⟨u::us,k0,⟨e2,k2⟩,λha=>?_⟩
   simp only[List.all_cons,Bool.and_eq_true,Bool.not_eq_true'] at ha
   rw[outOne_plain h1.1 h1.2 ha.1] at e1
   cases e1
   rw[k3 (by simpa using ha.2)]
   rfl
theorem resK_ok(hc:Conc T s st):∀{rs:List ResultVar} {K:List SV→Prop},resK T s rs K→∃svs vs,K svs∧optAll (rs.map (resultOne T st))=some vs∧Els (ConcV T s.bc s.tc st.boxes st.toks) svs vs
 |[],K,h=>⟨[],[],h,rfl,rfl,λj a b h=>by simp at h⟩
 |r::rs,K,h=>by
  have one:∀{sv:SV},resS T s r=some sv→resK T s rs (λl=>K (sv::l))→∃svs vs,K svs∧optAll ((r::rs).map (resultOne T st))=some vs∧Els (ConcV T s.bc s.tc st.boxes st.toks) svs vs:=λhr h=>by
   obtain⟨svs,vs,h0,h1,h2⟩:=resK_ok hc h
   obtain⟨v,k1,k2⟩:=resS_ok hr hc
   exact⟨_,v::vs,h0,by simp only[List.map_cons,k1,optAll,h1],Els.cons k2 h2⟩
  cases r with
  |tmp t=>
   simp only[resK] at h
   split at h
   ·rename_i sv hr
    exact one hr h
   ·exact h.elim
  |cell a t=>
   simp only[resK] at h
   split at h
   ·rename_i u i o ha
    obtain⟨x,⟨⟨w,g1,g2,g3⟩,hk⟩,ht⟩:=exT_spec h
    obtain⟨svs,vs,h0,h1,h2⟩:=resK_ok hc hk
    obtain⟨v,k1,k2⟩:=hc.regs a _ ha
    have hv:=toD_plain k2.1 rfl
    subst hv
    refine⟨_,w::vs,h0,?_,Els.cons ⟨g2,g3,ht⟩ h2⟩
    have hres:resultOne T st (.cell a t)=some w:=by
     simp only[resultOne,k1]
     rw[hc.glob]
     exact g1
    simp only[List.map_cons,hres,optAll,h1]
   ·split at h
    ·rename_i sv hr
     exact one hr h
    ·exact h.elim
theorem sxEnd_ok(h:sxEnd T fn Qf s)(hc:Conc T s st):∃v,resultA T fn st=some v∧Qf (.val v) st.glob:=by
 unfold sxEnd at h
 obtain⟨svs,vs,h,h1,h2⟩:=resK_ok hc h
 have hg:=hc.glob
 split at h
 ·rename_i sv
  obtain⟨v,rfl⟩:∃v,vs=[v]:=by
   cases vs with
   |nil=>cases h2.1
   |cons v vs=>cases vs with
    |nil=>exact⟨v,rfl⟩
    |cons w ws=>simp[Els] at h2
  have hv:=h2.2 0 sv v rfl rfl
  have fin:∀{u},outOne st true v=some u→Qf (.val u) s.glob→∃v,resultA T fn st=some v∧Qf (.val v) st.glob:=λhe hq=>by
   refine⟨_,?_,by rw[hg];exact hq⟩
   simp only[resultA,h1,outAll,he]
  unfold endOne at h
  split at h
  ·rename_i k c t m xs
   split at h
   ·rename_i hcc
    obtain⟨_,ht,g,rfl,htk⟩:=hv
    have htk:=htk (by simpa using hcc)
    exact fin (by simp only[outOne,isOwn,htk,beq_self_eq_true,Bool.and_self,Bool.true_and,if_true]) h
   ·exact h.elim
  ·rename_i ks t m xs
   split at h
   ·rename_i hcc
    have hcur:=curAll_spec hcc
    obtain⟨_,_,_,h3⟩:=hv
    rcases h3 with ⟨rfl,rfl⟩|⟨hx,p,hp,g,rfl,htk⟩
    ·exact fin (u:=.d .nil) rfl h
    ·have htk:=htk (hcur p hp)
     refine fin (u:=.uq m xs) (by simp only[outOne,isOwn,htk,beq_self_eq_true,Bool.and_self,Bool.true_and,if_true]) ?_
     cases xs with
     |nil=>exact absurd rfl hx
     |cons y ys=>exact h
   ·exact h.elim
  ·rename_i t x
   split at h
   ·obtain⟨u,e1,e2⟩:=outOne_rd (st:=st) (b:=true) hv.1
    exact fin e1 (h u e2)
   ·rename_i hn
    exact fin (outOne_plain hv.1 hv.2.2 (by simpa using hn)) h
  ·exact h.elim
 ·rename_i svs' hns
  split at h
  ·rename_i l ho
   obtain⟨o1,o2⟩:=optAll_get? ho
   have hels:Els (λv p=>v.toD=some p.2∧HasTy T p.1 p.2) vs l:=⟨by rw[←h2.1,o1],λj v p hv hp=>by
    have hlt:j<svs.length:=by rw[h2.1];exact(List.getElem?_eq_some_iff.1 hv).1
    have hsv:=List.getElem?_eq_getElem hlt
    exact concV_dat (t:=p.1) (x:=p.2) (h2.2 j _ v hsv hv) (by rw[o2 j _ p hsv hp])⟩
   obtain⟨us,k1,k2,k3⟩:=outAll_rd (st:=st) (b:=true) hels
   have hlen:us.length≠1:=λe=>by
    have:svs.length=1:=by
     rw[o1]
     have:us.length=l.length:=by
      clear k1 k3 hels h ho
      induction us generalizing l with
      |nil=>cases l with
       |nil=>rfl
       |cons _ _=>exact k2.elim
      |cons u us ih=>
       cases us with
       |nil=>cases l with
        |nil=>simp[RetL] at k2
        |cons p l=>cases l with
         |nil=>rfl
         |cons _ _=>simp[RetL] at k2
       |cons _ _=>simp at e
     omega
    cases svs with
    |nil=>cases this
    |cons a svs=>cases svs with
     |nil=>exact hns a rfl
     |cons _ _=>simp at this
   have hra:resultA T fn st=some (.tuple us):=by
    simp only[resultA,h1,k1]
    match us,hlen with
    |[],_=>rfl
    |[_],h=>exact absurd rfl h
    |_::_::_,_=>rfl
   split at h
   ·rename_i ha
    exact⟨_,hra,by rw[hg,k3 ha];exact h⟩
   ·exact⟨_,hra,by rw[hg];exact h us k2⟩
  ·exact h.elim
theorem pinPl_map{pin:List (Nat×Nat×Nat)}{g:Glob}:∀{rs:List ResultVar} {pl:List (TypeId×Nat×Nat)},pinPl pin rs=some pl→rs.map (pinned T pin g)=pl.map λp=>gload T p.1 g p.2.1 p.2.2
 |[],pl,h=>by cases h;rfl
 |.tmp _::_,pl,h=>by cases h
 |.cell t ty::l,pl,h=>by
  simp only[pinPl] at h
  split at h
  ·rename_i i o r h1 h2
   cases h
   simp only[List.map_cons,pinPl_map h2,pinned,h1]
   rfl
  ·cases h
theorem sxDef_ok{p:Option Dat}{g:Glob}(h:sxDef T fn Qf s p g):fn.results.toList≠[]∧DefE T fn s.defs s.pin p g Qf:=by
 unfold sxDef at h
 split at h
 ·rename_i q pl hpl
  refine⟨λe=>(by rw[e] at hpl;cases hpl),?_⟩
  obtain⟨p',g',hK,hn⟩:=h
  refine⟨p',g',?_,hn⟩
  cases p' with
  |some y=>exact hK
  |none=>
   obtain⟨v,hv,hQ⟩:=hK
   refine⟨v,?_,hQ⟩
   unfold pinVal at hv
   unfold pinnedAll
   rw[pinPl_map hpl]
   exact hv
 ·exact h.elim
theorem sxFin_ok{ex:Ex}(he:ex=.normal∨ex=.ret)(h:sxFin T fn Qf s)(hc:Conc T s st):EndK T fn Qf ex st:=by
 unfold sxFin at h
 have key:(st.defs=[]∧∃v,resultA T fn st=some v∧Qf (.val v) st.glob)∨(st.defs≠[]∧fn.results.toList≠[]∧DefE T fn st.defs st.pin none st.glob Qf):=by
  split at h
  ·rename_i hd
   exact .inl ⟨hc.defs.trans hd,sxEnd_ok h hc⟩
  ·rename_i d dl hd
   obtain⟨h1,h2⟩:=sxDef_ok h
   refine .inr ⟨by rw[hc.defs,hd];simp,h1,?_⟩
   rw[hc.defs,hc.pin,hc.glob]
   exact h2
 rcases he with rfl|rfl<;>exact key
theorem sxPan_ok{x:Dat}{g:Glob}(h:sxPan T fn Qf s x g)(hg:st.glob=g)(hd:st.defs=s.defs)(hp:st.pin=s.pin):EndK T fn Qf (.panic x) st:=by
 unfold sxPan at h
 split at h
 ·rename_i e
  exact .inl ⟨hd.trans e,by rw[hg];exact h⟩
 ·rename_i d dl e
  obtain⟨h1,h2⟩:=sxDef_ok h
  refine .inr ⟨by rw[hd,e];simp,h1,?_⟩
  rw[hd,hp,hg]
  exact h2
def Md.Ev(T:Tb)(Q:Ex→St→Prop)(fr:List Fr)(st:St):Md→Prop
 |.code c=>EvX T c st (frK T fr Q)
 |.normal=>frK T fr Q .normal st
 |.exit i=>frK T fr Q (.exit i) st
 |.ret=>frK T fr Q .ret st
theorem frK_ret:∀{fr:List Fr},EndK T fn Qf .ret st→frK T fr (EndK T fn Qf) .ret st
 |[],h=>h
 |.seq b::r,h=>frK_ret (fr:=r) h
 |.loop a::r,h=>frK_ret (fr:=r) h
 |.block id::r,h=>frK_ret (fr:=r) h
theorem frK_panic{x:Dat}:∀{fr:List Fr},EndK T fn Qf (.panic x) st→frK T fr (EndK T fn Qf) (.panic x) st
 |[],h=>h
 |.seq b::r,h=>frK_panic (fr:=r) h
 |.loop a::r,h=>frK_panic (fr:=r) h
 |.block id::r,h=>frK_panic (fr:=r) h
theorem sx_ok:∀{n:Nat} {md:Md} {s:SSt} {fr:List Fr} {st:St},sx T rk fn Qf loops joins n md s fr→Conc T s st→md.Ev T (EndK T fn Qf) fr st
 |0,md,s,fr,st,h,hc=>by unfold sx at h;exact h.elim
 |n+1,.code c,s,fr,st,h,hc=>by
  unfold sx at h
  show EvX T c st (frK T fr (EndK T fn Qf))
  have pan:∀{x:Dat} {g:Glob} {st':St},sxPan T fn Qf s x g→st'.glob=g→st'.defs=s.defs→st'.pin=s.pin→frK T fr (EndK T fn Qf) (.panic x) st':=λh1 h2 h3 h4=>frK_panic (sxPan_ok h1 h2 h3 h4)
  cases c with
  |skip=>exact EvX.skip (sx_ok (n:=n) (md:=.normal) h hc)
  |label l=>exact EvX.label (sx_ok (n:=n) (md:=.normal) h hc)
  |region id ops draw=>
   obtain⟨ops⟩:=ops
   cases draw with
   |true=>
    simp only at h
    split at h
    ·rename_i hok
     refine EvX.drawnR hok ?_
     refine sxD_ok h hc ⟨rfl,λj a b h=>by simp at h⟩ rfl (λs' st' k1 k2=>sx_ok (n:=n) (md:=.normal) k1 k2) (λx g fin hp=>?_)
     exact pan (st':={st with glob:=g}) hp rfl hc.defs hc.pin
    ·exact h.elim
   |false=>
    refine EvX.region (sxOps_ok h hc hc.defs hc.pin (λs' st' k1 k2=>sx_ok (n:=n) (md:=.normal) k1 k2) λx g st' hp hg hd hpn=>?_)
    exact pan hp hg hd hpn
  |seq a b=>exact EvX.seq (sx_ok (n:=n) (md:=.code a) h hc)
  |cond x a b=>
   simp only at h
   split at h
   ·rename_i t ht
    refine EvX.cond (hc.bool ht) (λe=>?_) (λe=>?_)
    ·subst e;exact sx_ok (n:=n) (md:=.code a) h hc
    ·subst e;exact sx_ok (n:=n) (md:=.code b) h hc
   ·exact h.elim
  |block id a=>exact EvX.block (sx_ok (n:=n) (md:=.code a) h hc)
  |loop a=>
   simp only at h
   split at h
   ·exact sxCut_ok h hc
   ·exact EvX.loop (sx_ok (n:=n) (md:=.code a) h hc)
  |scope a=>exact EvX.scope (sx_ok (n:=n) (md:=.code a) h hc)
  |exit i=>exact EvX.exit (sx_ok (n:=n) (md:=.exit i) h hc)
  |ret=>exact EvX.ret (sx_ok (n:=n) (md:=.ret) h hc)
  |_=>exact h.elim
 |n+1,.normal,s,fr,st,h,hc=>by
  unfold sx at h
  show frK T fr (EndK T fn Qf) .normal st
  cases fr with
  |nil=>exact sxFin_ok (.inl rfl) h hc
  |cons f r=>
   cases f with
   |seq b=>
    simp only at h
    split at h
    ·exact sxCut_ok h hc
    ·exact sx_ok (n:=n) (md:=.code b) h hc
   |loop a=>exact sx_ok (n:=n) (md:=.code (.loop a)) h hc
   |block id=>exact sx_ok (n:=n) (md:=.normal) (fr:=r) h hc
 |n+1,.exit i,s,fr,st,h,hc=>by
  unfold sx at h
  show frK T fr (EndK T fn Qf) (.exit i) st
  cases fr with
  |nil=>exact h.elim
  |cons f r=>
   cases f with
   |seq b=>exact sx_ok (n:=n) (md:=.exit i) (fr:=r) h hc
   |loop a=>exact sx_ok (n:=n) (md:=.exit i) (fr:=r) h hc
   |block id=>
    simp only at h
    split at h
    ·rename_i e
     have e:i=id:=by simpa using e
     subst e
     exact wExitHere (sx_ok (n:=n) (md:=.normal) (fr:=r) h hc)
    ·rename_i e
     have e:i≠id:=by simpa using e
     exact wExitOn e (sx_ok (n:=n) (md:=.exit i) (fr:=r) h hc)
 |n+1,.ret,s,fr,st,h,hc=>by
  unfold sx at h
  exact frK_ret (sxFin_ok (.inr rfl) h hc)
theorem setS_get{bc tc:Mp Nat}{B:Mp (Nat×Box)}{C:Mp (Nat×Option (Nat×Nat))}:∀{args:List (TypeId×Dat)} {i:Nat} {m:Mp SV} {m':Mp Val},AllTy T args→
 (∀t sv,m.get t=some sv→∃v,m'.get t=some v∧ConcV T bc tc B C sv v)→∀t sv,(setS i args m).get t=some sv→∃v,(entry.setRegs i (args.map (·.2)) m').get t=some v∧ConcV T bc tc B C sv v
 |[],i,m,m',_,h=>h
 |p::l,i,m,m',ht,h=>by
  refine setS_get (args:=l) ht.2 λt sv hs=>?_
  rw[Mp.get_set] at hs⊢
  split at hs
  ·rename_i e
   cases hs
   rw[if_pos e]
   exact⟨_,rfl,rfl,rfl,ht.1⟩
  ·rename_i e
   rw[if_neg e]
   exact h t sv hs
theorem start_conc{f:FuncId}{args:List (TypeId×Dat)}{g:Glob}(ht:AllTy T args):Conc T (startS T f fn args g) (entry T f fn (args.map (·.2)) g) where
 nt:=by simp[entry,startS]
 esc:=rfl
 res:=rfl
 defs:=rfl
 pin:=rfl
 glob:=rfl
 regs:=setS_get ht λt sv h=>by rw[Mp.get_empty] at h;cases h
 boxes:=λk sb h=>by rw[show(startS T f fn args g).boxes=⟨[]⟩ from rfl,Mp.get_empty] at h;cases h
theorem sx_enter{f:FuncId}{c:Code}{args:List (TypeId×Dat)}{ds:List Dat}{g:Glob}{n:Nat}(hx:T.ext f=none)(hf:T.fn f=some fn)(hb:fn.body=some c)(hds:args.map (·.2)=ds)(ht:AllTy T args)
 (h:sx T rk fn Qf loops joins n (.code c) (startS T f fn args g) []):EvF T f ds g Qf:=by
 subst hds
 exact EvF.enter hx hf hb (sx_ok h (start_conc ht))
theorem sx_def{f:FuncId}{c c':Code}{args:List (TypeId×Dat)}{ds:List Dat}{g:Glob}{n d:Nat}{t:TypeId}{p:Option Dat}{K:Option Dat→Glob→Prop}(hf:T.fn f=some fn)(hb:fn.body=some c)(hr:recovers c=some (d,c'))(hd:d<(startS T f fn args g).nt)(hn:fn.results.toList=[])
 (hds:args.map (·.2)=ds) (ht:AllTy T args) (hp:HasTy T t (p.getD .nilIface))
 (h:sx T rk fn (λout g'=>match out with|.val _=>K none g'|.panic _=>False) loops joins n (.code c') ((startS T f fn args g).put (some d) (.v t (p.getD .nilIface))) []):EvL T [(f,ds)] p g K:=by
 subst hds
 refine EvL.one hf hb hr ?_ hn (sx_ok h ((start_conc ht).put _ ⟨rfl,?_,hp⟩))
 ·rw[(start_conc (fn:=fn) (f:=f) (g:=g) ht).nt];exact hd
 ·rfl
theorem sx_loop{a:Code}{fr:List Fr}{n:Nat}(h:sx T rk fn Qf loops joins n (.code a) s (.loop a::fr)):Cut T (.loop a) fr (EndK T fn Qf) s:=λst hc=>EvX.loop (sx_ok (md:=.code a) h hc)
theorem sx_join{b:Code}{fr:List Fr}{n:Nat}(h:sx T rk fn Qf loops joins n (.code b) s fr):Cut T b fr (EndK T fn Qf) s:=λst hc=>sx_ok (md:=.code b) h hc
end
end Go.Proofs.YtiheejdkkjfenaaGreatDoor.Am
namespace Go.Proofs.YtiheejdkkjfenaaGreatDoor.Am
open Go
def frAt:Code→List Nat→List Fr→List Fr
 |_,[],fr=>fr
 |.seq a b,0::p,fr=>frAt a p (.seq b::fr)
 |.seq _ b,_::p,fr=>frAt b p fr
 |.cond _ a _,0::p,fr=>frAt a p fr
 |.cond _ _ b,_::p,fr=>frAt b p fr
 |.block id a,_::p,fr=>frAt a p (.block id::fr)
 |.loop a,_::p,fr=>frAt a p (.loop a::fr)
 |.scope a,_::p,fr=>frAt a p fr
 |_,_::_,fr=>fr
def mkC(T:Tb)(f:FuncId)(fn:Func)(n:Nat)(regs:List (Nat×SV))(boxes:List (Nat×SBox))(g:Glob):SSt:=
 {nt:=max n fn.ntmps,esc:=T.esc f,res:=fn.results.toList,regs:=mkMp regs,boxes:=mkMp boxes,bc:=⟨[]⟩,tc:=⟨[]⟩,glob:=g}
def CutP(T:Tb)(fn:Func)(p:List Nat)(Qf:OGP)(s:SSt):Prop:=Cut T (codeAt (bodyOf fn) p) (frAt (bodyOf fn) p []) (EndK T fn Qf) s
def sxP(T:Tb)(rk:FuncId→RK)(fn:Func)(Qf:OGP)(loops joins:List CutI)(n:Nat)(p:List Nat)(s:SSt):Prop:=
 match codeAt (bodyOf fn) p with
 |.loop a=>sx T rk fn Qf loops joins n (.code a) s (.loop a::frAt (bodyOf fn) p [])
 |c=>sx T rk fn Qf loops joins n (.code c) s (frAt (bodyOf fn) p [])
def sxF(T:Tb)(rk:FuncId→RK)(f:FuncId)(fn:Func)(Qf:OGP)(loops joins:List CutI)(n:Nat)(args:List (TypeId×Dat))(g:Glob):Prop:=
 sx T rk fn Qf loops joins n (.code (bodyOf fn)) (startS T f fn args g) []
variable{T:Tb}{rk:FuncId→RK}{f:FuncId}{fn:Func}{Qf:OGP}{loops joins:List CutI}{n:Nat}{p:List Nat}{s:SSt}{S:Prop}{g:Glob}
theorem sx_cut(he:S=sxP T rk fn Qf loops joins n p s)(h:S):CutP T fn p Qf s:=by
 subst he
 unfold sxP at h
 unfold CutP
 split at h
 ·rename_i a ha
  rw[ha]
  exact sx_loop h
 ·exact sx_join h
theorem sx_fun{args:List (TypeId×Dat)}{ds:List Dat}(hx:T.ext f=none)(hf:T.fn f=some fn)(hb:fn.body=some (bodyOf fn))(hds:args.map (·.2)=ds)(ht:AllTy T args)
 (he:S=sxF T rk f fn Qf loops joins n args g) (h:S):EvF T f ds g Qf:=by
 subst he
 exact sx_enter hx hf hb hds ht h
theorem tyBool{t:TypeId}{b:Bool}(h:T.und t=some .bool):HasTy T t (.bool b):=.bool _ _ (isB0_of h)
theorem tyInt{t:TypeId}{k:IntKind}{n:Int}(h:T.und t=some (.int k)):HasTy T t (.int k n):=.int _ _ _ (isI0_of h)
theorem tyStr{t:TypeId}{b:List UInt8}(h:T.und t=some .string)(hl:b.length≤2^40):HasTy T t (.str b):=.str _ _ h hl
theorem tyClo{t:TypeId}{f:FuncId}{c:List Dat}(h:isF (T.und t)=true):HasTy T t (.clo f c):=.clo _ _ _ h
theorem tyPtr{t:TypeId}{a:Option (Nat×Nat)}(h:isP (T.und t)=true):HasTy T t (.ptr a):=.ptr _ _ (by simp[isP0,h])
theorem neZ{n:Int}(h:n≠0):NeZ n:=h
theorem Br_true{A B:Prop}:Br true A B=A:=rfl
theorem Br_false{A B:Prop}:Br false A B=B:=rfl
theorem Br_iff{c:Bool}{A B:Prop}:Br c A B↔(c=true→A)∧(c=false→B):=by cases c<;>simp[Br]
end Go.Proofs.YtiheejdkkjfenaaGreatDoor.Am
namespace Go.Proofs.YtiheejdkkjfenaaGreatDoor.Am
open Go
theorem tyPtr0{T:Tb}{t:TypeId}{a:Option (Nat×Nat)}(h:isP0 (T.und t)=true):HasTy T t (.ptr a):=.ptr _ _ h
def KeyIs(s:Bool):Dat→Bool
 |.str _=>s
 |.int .i64 _=>!s
 |_=>false
theorem keyEq_is{s:Bool}{a b:Dat}(ha:KeyIs s a=true)(hb:KeyIs s b=true):keyEq a b=some (a.beq b):=by
 cases a with
 |str x=>
  cases b with
  |str y=>rfl
  |int k n=>cases k<;>cases s<;>simp_all[KeyIs]
  |_=>cases hb
 |int k x=>
  cases b with
  |str y=>cases k<;>cases s<;>simp_all[KeyIs]
  |int k' n=>cases k<;>first|cases ha|(cases k'<;>first|cases hb|simp[keyEq,Dat.beq])
  |_=>cases hb
 |_=>cases ha
theorem beq_false{a b:Dat}(h:a.beq b=false):a≠b:=λe=>by rw[e,Dat.beq_refl] at h;cases h
structure EsIs(s:Bool)(es:Entries)(c:Nat)(F:Dat→Option Dat):Prop where
 key:∀e∈es,KeyIs s e.1=true
 lt:∀e∈es,e.2.2<c
 nk:(es.map (·.1)).Pairwise (·≠·)
 nb:(es.map (·.2.2)).Pairwise (·≠·)
 has:∀k x,F k=some x↔∃e∈es,e.1=k∧e.2.1=x
variable{s:Bool}{es:Entries}{c:Nat}{F:Dat→Option Dat}{k x z:Dat}{g:Glob}{i:Nat}
theorem findK_cases(hk:KeyIs s k=true):∀{es:Entries} {i:Nat},(∀e∈es,KeyIs s e.1=true)→
 (findK k es i=some none∧∀e∈es,e.1≠k)∨∃l1 e l2,es=l1++e::l2∧e.1=k∧findK k es i=some (some (i+l1.length,e.2.1))
 |[],i,_=>.inl ⟨rfl,λe h=>by cases h⟩
 |e::es,i,h=>by
  unfold findK
  rw[keyEq_is hk (h e List.mem_cons_self)]
  cases hb:k.beq e.1 with
  |true=>exact .inr ⟨[],e,es,rfl,(Dat.eq_of_beq hb).symm,rfl⟩
  |false=>
   have hne:=beq_false hb
   rcases findK_cases hk (i:=i+1) (λe' he=>h e' (List.mem_cons_of_mem _ he)) with ⟨h1,h2⟩|⟨l1,e',l2,h1,h2,h3⟩
   ·refine .inl ⟨h1,λe' he=>?_⟩
    rcases List.mem_cons.1 he with rfl|he
    ·exact λq=>hne q.symm
    ·exact h2 e' he
   ·refine .inr ⟨e::l1,e',l2,by rw[h1];rfl,h2,?_⟩
    simp only
    rw[h3,List.length_cons]
    congr 3
    omega
theorem EsIs.uniq(h:EsIs s es c F){l1 l2:Entries}{e:Dat×Dat×Nat}(he:es=l1++e::l2):(∀e'∈l1++l2,e'.1≠e.1∧e'.2.2≠e.2.2):=by
 have h1:=h.nk
 have h2:=h.nb
 rw[he,List.map_append,List.map_cons,List.pairwise_append,List.pairwise_cons] at h1 h2
 intro e' hm
 rcases List.mem_append.1 hm with hm|hm
 ·exact⟨h1.2.2 _ (List.mem_map_of_mem hm) _ List.mem_cons_self,h2.2.2 _ (List.mem_map_of_mem hm) _ List.mem_cons_self⟩
 ·exact⟨λq=>h1.2.1.1 _ (List.mem_map_of_mem hm) q.symm,λq=>h2.2.1.1 _ (List.mem_map_of_mem hm) q.symm⟩
theorem EsIs.find(h:EsIs s es c F)(hk:KeyIs s k=true)(j:Nat):
 (F k=none∧findK k es j=some none∧∀e∈es,e.1≠k)∨∃l1 e l2,es=l1++e::l2∧e.1=k∧F k=some e.2.1∧findK k es j=some (some (j+l1.length,e.2.1)):=by
 rcases findK_cases hk (i:=j) h.key with ⟨h1,h2⟩|⟨l1,e,l2,h1,h2,h3⟩
 ·refine .inl ⟨?_,h1,h2⟩
  cases hF:F k with
  |none=>rfl
  |some x=>
   obtain⟨e,he,rfl,_⟩:=(h.has _ _).1 hF
   exact absurd rfl (h2 e he)
 ·exact .inr ⟨l1,e,l2,h1,h2,(h.has _ _).2 ⟨e,by rw[h1];simp,h2,rfl⟩,h3⟩
theorem modify_split{α:Type}(f:α→α)(e:α)(l2:List α):∀l1:List α,(l1++e::l2).modify l1.length f=l1++f e::l2
 |[]=>rfl
 |a::l1=>by
  have:=modify_split f e l2 l1
  simp only[List.cons_append,List.length_cons,List.modify_succ_cons,this]
noncomputable def updF(F:Dat→Option Dat)(k:Dat)(r:Option Dat):Dat→Option Dat:=λk'=>@ite _ (k'=k) (Classical.propDecidable _) r (F k')
theorem updF_same(F:Dat→Option Dat)(k:Dat)(r:Option Dat):updF F k r k=r:=by unfold updF;rw[if_pos rfl]
theorem updF_ne(F:Dat→Option Dat){k k':Dat}(r:Option Dat)(h:k'≠k):updF F k r k'=F k':=by unfold updF;rw[if_neg h]
theorem EsIs.put(h:EsIs s es c F){l1 l2:Entries}{e:Dat×Dat×Nat}(he:es=l1++e::l2)(x:Dat):EsIs s (l1++(e.1,x,e.2.2)::l2) c (updF F e.1 (some x)) where
 key e' hm:=by
  rcases List.mem_append.1 hm with hm|hm
  ·exact h.key e' (by rw[he];simp[hm])
  ·rcases List.mem_cons.1 hm with rfl|hm
   ·exact h.key e (by rw[he];simp)
   ·exact h.key e' (by rw[he];simp[hm])
 lt e' hm:=by
  rcases List.mem_append.1 hm with hm|hm
  ·exact h.lt e' (by rw[he];simp[hm])
  ·rcases List.mem_cons.1 hm with rfl|hm
   ·exact h.lt e (by rw[he];simp)
   ·exact h.lt e' (by rw[he];simp[hm])
 nk:=by
  have:=h.nk
  rw[he] at this
  simpa using this
 nb:=by
  have:=h.nb
  rw[he] at this
  simpa using this
 has k' y:=by
  have hu:=h.uniq he
  by_cases hk:k'=e.1
  ·subst hk
   rw[updF_same]
   constructor
   ·intro q
    cases q
    exact⟨(e.1,x,e.2.2),by simp,rfl,rfl⟩
   ·rintro ⟨e',hm,h1,h2⟩
    rcases List.mem_append.1 hm with hm|hm
    ·exact absurd h1 (hu e' (by simp[hm])).1
    ·rcases List.mem_cons.1 hm with rfl|hm
     ·rw[←h2]
     ·exact absurd h1 (hu e' (by simp[hm])).1
  ·rw[updF_ne _ _ hk,h.has]
   constructor
   ·rintro ⟨e',hm,h1,h2⟩
    rw[he] at hm
    rcases List.mem_append.1 hm with hm|hm
    ·exact⟨e',by simp[hm],h1,h2⟩
    ·rcases List.mem_cons.1 hm with rfl|hm
     ·exact absurd h1.symm hk
     ·exact⟨e',by simp[hm],h1,h2⟩
   ·rintro ⟨e',hm,h1,h2⟩
    rcases List.mem_append.1 hm with hm|hm
    ·exact⟨e',by rw[he];simp[hm],h1,h2⟩
    ·rcases List.mem_cons.1 hm with rfl|hm
     ·exact absurd h1.symm hk
     ·exact⟨e',by rw[he];simp[hm],h1,h2⟩
theorem EsIs.add(h:EsIs s es c F)(hk:KeyIs s k=true)(hn:∀e∈es,e.1≠k)(x:Dat):EsIs s (es++[(k,x,c)]) (c+1) (updF F k (some x)) where
 key e' hm:=by
  rcases List.mem_append.1 hm with hm|hm
  ·exact h.key e' hm
  ·rw[List.mem_singleton] at hm;subst hm;exact hk
 lt e' hm:=by
  rcases List.mem_append.1 hm with hm|hm
  ·exact Nat.lt_succ_of_lt (h.lt e' hm)
  ·rw[List.mem_singleton] at hm;subst hm;exact Nat.lt_succ_self c
 nk:=by
  rw[List.map_append,List.pairwise_append]
  refine⟨h.nk,by simp,λa ha b hb=>?_⟩
  obtain⟨e,he,rfl⟩:=List.mem_map.1 ha
  simp only[List.map_cons,List.map_nil,List.mem_singleton] at hb
  subst hb
  exact hn e he
 nb:=by
  rw[List.map_append,List.pairwise_append]
  refine⟨h.nb,by simp,λa ha b hb=>?_⟩
  obtain⟨e,he,rfl⟩:=List.mem_map.1 ha
  simp only[List.map_cons,List.map_nil,List.mem_singleton] at hb
  subst hb
  exact Nat.ne_of_lt (h.lt e he)
 has k' y:=by
  by_cases hk:k'=k
  ·subst hk
   rw[updF_same]
   constructor
   ·intro q
    injection q with q
    exact⟨(k',x,c),by simp,rfl,q⟩
   ·rintro ⟨e',hm,h1,h2⟩
    rcases List.mem_append.1 hm with hm|hm
    ·exact absurd h1 (hn e' hm)
    ·rw[List.mem_singleton] at hm;subst hm;rw[←h2]
  ·rw[updF_ne _ _ hk,h.has]
   constructor
   ·rintro ⟨e',hm,h1,h2⟩
    exact⟨e',by simp[hm],h1,h2⟩
   ·rintro ⟨e',hm,h1,h2⟩
    rcases List.mem_append.1 hm with hm|hm
    ·exact⟨e',hm,h1,h2⟩
    ·rw[List.mem_singleton] at hm;subst hm;exact absurd h1.symm hk
def MapIs(s:Bool)(g:Glob)(i:Nat)(F:Dat→Option Dat):Prop:=∃es c,g.boxes[i]?=some (.map es c)∧EsIs s es c F
def OneBox(i:Nat)(g g':Glob):Prop:=∃b,g'={g with boxes:=g.boxes.set i b}
theorem OneBox.get{g':Glob}(h:OneBox i g g'){j:Nat}(hj:j≠i):g'.boxes[j]?=g.boxes[j]?:=by
 obtain⟨b,rfl⟩:=h
 simp only
 rw[List.getElem?_set_ne (λe=>hj e.symm)]
theorem OneBox.len{g':Glob}(h:OneBox i g g'):g'.boxes.length=g.boxes.length:=by obtain⟨b,rfl⟩:=h;simp
theorem OneBox.toks{g':Glob}(h:OneBox i g g'):g'.toks=g.toks:=by obtain⟨b,rfl⟩:=h;rfl
theorem OneBox.trans{g1 g2:Glob}(h:OneBox i g g1)(h':OneBox i g1 g2):OneBox i g g2:=by
 obtain⟨b,rfl⟩:=h
 obtain⟨b',rfl⟩:=h'
 exact⟨b',by simp⟩
theorem OneBox.gset{es:Entries}{c:Nat}:OneBox i g (gset g i es c):=⟨_,rfl⟩
theorem MapIs.other{g':Glob}{j:Nat}(h:MapIs s g i F)(hg:g'.boxes[i]?=g.boxes[i]?):MapIs s g' i F:=by
 obtain⟨es,c,h1,h2⟩:=h
 exact⟨es,c,hg.trans h1,h2⟩
theorem MapIs.lt(h:MapIs s g i F):i<g.boxes.length:=by
 obtain⟨es,c,h1,_⟩:=h
 exact(List.getElem?_eq_some_iff.1 h1).1
theorem mapIs_gset{es:Entries}{c:Nat}(hi:i<g.boxes.length)(h:EsIs s es c F):MapIs s (gset g i es c) i F:=⟨es,c,by simp[gset,hi],h⟩
theorem MapIs.look(h:MapIs s g i F)(hk:KeyIs s k=true):glook g i k=some (F k):=by
 obtain⟨es,c,h1,h2⟩:=h
 unfold glook
 rw[h1]
 simp only
 rcases h2.find hk 0 with ⟨a,b,_⟩|⟨l1,e,l2,a,b,c',d⟩
 ·rw[b,a];rfl
 ·rw[d,c'];rfl
theorem MapIs.mlook(h:MapIs s g i F)(hk:KeyIs s k=true):MLook g (some i) z k ((F k).getD z) (F k).isSome:=by
 have hl:=h.look hk
 show((F k).isSome=true∧glook g i k=some (some ((F k).getD z)))∨((F k).isSome=false∧(F k).getD z=z∧glook g i k=some none)
 rw[hl]
 cases F k with
 |none=>exact .inr ⟨rfl,rfl,rfl⟩
 |some x=>exact .inl ⟨rfl,rfl⟩
theorem MapIs.put(h:MapIs s g i F)(hk:KeyIs s k=true)(x:Dat):∃g',gmput g i k x=some g'∧OneBox i g g'∧MapIs s g' i (updF F k (some x)):=by
 have hi:=h.lt
 obtain⟨es,c,h1,h2⟩:=h
 unfold gmput putK
 rw[h1]
 simp only
 rcases h2.find hk 0 with ⟨a,b,hn⟩|⟨l1,e,l2,a,b,c',d⟩
 ·rw[b]
  exact⟨_,rfl,OneBox.gset,mapIs_gset hi (h2.add hk hn x)⟩
 ·rw[d]
  subst a b
  simp only[Nat.zero_add]
  rw[modify_split]
  exact⟨_,rfl,OneBox.gset,mapIs_gset hi (h2.put rfl x)⟩
theorem mapIs_new(s:Bool)(g:Glob):MapIs s (gmnew g) g.boxes.length (λ_=>none):=
 ⟨[],0,by simp[gmnew],{key:=λe h=>(by cases h),lt:=λe h=>(by cases h),nk:=List.Pairwise.nil,nb:=List.Pairwise.nil,has:=λk x=>⟨λh=>(by cases h),λ⟨e,h,_⟩=>(by cases h)⟩}⟩
end Go.Proofs.YtiheejdkkjfenaaGreatDoor.Am
