/- Regions, told as propositions. Regions that draw, told as propositions: they are so. Code, told as a proposition: functions and their loops. Functions and loops by name. Maps that are numbered: what they hold, as a function of the key. -/
import Derived.Test.YtiheejdkkjfenaaGreatDoorQG
set_option linter.all false
set_option autoImplicit false
namespace Go.Proofs.YtiheejdkkjfenaaGreatDoor.Am
open Go
variable(T:Tb)
def SSt.know(s:SSt)(t:Nat)(b:Bool):SSt:=
 match s.regs.get t with
 |some (.v ty (.bool _))=>{s with regs:=s.regs.set t (.v ty (.bool b))}
 |_=>s
def sWa(ops:Array Oper)(o:Oper)(s:SSt)(go skip:SSt→Prop):Prop:=
 match o.guard with
 |none=>go s
 |some (j,b)=>match (ops[j]?).bind (·.dst) with
  |some t=>(match s.regs.get t with
   |some (.v _ (.bool c))=>(match b with|true=>Br c (go (s.know t true)) (skip (s.know t false))|false=>Br c (skip (s.know t true)) (go (s.know t false)))
   |some .off=>skip s
   |_=>False)
  |none=>False
def pni(s:SSt)(x:Operand):Option Dat:=
 match x with
 |.tmp i=>(match s.regs.get i with|some (.v _ (.iface t d))=>some (.iface t d)|_=>none)
 |_=>none
def pnS(s:SSt):List ResultVar→Option (List (Nat×Nat×Nat))
 |[]=>some []
 |.cell t _::l=>(match s.regs.get t,pnS s l with
  |some (.v _ (.ptr (some (i,o)))),some r=>some ((t,i,o)::r)
  |_,_=>none)
 |.tmp _::l=>pnS s l
def sDf(o:Oper)(c:Call)(s:SSt)(N:SSt→Prop):Prop:=
 match c.callee with
 |.value f=>(match s.fn f,arS T s c.args.toList c.argTypes.toList,pnS s s.res with
  |some (fn,[],cap),some ds,some pin=>if nP pin o.dst then N ({s with defs:=(fn,ds++cap)::s.defs,pin:=pin}.put o.dst .junk) else False
  |_,_,_=>False)
 |_=>False
def sxp(rk:FuncId→RK)(ops:Array Oper)(P:Dat→Glob→Prop)(N:SSt→Prop):List Oper→SSt→Prop
 |[],s=>N s
 |o::l,s=>
  if dO s.nt o.dst&&nP s.pin o.dst then
   sWa ops o s (λs=>match o.op with
    |.defer c=>(match l with
     |[]=>sDf T o c s N
     |_=>False)
    |.call ⟨.value f,args,ats⟩=>sCl T rk o ⟨.value f,args,ats⟩ s P λ_ s'=>sxp rk ops P N l s'
    |.call ⟨.invoke f m,args,ats⟩=>sCl T rk o ⟨.invoke f m,args,ats⟩ s P λ_ s'=>sxp rk ops P N l s'
    |.panic x=>(match pni s x with|some d=>P d s.glo|none=>False)
    |_=>sA2 T o s λ_ s'=>sxp rk ops P N l s')
    (λs=>sxp rk ops P N l (s.put o.dst .off))
  else False
structure SE where
 i:Nat
 ft:SFe
 g0:Glob
 g1:Glob
def Gm(t:TypeId)(i o:Nat)(g0 g1:Glob):Prop:=∃a b,gla T t g0 i o=some a∧gla T t g1 i o=some b∧a.same b=true
def MS(g0 g1:Glob)(i:Nat)(k:Dat):Prop:=∃r,glk g0 i k=some r∧glk g1 i k=some r
def LSa(g0 g1:Glob)(i:Nat):Prop:=∃n,gml g0 i=some n∧gml g1 i=some n
def RS(r:Rd)(g0 g1:Glob):Prop:=
 match r with
 |.cell t i o=>Gm T t i o g0 g1
 |.map i _ k _=>MS g0 g1 i k
 |.size i=>LSa g0 g1 i
def boA(a b:SFe):Bool:=
 match a.box,b.box with
 |some (k,w),some (k',w')=>k !=k'||(!w&&!w')
 |_,_=>true
def tor(a b:SFe):Bool:=a.toks.all λk=>!(b.toks.contains k)
def aK(bf:Array Nat)(b:SE)(K:Prop):List SE→Prop
 |[]=>K
 |a::l=>
  if (bf.getD b.i 0).testBit a.i then aK bf b K l
  else if boA a.ft b.ft&&tor a.ft b.ft&&!(a.ft.wr&&b.ft.wr)&&!((a.ft.rd.isSome&&a.ft.wr)||(b.ft.rd.isSome&&b.ft.wr)) then
   (match a.ft.rd,b.ft.wr with
   |some r,true=>RS T r b.g0 b.g1∧aK bf b K l
   |_,_=>(match b.ft.rd,a.ft.wr with
    |some r,true=>RS T r a.g0 a.g1∧aK bf b K l
    |_,_=>aK bf b K l))
  else False
def caF(dst:Option Nat):SFe:={toks:=dst.toList,wr:=true}
def sxD(rk:FuncId→RK)(ops:Array Oper)(bf:Array Nat):Nat→List Nat→SSt→List SE→(Dat→Glob→Prop)→(SSt→Prop)→Prop
 |0,_,_,_,_,_=>False
 |_+1,[],s,_,_,N=>N s
 |n+1,i::l,s,pre,P,N=>
  match ops[i]? with
  |none=>False
  |some o=>
   if (dO s.nt o.dst&&nP s.pin o.dst)&&(iD o.op).isNone then
    sWa ops o s (λs=>match o.op with
     |.call ⟨.value f,args,ats⟩=>sCl T rk o ⟨.value f,args,ats⟩ s
      (λx g=>aK T bf ⟨i,caF o.dst,s.glo,s.glo⟩ (sxD rk ops bf n (l.filter λj=>!(bf.getD j 0).testBit i) s (⟨i,caF o.dst,s.glo,s.glo⟩::pre) (λ_ _=>False) (λ_=>P x g)) pre)
      (λg s'=>aK T bf ⟨i,caF o.dst,s.glo,g⟩ (sxD rk ops bf n l s' (⟨i,caF o.dst,s.glo,g⟩::pre) P N) pre)
     |.call ⟨.invoke f m,args,ats⟩=>sCl T rk o ⟨.invoke f m,args,ats⟩ s
      (λx g=>aK T bf ⟨i,caF o.dst,s.glo,s.glo⟩ (sxD rk ops bf n (l.filter λj=>!(bf.getD j 0).testBit i) s (⟨i,caF o.dst,s.glo,s.glo⟩::pre) (λ_ _=>False) (λ_=>P x g)) pre)
      (λg s'=>aK T bf ⟨i,caF o.dst,s.glo,g⟩ (sxD rk ops bf n l s' (⟨i,caF o.dst,s.glo,g⟩::pre) P N) pre)
     |.panic x=>(match pni s x with
      |some d=>aK T bf ⟨i,{wr:=true},s.glo,s.glo⟩ (sxD rk ops bf n (l.filter λj=>!(bf.getD j 0).testBit i) s (⟨i,{wr:=true},s.glo,s.glo⟩::pre) (λ_ _=>False) (λ_=>P d s.glo)) pre
      |none=>False)
     |_=>sA2 T o s λft s'=>aK T bf ⟨i,ft,s.glo,s'.glo⟩ (sxD rk ops bf n l s' (⟨i,ft,s.glo,s'.glo⟩::pre) P N) pre)
     (λs=>aK T bf ⟨i,{},s.glo,s.glo⟩ (sxD rk ops bf n l (s.put o.dst .off) (⟨i,{},s.glo,s.glo⟩::pre) P N) pre)
   else False
section
variable{T:Tb}{ops:Array Oper}{bf:Array Nat}{s s':SSt}{st st':St}{o:Oper}{rk:FuncId→RK}
theorem kno{t:Nat}{b c:Bool}{ty:TypeId}(hc:Conc T s st)(hs:s.regs.get t=some (.v ty (.bool c)))(e:c=b):Conc T (s.know t b) st:=by
 subst e;unfold SSt.know;rw[hs];refine⟨hc.nt,hc.esc,hc.res,hc.defs,hc.pin,hc.glo,λt' sv ht=>?_,hc.boxes⟩;rw[Mp.gee] at ht;split at ht
 ·rename_i e;cases ht;rw[←e];exact hc.regs t _ hs
 ·exact hc.regs t' sv ht
theorem wat{go skip:SSt→Prop}(h:sWa ops o s go skip)(hc:Conc T s st):(wan ops o st.regs=some true∧∃s',go s'∧Conc T s' st)∨(wan ops o st.regs=some false∧∃s',skip s'∧Conc T s' st):=by
 unfold sWa at h;unfold wan;split at h
 ·rename_i hg;rw[hg];exact .inl ⟨rfl,s,h,hc⟩
 ·rename_i j b hg;rw[hg];simp only;split at h
  ·rename_i t ht;rw[ht];simp only;split at h
   ·rename_i u c hs;obtain⟨v,h1,h2,_⟩:=hc.regs t _ hs;have:=tol h2 rfl;subst this;rw[h1];cases b<;>cases c<;>simp only[Br] at h
    ·exact .inl ⟨rfl,_,h,kno hc hs rfl⟩
    ·exact .inr ⟨rfl,_,h,kno hc hs rfl⟩
    ·exact .inr ⟨rfl,_,h,kno hc hs rfl⟩
    ·exact .inl ⟨rfl,_,h,kno hc hs rfl⟩
   ·rename_i hs;obtain⟨v,h1,h2⟩:=hc.regs t _ hs;have:v=.tuple []:=h2;subst this;rw[h1];exact .inr ⟨rfl,s,h,hc⟩
   ·exact h.elim
  ·exact h.elim
theorem dso(h:(dO s.nt o.dst&&nP s.pin o.dst)=true)(hc:Conc T s st):(dO st.nt o.dst&&nP st.pin o.dst)=true:=by
 rw[hc.nt,hc.pin];exact h
theorem pac{x:Operand}{d:Dat}(h:pni s x=some d)(hc:Conc T s st):∃t y,d=.iface t y∧Am.ev st.regs x=.d (.iface t y):=by
 unfold pni at h;cases x with
 |tmp i=>
  simp only at h;split at h
  ·rename_i u t y hs;cases h;obtain⟨v,h1,h2,_⟩:=hc.regs i _ hs;exact⟨t,y,rfl,by simp only[Am.ev,h1,Option.getD_some];exact tol h2 rfl⟩
  ·cases h
 |_=>cases h
theorem sCa{c:Call}{P:Dat→Glob→Prop}{N:Glob→SSt→Prop}(h:sCl T rk o c s P N)(hc:Conc T s st):
 ∃fn ds,Cae T (Am.ev st.regs) c fn ds∧
  EvF T fn ds st.glo (λout g=>Ou (λx=>P x g) (λv=>∃s',N g s'∧Conc T s' (bac st o.dst v g)) out):=by
 have key:∀{rk:RK} {fn:FuncId} {ds:List Dat},EvF T fn ds s.glo (λout g=>sOu T rk o s P N out g)→
  EvF T fn ds st.glo (λout g=>Ou (λx=>P x g) (λv=>∃s',N g s'∧Conc T s' (bac st o.dst v g)) out):=λ{rk fn ds} h=>by
  rw[hc.glo];refine h.mono λout g ho=>?_;cases out with
  |panic x=>exact ho
  |val v=>
   have ho:(match o.dst with|none=>N g (seG s g)|some k=>sBa T rk k o.type (seG s g) v (N g)):=ho;show ∃s',N g s'∧Conc T s' (bac st o.dst v g);cases hd:o.dst with
   |none=>rw[hd] at ho;exact⟨_,ho,hc.gob g⟩
   |some k=>rw[hd] at ho;exact sBc ho hc
 unfold sCl at h;split at h
 ·rename_i ds ha;have ha:=hc.args ha;split at h
  ·rename_i fo hfo;split at h
   ·rename_i fn fst cap hf;rcases hc.fn hf with ⟨rfl,hq⟩|⟨r,rfl,rfl,hq⟩
    ·exact⟨fn,_,⟨ds,ha,.inl ⟨fo,cap,hfo,hq,rfl⟩⟩,key h⟩
    ·exact⟨fn,_,⟨ds,ha,.inr (.inl ⟨fo,r,hfo,hq,by simp⟩)⟩,key h⟩
   ·split at h
    ·rename_i x hx;split at h
     ·obtain⟨fn,r,rfl,h⟩:=h;exact⟨fn,_,⟨ds,ha,.inr (.inl ⟨fo,r,hfo,hc.fnx hx rfl,rfl⟩)⟩,key h⟩
     ·obtain⟨fn,cap,rfl,h⟩:=h;exact⟨fn,_,⟨ds,ha,.inl ⟨fo,cap,hfo,hc.fnx hx rfl,rfl⟩⟩,key h⟩
    ·exact h.elim
  ·rename_i r m hr;split at h
   ·rename_i x hx;obtain⟨t,v,fn,rfl,hm,h⟩:=h;exact⟨fn,_,⟨ds,ha,.inr (.inr ⟨r,m,t,v,hr,hc.fnx hx rfl,hm,rfl⟩)⟩,key h⟩
   ·exact h.elim
  ·exact h.elim
 ·exact h.elim
theorem cak{dst:Option Nat}{c:Call}{ty:TypeId}{pos:String}{after:Array Edge}{guard:Option (Nat×Bool)}{fn:FuncId}{ds:List Dat}(hw:wan ops ⟨dst,.call c,ty,pos,after,guard⟩ st.regs=some true)(h:Cae T (Am.ev st.regs) c fn ds)(R:Caller):
 kiA T R ops ⟨dst,.call c,ty,pos,after,guard⟩ st=some (doC R fn ds dst):=by
 obtain⟨callee,args,ats⟩:=c;obtain⟨xs,hx,⟨fo,cap,hc,hf,rfl⟩|⟨fo,r,hc,hf,rfl⟩|⟨r,m,t,v,hc,hr,hm,rfl⟩⟩:=h
 ·simp only at hc hx;subst hc;unfold kiA;rw[hw];simp only[doing,hf,hx]
 ·simp only at hc hx;subst hc;unfold kiA;rw[hw];simp only[doing,hf,hx]
 ·simp only at hc hx;subst hc;unfold kiA;rw[hw];simp only[doing,hr,hx,hm]
theorem cae{dst:Option Nat}{c:Call}{ty:TypeId}{pos:String}{after:Array Edge}{guard:Option (Nat×Bool)}{fn:FuncId}{ds:List Dat}(hd:(dO st.nt dst&&nP st.pin dst)=true)(hw:wan ops ⟨dst,.call c,ty,pos,after,guard⟩ st.regs=some true)(h:Cae T (Am.ev st.regs) c fn ds)(R:Caller):
 (∀v g',R fn ds st.glo=some (.val v,g')→∃u,ste T R ops ⟨dst,.call c,ty,pos,after,guard⟩ st=some (.val u,bac st dst v g'))∧
 (∀x g',R fn ds st.glo=some (.panic x,g')→ste T R ops ⟨dst,.call c,ty,pos,after,guard⟩ st=some (.panic x,{st with glo:=g'})):=by
 have hk:=cak hw h R;have hs:ste T R ops ⟨dst,.call c,ty,pos,after,guard⟩ st=doA T R ops ⟨dst,.call c,ty,pos,after,guard⟩ st:=by
  unfold ste;simp only[hd,if_true];rfl
 refine⟨λv g' hr=>?_,λx g' hr=>?_⟩
 ·rw[hs];unfold doA;rw[hk];cases dst with
  |none=>simp only[doC,Di.apply,Di.look,Di.put,hr];exact⟨_,rfl⟩
  |some k=>
   simp only[doC,Di.apply,Di.look,Di.put,hr,bac];cases had:ado k (gef (st.toks.get k)) v with
   |mk v' q=>cases q<;>exact⟨_,rfl⟩
 ·rw[hs];unfold doA;rw[hk];cases dst with
  |none=>simp only[doC,Di.apply,Di.look,Di.put,hr]
  |some k=>simp only[doC,Di.apply,Di.look,Di.put,hr]
theorem EvO.cac{l:List Oper}{K:Option Dat→St→Prop}{dst:Option Nat}{c:Call}{ty:TypeId}{pos:String}{after:Array Edge}{guard:Option (Nat×Bool)}{fn:FuncId}{ds:List Dat}
 (hd:(dO st.nt dst&&nP st.pin dst)=true) (hw:wan ops ⟨dst,.call c,ty,pos,after,guard⟩ st.regs=some true) (hf:Cae T (Am.ev st.regs) c fn ds)
 (h:EvF T fn ds st.glo (CaK T ops l st dst K)):EvO T ops (⟨dst,.call c,ty,pos,after,guard⟩::l) st K:=by
 obtain⟨out,g',hq,n,h⟩:=h;cases out with
 |val v=>
  obtain⟨p,st2,hq2,n2,h2⟩:=hq;refine⟨p,st2,hq2,n+n2,λm hm=>?_⟩;have h2:=h2 m (by omega);obtain⟨u,hst⟩:=(cae hd hw hf (run T m)).1 v g' (h m (by omega));simp only[rei,hst,h2]
 |panic x=>
  refine⟨_,_,hq,n,λm hm=>?_⟩;have hst:=(cae hd hw hf (run T m)).2 x g' (h m hm);simp only[rei,hst]
theorem EvO.out{l:List Oper}{K:Option Dat→St→Prop}{dst:Option Nat}{out:Out}{g:Glob}(h:Ou (λx=>K (some x) {st with glo:=g}) (λv=>EvO T ops l (bac st dst v g) K) out):CaK T ops l st dst K out g:=by
 cases out<;>exact h
theorem piS(hc:Conc T s st):∀{l:List ResultVar} {pin:List (Nat×Nat×Nat)},pnS s l=some pin→pnA st.regs l=some pin
 |[],pin,h=>by cases h;rfl
 |.tmp _::l,pin,h=>piS hc (l:=l) h
 |.cell t u::l,pin,h=>by
  simp only[pnS] at h;split at h
  ·rename_i ty i o r h1 h2;cases h;obtain⟨v,k1,k2,_⟩:=hc.regs t _ h1;have:=tol k2 rfl;subst this;simp only[pnA,k1,piS hc h2]
  ·cases h
theorem apd{A:Di}{out:Out}{s1:St}(h:A.apply st=some (out,s1)):s1.defs=st.defs∧s1.pin=st.pin:=by
 unfold Di.apply at h;split at h
 ·cases h;exact⟨rfl,rfl⟩
 ·cases h
theorem pud{d:Option Nat}{v:Val}:(st.put d v).defs=st.defs∧(st.put d v).pin=st.pin:=by cases d<;>exact⟨rfl,rfl⟩
theorem bak{d:Option Nat}{v:Val}{g:Glob}:(bac st d v g).defs=st.defs∧(bac st d v g).pin=st.pin:=by
 unfold bac;cases d with
 |none=>exact⟨rfl,rfl⟩
 |some k=>
  simp only;split<;>exact⟨rfl,rfl⟩
theorem sDr{c:Call}{N:SSt→Prop}(h:sDf T o c s N)(hc:Conc T s st):∃st1,der c o st=some (.val .undef,st1)∧∃s',N s'∧Conc T s' st1:=by
 unfold sDf at h;unfold der;split at h
 ·rename_i f hf;split at h
  ·rename_i fn cap ds pin h1 h2 h3;split at h
   ·rename_i hp;rw[hf];have h4:=piS hc h3;rw[←hc.res] at h4;have h1':Am.ev st.regs f=.d (.clo fn cap):=by
     rcases hc.fn h1 with ⟨_,q⟩|⟨r,e,_⟩
     ·exact q
     ·cases e
    simp only[h1',hc.args h2,h4,hp,if_true];refine⟨_,rfl,_,h,?_⟩;have h0:Conc T {s with defs:=(fn,ds++cap)::s.defs,pin:=pin} {st with defs:=(fn,ds++cap)::st.defs,pin:=pin}:=
     ⟨hc.nt,hc.esc,hc.res,by rw[hc.defs],rfl,hc.glo,hc.regs,hc.boxes⟩
    exact h0.put (sv:=.junk) (v:=.undef) _ trivial
   ·exact h.elim
  ·exact h.elim
 ·exact h.elim
theorem sxO{P:Dat→Glob→Prop}{N:SSt→Prop}{D0:List (FuncId×List Dat)}{P0:List (Nat×Nat×Nat)}:∀{l:List Oper} {s:SSt} {st:St} {K:Option Dat→St→Prop},sxp T rk ops P N l s→Conc T s st→st.defs=D0→st.pin=P0→
 (∀s' st',N s'→Conc T s' st'→K none st')→(∀x g st',P x g→st'.glo=g→st'.defs=D0→st'.pin=P0→K (some x) st')→EvO T ops l st K
 |[],s,st,K,h,hc,hd0,hp0,hN,hP=>EvO.nil (hN _ _ h hc)
 |o::l,s,st,K,h,hc,hd0,hp0,hN,hP=>by
  unfold sxp at h;split at h
  ·rename_i hd;have hd':=dso hd hc;rcases wat h hc with ⟨hw,s,h,hc⟩|⟨hw,s,h,hc⟩
   ·split at h
    ·rename_i c hop;split at h
     ·obtain⟨st1,k1,s',k2,k3⟩:=sDr h hc;refine EvO.step (st1:=st1) (v:=.undef) (λR=>?_) (EvO.nil (hN _ _ k2 k3));unfold ste;rw[hd'];simp only[if_true,hop,iD,hw,k1]
     ·exact h.elim
    ·rename_i f args ats hop;obtain⟨fn,ds,h1,h3⟩:=sCa h hc;obtain⟨dst,op,ty,pos,after,guard⟩:=o;simp only at hop;subst hop;refine EvO.cac hd' hw h1 (h3.mono λout g ho=>EvO.out ?_);cases out with
     |panic x=>exact hP x g _ ho rfl hd0 hp0
     |val v=>
      obtain⟨s',k1,k2⟩:=ho;exact sxO k1 k2 (bak.1.trans hd0) (bak.2.trans hp0) hN hP
    ·rename_i f m args ats hop;obtain⟨fn,ds,h1,h3⟩:=sCa h hc;obtain⟨dst,op,ty,pos,after,guard⟩:=o;simp only at hop;subst hop;refine EvO.cac hd' hw h1 (h3.mono λout g ho=>EvO.out ?_);cases out with
     |panic x=>exact hP x g _ ho rfl hd0 hp0
     |val v=>
      obtain⟨s',k1,k2⟩:=ho;exact sxO k1 k2 (bak.1.trans hd0) (bak.2.trans hp0) hN hP
    ·rename_i x hop;split at h
     ·rename_i d hpd;obtain⟨t,y,rfl,he⟩:=pac hpd hc;refine EvO.panic (x:=.iface t y) (st1:=st) (λR=>?_) (hP _ _ _ h hc.glo hd0 hp0);unfold ste;rw[hd'];simp only[if_true,hop,iD,doA,kiA,hw,doing,he,Di.apply,Di.look,Di.put]
     ·exact h.elim
    ·obtain⟨hdf,A,v,s1,ft,s',a1,a2,a3,a4,a5⟩:=sOp h hc;rw[Bool.and_eq_true] at hd';exact EvO.step (λR=>stv hdf hd'.1 hd'.2 (knd hw (a1 R)) a2) (sxO a4 a5 (pud.1.trans ((apd a2).1.trans hd0)) (pud.2.trans ((apd a2).2.trans hp0)) hN hP)
   ·have hcs:Conc T (s.put o.dst .off) (st.put o.dst (.tuple [])):=hc.put _ rfl;rw[Bool.and_eq_true] at hd';cases hdf:iD o.op with
    |none=>exact EvO.step (λR=>stv hdf hd'.1 hd'.2 (kiO hw) (ry _ _)) (sxO h hcs (pud.1.trans hd0) (pud.2.trans hp0) hN hP)
    |some c=>
     refine EvO.step (v:=.undef) (λR=>?_) (sxO h hcs (pud.1.trans hd0) (pud.2.trans hp0) hN hP);unfold ste;rw[hd'.1,hd'.2];simp only[Bool.and_self,if_true,hdf,hw]
  ·exact h.elim
theorem sks{a:List Sk}{b:Sk}:skk bf (a++[b])=true↔skk bf a=true∧∀c∈a,((bf.getD b.i 0).testBit c.i||c.apart b)=true:=by
 induction a with
 |nil=>simp[skk]
 |cons c a ih=>
  simp only[List.cons_append,skk,Bool.and_eq_true,ih,List.all_append,List.all_cons,List.all_nil,Bool.and_true,List.all_eq_true];constructor
  ·rintro ⟨⟨h1,h2⟩,h3,h4⟩
   refine⟨⟨h1,h3⟩,λd hd=>?_⟩;rcases List.mem_cons.1 hd with rfl|hd
   ·exact h2
   ·exact h4 d hd
  ·rintro ⟨⟨h1,h3⟩,h4⟩
   exact⟨⟨h1,h4 c List.mem_cons_self⟩,h3,λd hd=>h4 d (List.mem_cons_of_mem _ hd)⟩
def Et(T:Tb)(e:SE)(k:Sk):Prop:=
 e.i=k.i∧e.g0=k.g0∧e.g1=k.g1∧(∀p,k.fee.box=some p→e.ft.box=some p)∧(∀t,k.fee.tok=some t→t∈e.ft.toks)∧
 (k.fee.glo=some false→k.fee.box=none∧k.fee.tok=none∧∃r f,e.ft.rd=some r∧k.rd=some f∧∀g,f g=Rd.read T r g)∧(k.fee.glo=some true→e.ft.wr=true)
theorem fon(z:Dat)(ok:Bool)(r:Option (Nat×Dat)):(found z ok r).same (found z ok r)=true:=by
 cases ok<;>cases r<;>simp[found,Val.same,Dat.ber]
theorem sae{r:Rd}{g0 g1:Glob}{f:Glob→Option Val}(h:RS T r g0 g1)(hf:∀g,f g=Rd.read T r g):rdk (some f) g0 g1=true:=by
 show sam f g0 g1=true;unfold sam;rw[hf,hf];cases r with
 |cell t i o=>
  obtain⟨a,b,h1,h2,h3⟩:=h;simp only[Rd.read,h1,h2];exact h3
 |map i z k ok=>
  obtain⟨r,h1,h2⟩:=h;simp only[Rd.read,h1,h2,Option.map_some];exact fon _ _ _
 |size i=>
  obtain⟨n,h1,h2⟩:=h;simp only[Rd.read,h1,h2,Option.map_some];simp[Val.same,Dat.beq]
theorem apo{a b:SE}{k k':Sk}(ha:Et T a k)(hb:Et T b k')(h1:boA a.ft b.ft=true)(h2:tor a.ft b.ft=true)(h3:(!(a.ft.wr&&b.ft.wr))=true)
 (h4:∀r,a.ft.rd=some r→b.ft.wr=true→RS T r b.g0 b.g1) (h5:∀r,b.ft.rd=some r→a.ft.wr=true→RS T r a.g0 a.g1):k.apart k'=true:=by
 obtain⟨a1,a2,a3,a4,a5,a6,a7⟩:=ha;obtain⟨b1,b2,b3,b4,b5,b6,b7⟩:=hb;unfold Sk.apart;simp only[Bool.and_eq_true];refine⟨⟨?_,?_⟩,?_⟩
 ·cases hx:k.fee.box with
  |none=>rfl
  |some p=>
   cases hy:k'.fee.box with
   |none=>rfl
   |some q=>
    unfold boA at h1;rw[a4 _ hx,b4 _ hy] at h1;exact h1
 ·cases hx:k.fee.tok with
  |none=>rfl
  |some p=>
   cases hy:k'.fee.tok with
   |none=>rfl
   |some q=>
    unfold tor at h2;have:=(List.all_eq_true.1 h2) p (a5 _ hx);simp only[bne_iff_ne,ne_eq];intro e;subst e;have hc:b.ft.toks.contains p=true:=by simpa using b5 _ hy
    rw[hc] at this;cases this
 ·cases hx:k.fee.glo with
  |none=>rfl
  |some c=>
   cases hy:k'.fee.glo with
   |none=>cases c<;>rfl
   |some d=>
    cases c<;>cases d
    ·rfl
    ·obtain⟨x1,x2,r,f,x3,x4,x5⟩:=a6 hx;simp only[x1,x2,Option.isNone_none,Bool.true_and];rw[x4,←b2,←b3];exact sae (h4 r x3 (b7 hy)) x5
    ·obtain⟨x1,x2,r,f,x3,x4,x5⟩:=b6 hy;simp only[x1,x2,Option.isNone_none,Bool.true_and];rw[x4,←a2,←a3];exact sae (h5 r x3 (a7 hx)) x5
    ·rw[a7 hx,b7 hy] at h3;cases h3
theorem apa{b:SE}{k':Sk}{K:Prop}(hb:Et T b k'):∀{pre:List SE} {ks:List Sk},Els (Et T) pre ks→aK T bf b K pre→K∧∀c∈ks,((bf.getD k'.i 0).testBit c.i||c.apart k')=true
 |[],ks,he,h=>by
  have:ks=[]:=List.eq_nil_of_length_eq_zero he.1.symm;subst this;exact⟨h,λc hc=>by cases hc⟩
 |a::pre,ks,he,h=>by
  cases ks with
  |nil=>cases he.1
  |cons k ks=>
   obtain⟨ha,hr⟩:=he.tail;have key:∀{Q:Prop},(aK T bf b K pre→((bf.getD k'.i 0).testBit k.i||k.apart k')=true→Q)→True:=λ_=>trivial;have fin:aK T bf b K pre→((bf.getD k'.i 0).testBit k.i||k.apart k')=true→K∧∀c∈k::ks,((bf.getD k'.i 0).testBit c.i||c.apart k')=true:=λh1 h2=>by
    obtain⟨k1,k2⟩:=apa hb hr h1;refine⟨k1,λc hc=>?_⟩;rcases List.mem_cons.1 hc with rfl|hc
    ·exact h2
    ·exact k2 c hc
   unfold aK at h;split at h
   ·rename_i ht;rw[hb.1,ha.1] at ht;exact fin h (by rw[ht];rfl)
   ·split at h
    ·rename_i hap;simp only[Bool.and_eq_true] at hap;obtain⟨⟨⟨h1,h2⟩,h3⟩,h6⟩:=hap;have h6:(a.ft.rd.isSome&&a.ft.wr)=false∧(b.ft.rd.isSome&&b.ft.wr)=false:=by
      rw[Bool.not_eq_true',Bool.or_eq_false_iff] at h6;exact h6
     split at h
     ·rename_i r hrd hwr;refine fin h.2 ?_;rw[apo ha hb h1 h2 h3 (λr' hr' hw'=>by rw[hrd] at hr';cases hr';exact h.1) (λr' hr' hw'=>by rw[hr',hwr] at h6;cases h6.2),Bool.or_true]
     ·rename_i hno;split at h
      ·rename_i r hrd hwr;refine fin h.2 ?_;rw[apo ha hb h1 h2 h3 (λr' hr' hw'=>by rw[hr',hwr] at h6;cases h6.1) (λr' hr' hw'=>by rw[hrd] at hr';cases hr';exact h.1),Bool.or_true]
      ·rename_i hno';refine fin h ?_;rw[apo ha hb h1 h2 h3 (λr' hr' hw'=>(hno r' hr' hw').elim) (λr' hr' hw'=>(hno' r' hr' hw').elim),Bool.or_true]
    ·exact h.elim
end
end Go.Proofs.YtiheejdkkjfenaaGreatDoor.Am
namespace Go.Proofs.YtiheejdkkjfenaaGreatDoor.Am
open Go
section
variable{T:Tb}{ops:Array Oper}{bf:Array Nat}{s s':SSt}{st st':St}{o:Oper}{rk:FuncId→RK}
variable(T) in
def EvR(ops:Array Oper)(bf:Array Nat)(l:List Nat)(st:St)(pre:List Sk)(Q:Option (Dat×Glob)→St→Prop):Prop:=
 ∃p fin sk,Q p fin∧skk bf (pre.reverse++sk)=true∧∃n,∀m,n≤m→∀k,l.length<k→∃tr,ruD T (run T m) ops bf k l st=some (tr,p,fin)∧Els SkO sk tr
theorem EvR.nil{pre:List Sk}{Q:Option (Dat×Glob)→St→Prop}(h:Q none st)(hk:skk bf pre.reverse=true):EvR T ops bf [] st pre Q:=by
 refine⟨none,st,[],h,by simpa using hk,0,λm hm k hlt=>⟨[],?_,rfl,λj a b ha=>by simp at ha⟩⟩;obtain⟨k,rfl⟩:∃k',k=k'+1:=⟨k-1,by omega⟩
 rfl
theorem EvR.step{i:Nat}{l:List Nat}{pre:List Sk}{Q:Option (Dat×Glob)→St→Prop}{A:Di}{v:Val}{s:St}(hi:ops[i]?=some o)(hd:iD o.op=none)(hn:(dO st.nt o.dst&&nP st.pin o.dst)=true)
 (hA:∀R,kiA T R ops o st=some A) (ha:A.apply st=some (.val v,s)) (h:EvR T ops bf l (s.put o.dst v) (⟨i,A.fee,some (λg=>ou (A.f none none g)),st.glo,s.glo⟩::pre) Q):EvR T ops bf (i::l) st pre Q:=by
 obtain⟨p,fin,sk,hK,hk,n,h⟩:=h;rw[Bool.and_eq_true] at hn;refine⟨p,fin,⟨i,A.fee,some (λg=>ou (A.f none none g)),st.glo,s.glo⟩::sk,hK,by simpa using hk,n,λm hm k hlt=>?_⟩;simp only[List.length_cons] at hlt;obtain⟨k,rfl⟩:∃k',k=k'+1:=⟨k-1,by omega⟩
 obtain⟨tr,h1,h2⟩:=h m hm k (by omega);refine⟨⟨i,fet T (run T m) ops o st,readA T (run T m) ops o st,st.glo,(s.put o.dst v).glo⟩::tr,?_,Els.cons ⟨rfl,(fA (hA _)).symm,λf hf=>?_,rfl,(St.pg _ _ _).symm⟩ h2⟩
 ·simp only[ruD,hi,stv hd hn.1 hn.2 (hA _) ha,h1]
 ·cases hf;exact rq (hA _)
theorem lef{l:List Nat}{f:Nat→Bool}:(l.filter f).length≤l.length:=List.length_filter_le _ _
theorem EvR.panic{i:Nat}{l:List Nat}{pre:List Sk}{Q:Option (Dat×Glob)→St→Prop}{x:Dat}{g:Glob}{sk0:Sk}(hi:ops[i]?=some o)(hsk:sk0.i=i∧sk0.g0=st.glo∧sk0.g1=st.glo∧sk0.rd=none){n0:Nat}
 (hst:∀m,n0≤m→∃s,ste T (run T m) ops o st=some (.panic x,s)∧s.glo=g∧fet T (run T m) ops o st=sk0.fee∧sk0.fee.glo=some true)
 (h:EvR T ops bf (l.filter λj=>!(bf.getD j 0).testBit i) st (sk0::pre) (λp fin=>p=none∧Q (some (x,g)) fin)):EvR T ops bf (i::l) st pre Q:=by
 obtain⟨p,fin,sk,⟨rfl,hK⟩,hk,n,h⟩:=h;refine⟨some (x,g),fin,sk0::sk,hK,by simpa using hk,n+n0,λm hm k hlt=>?_⟩;simp only[List.length_cons] at hlt;obtain⟨k,rfl⟩:∃k',k=k'+1:=⟨k-1,by omega⟩
 have hf:=lef (l:=l) (f:=λj=>!(bf.getD j 0).testBit i);obtain⟨tr,h1,h2⟩:=h m (by omega) k (by omega);obtain⟨s,e1,e2,e3,e4⟩:=hst m (by omega);obtain⟨a1,a2,a3,a4⟩:=hsk;refine⟨⟨i,fet T (run T m) ops o st,readA T (run T m) ops o st,st.glo,st.glo⟩::tr,?_,Els.cons ⟨a1,e3.symm,λf hf=>(by rw[a4] at hf;cases hf),a2,a3⟩ h2⟩;simp only[ruD,hi,e1];rw[e3,e4,h1];simp only[e2,e3]
theorem EvX.drw{id:Nat}{l:List Oper}{Q:Ex→St→Prop}(hok:tet ⟨l⟩ (Region.before ⟨l⟩)=true)
 (h:EvR T ⟨l⟩ (Region.before ⟨l⟩) (List.range l.length) st [] λp fin=>match p with|none=>Q .normal fin|some (x,g)=>Q (.panic x) {st with glo:=g}):EvX T (.region id ⟨l⟩ true) st Q:=by
 obtain⟨p,fin,sk,hq,hk,n,h⟩:=h;have e:(⟨l⟩:Array Oper).size=l.length:=rfl;cases p with
 |none=>
  refine⟨_,fin,hq,n+1,λm hm k hkk=>?_⟩;obtain⟨k,rfl⟩:∃k',k=k'+1:=⟨k-1,by omega⟩
  obtain⟨tr,h1,h2⟩:=h m (by omega) (l.length+1) (by simp);have hp:=pao h2 (by simpa using hk);simp only[exec,if_true,hok,e,h1,hp]
 |some q=>
  obtain⟨x,g⟩:=q;refine⟨_,_,hq,n+1,λm hm k hkk=>?_⟩;obtain⟨k,rfl⟩:∃k',k=k'+1:=⟨k-1,by omega⟩
  obtain⟨tr,h1,h2⟩:=h m (by omega) (l.length+1) (by simp);have hp:=pao h2 (by simpa using hk);simp only[exec,if_true,hok,e,h1,hp]
def CaR(T:Tb)(ops:Array Oper)(bf:Array Nat)(i:Nat)(l:List Nat)(st:St)(dst:Option Nat)(pre:List Sk)(Q:Option (Dat×Glob)→St→Prop):Out→Glob→Prop
 |.val v,g=>EvR T ops bf l (bac st dst v g) (⟨i,⟨none,dst,some true⟩,none,st.glo,g⟩::pre) Q
 |.panic x,g=>EvR T ops bf (l.filter λj=>!(bf.getD j 0).testBit i) st (⟨i,⟨none,dst,some true⟩,none,st.glo,st.glo⟩::pre) (λp fin=>p=none∧Q (some (x,g)) fin)
theorem doe(R:Caller)(fn:FuncId)(ds:List Dat)(dst:Option Nat):(doC R fn ds dst).fee=⟨none,dst,some true⟩:=by cases dst<;>rfl
theorem EvR.cac{i:Nat}{l:List Nat}{pre:List Sk}{Q:Option (Dat×Glob)→St→Prop}{dst:Option Nat}{c:Call}{ty:TypeId}{pos:String}{after:Array Edge}{guard:Option (Nat×Bool)}{fn:FuncId}{ds:List Dat}
 (hi:ops[i]?=some ⟨dst,.call c,ty,pos,after,guard⟩) (hd:(dO st.nt dst&&nP st.pin dst)=true)
 (hw:wan ops ⟨dst,.call c,ty,pos,after,guard⟩ st.regs=some true) (hf:Cae T (Am.ev st.regs) c fn ds)
 (hc:EvF T fn ds st.glo (CaR T ops bf i l st dst pre Q)):EvR T ops bf (i::l) st pre Q:=by
 obtain⟨out,g',hq,n0,hev⟩:=hc;cases out with
 |panic x=>
  refine EvR.panic (sk0:=⟨i,⟨none,dst,some true⟩,none,st.glo,st.glo⟩) hi ⟨rfl,rfl,rfl,rfl⟩ (n0:=n0) (g:=g') (λm hm=>?_) hq;refine⟨{st with glo:=g'},(cae hd hw hf (run T m)).2 x g' (hev m hm),rfl,?_,rfl⟩;rw[fA (cak hw hf _),doe]
 |val v=>
  obtain⟨p,fin,sk,hK,hsk,n,h2⟩:=hq;refine⟨p,fin,_::sk,hK,by simpa using hsk,n+n0,λm hm k hlt=>?_⟩;simp only[List.length_cons] at hlt;obtain⟨k,rfl⟩:∃k',k=k'+1:=⟨k-1,by omega⟩
  obtain⟨tr,h3,h4⟩:=h2 m (by omega) k (by omega);obtain⟨u,hst⟩:=(cae hd hw hf (run T m)).1 v g' (hev m (by omega));refine⟨⟨i,fet T (run T m) ops ⟨dst,.call c,ty,pos,after,guard⟩ st,readA T (run T m) ops ⟨dst,.call c,ty,pos,after,guard⟩ st,st.glo,(bac st dst v g').glo⟩::tr,?_,Els.cons ⟨rfl,?_,λf hf=>(by cases hf),rfl,(baA st dst v g').symm⟩ h4⟩
  ·simp only[ruD,hi,hst,h3]
  ·rw[fA (cak hw hf _),doe]
theorem skO{ks:List Sk}{k:Sk}(h:skk bf ks.reverse=true)(hk:∀c∈ks,((bf.getD k.i 0).testBit c.i||c.apart k)=true):skk bf (k::ks).reverse=true:=by
 rw[List.reverse_cons,sks];exact⟨h,λc hc=>hk c (by simpa using hc)⟩
theorem ent{i:Nat}{dst:Option Nat}{g0 g1:Glob}:Et T ⟨i,caF dst,g0,g1⟩ ⟨i,⟨none,dst,some true⟩,none,g0,g1⟩:=
 ⟨rfl,rfl,rfl,(λp h=>by cases h),(λt h=>by have h:dst=some t:=h;subst h;exact List.mem_singleton.2 rfl),(λh=>by cases h),λ_=>rfl⟩
theorem enO{i:Nat}{A:Di}{ft:SFe}{g0 g1:Glob}(h:Fe T A ft):Et T ⟨i,ft,g0,g1⟩ ⟨i,A.fee,some (λg=>ou (A.f none none g)),g0,g1⟩:=by
 obtain⟨h1,h2,h3,h4⟩:=h;exact⟨rfl,rfl,rfl,h1,h2,λhg=>let ⟨a,b,r,c,d⟩:=h3 hg;⟨a,b,r,_,c,rfl,d⟩,h4⟩
theorem sxk:∀{n:Nat} {l:List Nat} {s:SSt} {pre:List SE} {P:Dat→Glob→Prop} {N:SSt→Prop} {st:St} {ks:List Sk} {Q:Option (Dat×Glob)→St→Prop},
 sxD T rk ops bf n l s pre P N→Conc T s st→Els (Et T) pre ks→skk bf ks.reverse=true→(∀s' st',N s'→Conc T s' st'→Q none st')→(∀x g fin,P x g→Q (some (x,g)) fin)→EvR T ops bf l st ks Q
 |0,l,s,pre,P,N,st,ks,Q,h,_,_,_,_,_=>by unfold sxD at h;exact h.elim
 |n+1,[],s,pre,P,N,st,ks,Q,h,hc,he,hk,hN,hP=>by unfold sxD at h;exact EvR.nil (hN _ _ h hc) hk
 |n+1,i::l,s,pre,P,N,st,ks,Q,h,hc,he,hk,hN,hP=>by
  unfold sxD at h;split at h
  ·exact h.elim
  ·rename_i o hi;split at h
   ·rename_i hd;rw[Bool.and_eq_true] at hd;have hd':=dso hd.1 hc;rcases wat h hc with ⟨hw,s,h,hc⟩|⟨hw,s,h,hc⟩
    ·split at h
     ·rename_i f args ats hop;obtain⟨fn,ds,h1,h3⟩:=sCa h hc;obtain⟨dst,op,ty,pos,after,guard⟩:=o;simp only at hop;subst hop;refine EvR.cac hi hd' hw h1 (h3.mono λout g ho=>?_);cases out with
      |panic x=>
       have ho:aK T bf ⟨i,caF dst,s.glo,s.glo⟩ _ pre:=ho;have hb:Et T ⟨i,caF dst,s.glo,s.glo⟩ ⟨i,⟨none,dst,some true⟩,none,st.glo,st.glo⟩:=by rw[hc.glo];exact ent
       obtain⟨k1,k2⟩:=apa hb he ho;exact sxk k1 hc (Els.cons hb he) (skO hk k2) (λs' st' hp _=>⟨rfl,hP _ _ _ hp⟩) (λx g fin h=>h.elim)
      |val v=>
       obtain⟨s',ho,k3⟩:=ho;have hb:Et T ⟨i,caF dst,s.glo,g⟩ ⟨i,⟨none,dst,some true⟩,none,st.glo,g⟩:=by rw[hc.glo];exact ent
       obtain⟨k1,k2⟩:=apa hb he ho;exact sxk k1 k3 (Els.cons hb he) (skO hk k2) hN hP
     ·rename_i f m args ats hop;obtain⟨fn,ds,h1,h3⟩:=sCa h hc;obtain⟨dst,op,ty,pos,after,guard⟩:=o;simp only at hop;subst hop;refine EvR.cac hi hd' hw h1 (h3.mono λout g ho=>?_);cases out with
      |panic x=>
       have ho:aK T bf ⟨i,caF dst,s.glo,s.glo⟩ _ pre:=ho;have hb:Et T ⟨i,caF dst,s.glo,s.glo⟩ ⟨i,⟨none,dst,some true⟩,none,st.glo,st.glo⟩:=by rw[hc.glo];exact ent
       obtain⟨k1,k2⟩:=apa hb he ho;exact sxk k1 hc (Els.cons hb he) (skO hk k2) (λs' st' hp _=>⟨rfl,hP _ _ _ hp⟩) (λx g fin h=>h.elim)
      |val v=>
       obtain⟨s',ho,k3⟩:=ho;have hb:Et T ⟨i,caF dst,s.glo,g⟩ ⟨i,⟨none,dst,some true⟩,none,st.glo,g⟩:=by rw[hc.glo];exact ent
       obtain⟨k1,k2⟩:=apa hb he ho;exact sxk k1 k3 (Els.cons hb he) (skO hk k2) hN hP
     ·rename_i x hop;split at h
      ·rename_i d hpd;obtain⟨t,y,rfl,hev⟩:=pac hpd hc;have hkk:∀R,kiA T R ops o st=some (Di.mk none none (some true) λ_ _ gl=>some (.panic (.iface t y),none,none,gl)):=λR=>by
        simp only[kiA,hw,doing,hop,hev]
       have hb:Et T ⟨i,{wr:=true},s.glo,s.glo⟩ ⟨i,⟨none,none,some true⟩,none,st.glo,st.glo⟩:=by
        rw[hc.glo];exact⟨rfl,rfl,rfl,(λp h=>by cases h),(λt h=>by cases h),(λh=>by cases h),λ_=>rfl⟩
       obtain⟨k1,k2⟩:=apa hb he h;refine EvR.panic (x:=.iface t y) (g:=st.glo) (n0:=0) hi ⟨rfl,rfl,rfl,rfl⟩ (λm _=>⟨st,?_,rfl,?_,rfl⟩) (sxk k1 hc (Els.cons hb he) (skO hk k2) (λs' st' hp _=>⟨rfl,by rw[hc.glo];exact hP _ _ _ hp⟩) (λx g fin h=>h.elim))
       ·unfold ste;rw[hd'];simp only[if_true,hop,iD,doA,hkk,Di.apply,Di.look,Di.put]
       ·rw[fA (hkk _)];rfl
      ·exact h.elim
     ·obtain⟨hdf,A,v,s1,ft,s',a1,a2,a3,a4,a5⟩:=sOp h hc;have hg:s1.glo=s'.glo:=by rw[←St.pg s1 o.dst v];exact a5.glo
      have hb:Et T ⟨i,ft,s.glo,s'.glo⟩ ⟨i,A.fee,some (λg=>ou (A.f none none g)),st.glo,s1.glo⟩:=by rw[hc.glo,hg];exact enO a3
      obtain⟨k1,k2⟩:=apa hb he a4;exact EvR.step hi hdf hd' (λR=>knd hw (a1 R)) a2 (sxk k1 a5 (Els.cons hb he) (skO hk k2) hN hP)
    ·have hcs:Conc T (s.put o.dst .off) (st.put o.dst (.tuple [])):=hc.put _ rfl;cases hdf:iD o.op with
     |none=>
      have hb:Et T ⟨i,{},s.glo,s.glo⟩ ⟨i,(Di.ret (.tuple [])).fee,some (λg=>ou ((Di.ret (.tuple [])).f none none g)),st.glo,st.glo⟩:=by rw[hc.glo];exact enO (ftr _ _)
      obtain⟨k1,k2⟩:=apa hb he h;exact EvR.step hi hdf hd' (λR=>kiO hw) (ry _ _) (sxk k1 hcs (Els.cons hb he) (skO hk k2) hN hP)
     |some c=>rw[hdf] at hd;cases hd.2
   ·exact h.elim
end
end Go.Proofs.YtiheejdkkjfenaaGreatDoor.Am
namespace Go.Proofs.YtiheejdkkjfenaaGreatDoor.Am
open Go
inductive Fr where
 |seq (b:Code)
 |loop (a:Code)
 |block (id:Nat)
inductive Md where
 |code (c:Code)
 |normal
 |exit (i:Nat)
 |ret
inductive Sh where
 |keep
 |read
 |acc (ks:List Nat)
 |drop
inductive BSh where
 |cells (l:List Sh)
 |whole (t:TypeId)
 |iter
structure CuI where
 id:Nat
 slots:List (Nat×Sh)
 boxes:List (Nat×BSh)
def heI:Code→Option Nat
 |.region id _ _=>some id
 |.seq a b=>(match heI a with|some i=>some i|none=>heI b)
 |.cond _ a b=>(match heI a with|some i=>some i|none=>heI b)
 |.block _ a|.loop a|.scope a=>heI a
 |_=>none
def fiu(i:Option Nat):List CuI→Option CuI
 |[]=>none
 |c::l=>(match i with
  |some j=>if c.id==j then some c else fiu i l
  |none=>none)
def mMp{α:Type}(l:List (Nat×α)):Mp α:=l.foldl (λm p=>m.set p.1 p.2) ⟨[]⟩
variable(T:Tb)
def frK:List Fr→(Ex→St→Prop)→Ex→St→Prop
 |[],Q=>Q
 |.seq b::r,Q=>SK T b (frK r Q)
 |.loop a::r,Q=>Lp T a (frK r Q)
 |.block id::r,Q=>Bo id (frK r Q)
def Cut(c:Code)(fr:List Fr)(Q:Ex→St→Prop)(s:SSt):Prop:=∀st,Conc T s st→EvX T c st (frK T fr Q)
def cvS(s:SSt):Sh→SV→Option SV
 |.keep,.v t x=>some (.v t x)
 |.keep,.loc k c o=>if c==cnt s.bc k then some (.loc k 0 o) else none
 |.keep,.imm t x o=>some (.imm t x o)
 |.keep,.own k c t m xs=>if c==cnt s.tc k then some (.own k 0 t m xs) else none
 |.keep,.tup l=>some (.tup l)
 |.keep,.off=>some .off
 |.read,sv=>(match sv.dat with|some (t,x)=>some (.v t x)|none=>none)
 |.acc ks,.v t .nil=>(match T.und t with
  |some (.slice e)=>(match T.size e with|some m=>some (.acc (ks.map λk=>(k,0)) t m [])|none=>none)
  |_=>none)
 |.acc ks,.acc ks' t m xs=>if cul s.tc ks'&&ks'.all (λp=>ks.contains p.1) then some (.acc (ks.map λk=>(k,0)) t m xs) else none
 |.drop,_=>some .junk
 |_,_=>none
def coS(s:SSt):List (Nat×Sh)→Option (List (Nat×SV))
 |[]=>some []
 |(t,sh)::l=>(match s.regs.get t with
  |some sv=>(match cvS T s sh sv,coS s l with
   |some sv',some r=>some ((t,sv')::r)
   |_,_=>none)
  |none=>none)
def cov(s:SSt):List Sh→List SV→Option (List SV)
 |[],[]=>some []
 |sh::l,sv::r=>(match cvS T s sh sv,cov s l r with
  |some a,some b=>some (a::b)
  |_,_=>none)
 |_,_=>none
def cnx(s:SSt):BSh→SBo→Option SBo
 |.whole t,.whole t' x=>if t'==t then some (.whole t' x) else none
 |.whole t,.cells cs=>if isAgg? (T.und t) then(match opA (cs.map SV.dat),lay T t with
  |some l,some tys=>if l.map (·.1)==tys then some (.whole t (.agg (l.map (·.2)))) else none
  |_,_=>none) else none
 |.cells shs,.cells cs=>(match cov T s shs cs with|some l=>some (.cells l)|none=>none)
 |.cells shs,.whole t x=>(match cellsS T t x with
  |some cs=>(match cov T s shs cs with|some l=>some (.cells l)|none=>none)
  |none=>none)
 |.iter,.iter b p=>some (.iter b p)
 |_,_=>none
def coo(s:SSt):List (Nat×BSh)→Option (List (Nat×SBo))
 |[]=>some []
 |(k,sh)::l=>(match s.boxes.get k with
  |some sb=>(match cnx T s sh sb,coo s l with
   |some sb',some r=>some ((k,sb')::r)
   |_,_=>none)
  |none=>none)
def mkS(s:SSt)(regs:List (Nat×SV))(boxes:List (Nat×SBo))(g:Glob):SSt:=
 {nt:=s.nt,esc:=s.esc,res:=s.res,regs:=mMp regs,boxes:=mMp boxes,bc:=⟨[]⟩,tc:=⟨[]⟩,glo:=g,defs:=s.defs,pin:=s.pin}
def rst(s:SSt)(c:CuI):Option SSt:=
 match coS T s c.slots,coo T s c.boxes with
 |some rs,some bs=>some (mkS s rs bs s.glo)
 |_,_=>none
def rA0(s:SSt):ResultVar→Option SV
 |.tmp t=>s.regs.get t
 |.cell a t=>(match s.regs.get a with
  |some (.loc k c o)=>if c==cnt s.bc k then(match s.boxes.get k with
   |some sb=>(match sb.cs T with|some cs=>loS T t (cs.drop o)|none=>none)
   |none=>none) else none
  |_=>none)
def enn(s:SSt)(Qf:OGP):SV→Prop
 |.own k c _ m xs=>if c==cnt s.tc k then Qf (.val (.uq m xs)) s.glo else False
 |.acc ks _ m xs=>if cul s.tc ks then Qf (.val (rf m xs)) s.glo else False
 |.v t x=>if isL (T.und t) then ∀v,Rt v x→Qf (.val v) s.glo else Qf (.val (.d x)) s.glo
 |_=>False
def rsK(s:SSt):List ResultVar→(List SV→Prop)→Prop
 |[],K=>K []
 |.tmp t::l,K=>(match rA0 T s (.tmp t) with
  |some sv=>rsK s l λr=>K (sv::r)
  |none=>False)
 |.cell a t::l,K=>(match s.regs.get a with
  |some (.v _ (.ptr (some (i,o))))=>exT T t λx=>GOk T t s.glo i o x∧rsK s l λr=>K (.v t x::r)
  |_=>(match rA0 T s (.cell a t) with
   |some sv=>rsK s l λr=>K (sv::r)
   |none=>False))
def sEd(fn:Func)(Qf:OGP)(s:SSt):Prop:=
 rsK T s fn.results.toList λsvs=>match svs with
 |[sv]=>enn T s Qf sv
 |svs=>(match opA (svs.map SV.dat) with
  |some l=>if l.all (λp=>!(isL (T.und p.1))) then Qf (.val (.tuple (l.map λp=>.d p.2))) s.glo
   else ∀us,RtL us (l.map (·.2))→Qf (.val (.tuple us)) s.glo
  |none=>False)
def pnP(pin:List (Nat×Nat×Nat)):List ResultVar→Option (List (TypeId×Nat×Nat))
 |[]=>some []
 |.cell t ty::l=>(match pin.lookup t,pnP pin l with
  |some (i,o),some r=>some ((ty,i,o)::r)
  |_,_=>none)
 |.tmp _::_=>none
def piV(pl:List (TypeId×Nat×Nat))(g:Glob):Option Val:=
 match opA (pl.map λp=>gla T p.1 g p.2.1 p.2.2) with
 |some vs=>(match opA (vs.map λv=>v.toD.map .d) with
  |some [v]=>some v
  |some us=>some (.tuple us)
  |none=>none)
 |none=>none
def Def(ds:List (FuncId×List Dat))(pl:List (TypeId×Nat×Nat))(p:Option Dat)(g:Glob)(Q:OGP):Prop:=
 EvL T ds p g λp' g'=>match p' with
  |none=>∃v,piV T pl g'=some v∧Q (.val v) g'
  |some y=>p.isSome=true∧Q (.panic y) g'
def sA0(fn:Func)(Qf:OGP)(s:SSt)(p:Option Dat)(g:Glob):Prop:=
 match pnP s.pin fn.results.toList with
 |some (q::pl)=>Def T s.defs (q::pl) p g Qf
 |_=>False
def sxn(fn:Func)(Qf:OGP)(s:SSt):Prop:=
 match s.defs with
 |[]=>sEd T fn Qf s
 |_::_=>sA0 T fn Qf s none s.glo
def sxa(fn:Func)(Qf:OGP)(s:SSt)(x:Dat)(g:Glob):Prop:=
 match s.defs with
 |[]=>Qf (.panic x) g
 |_::_=>sA0 T fn Qf s (some x) g
def sxu(fn:Func)(Qf:OGP)(s:SSt)(c:Code)(fr:List Fr)(ci:CuI):Prop:=
 match rst T s ci with
 |some s'=>Cut T c fr (EK T fn Qf) s'
 |none=>False
variable(rk:FuncId→RK)(fn:Func)(Qf:OGP)(loops joins:List CuI)
def sx:Nat→Md→SSt→List Fr→Prop
 |0,_,_,_=>False
 |n+1,.code c,s,fr=>(match c with
  |.skip=>sx n .normal s fr
  |.label _=>sx n .normal s fr
  |.region _ ops draw=>(match draw with
   |true=>if tet ops (Region.before ops) then
    sxD T rk ops (Region.before ops) (ops.size+1) (List.range ops.size) s [] (λx g=>sxa T fn Qf s x g) (λs'=>sx n .normal s' fr) else False
   |false=>sxp T rk ops (λx g=>sxa T fn Qf s x g) (λs'=>sx n .normal s' fr) ops.toList s)
  |.seq a b=>sx n (.code a) s (.seq b::fr)
  |.cond x a b=>(match s.bool x with
   |some t=>Br t (sx n (.code a) s fr) (sx n (.code b) s fr)
   |none=>False)
  |.block id a=>sx n (.code a) s (.block id::fr)
  |.loop a=>(match fiu (heI a) loops with
   |some ci=>sxu T fn Qf s (.loop a) fr ci
   |none=>sx n (.code a) s (.loop a::fr))
  |.scope a=>sx n (.code a) s fr
  |.exit i=>sx n (.exit i) s fr
  |.ret=>sx n .ret s fr
  |_=>False)
 |n+1,.normal,s,fr=>(match fr with
  |[]=>sxn T fn Qf s
  |.seq b::r=>(match fiu (heI b) joins with
   |some ci=>sxu T fn Qf s b r ci
   |none=>sx n (.code b) s r)
  |.loop a::r=>sx n (.code (.loop a)) s r
  |.block _::r=>sx n .normal s r)
 |n+1,.exit i,s,fr=>(match fr with
  |[]=>False
  |.block id::r=>if i==id then sx n .normal s r else sx n (.exit i) s r
  |_::r=>sx n (.exit i) s r)
 |_+1,.ret,s,_=>sxn T fn Qf s
def sA3(i:Nat):List (TypeId×Dat)→Mp SV→Mp SV
 |[],m=>m
 |p::l,m=>sA3 (i+1) l (m.set i (.v p.1 p.2))
def stS(f:FuncId)(fn:Func)(args:List (TypeId×Dat))(g:Glob):SSt:=
 {nt:=max args.length fn.ntmps,esc:=T.esc f,res:=fn.results.toList,regs:=sA3 0 args ⟨[]⟩,boxes:=⟨[]⟩,bc:=⟨[]⟩,tc:=⟨[]⟩,glo:=g}
def AlT:List (TypeId×Dat)→Prop
 |[]=>True
 |p::l=>Ha T p.1 p.2∧AlT l
section
variable{T:Tb}{s s':SSt}{st st':St}{rk:FuncId→RK}{fn:Func}{Qf:OGP}{loops joins:List CuI}
theorem mkp{α:Type}{k:Nat}{v:α}:∀{l:List (Nat×α)} {m:Mp α},(l.foldl (λm p=>m.set p.1 p.2) m).get k=some v→(k,v)∈l∨m.get k=some v
 |[],m,h=>.inr h
 |p::l,m,h=>by
  rcases mkp (l:=l) h with h|h
  ·exact .inl (List.mem_cons_of_mem _ h)
  ·rw[Mp.gee] at h;split at h
   ·rename_i e;cases h;left;rw[←e];exact List.mem_cons_self
   ·exact .inr h
theorem mkM{α:Type}{l:List (Nat×α)}{k:Nat}{v:α}(h:(mMp l).get k=some v):(k,v)∈l:=by
 rcases mkp h with h|h
 ·exact h
 ·rw[Mp.gm] at h;cases h
theorem cuA{tc:Mp Nat}{ks:List (Nat×Nat)}(h:cul tc ks=true):∀p∈ks,p.2=cnt tc p.1:=λp hp=>by
 have:=(List.all_eq_true.1 h) p hp
 simpa using this
theorem cnV{bc tc:Mp Nat}{B:Mp (Nat×Box)}{C:Mp (Nat×Option (Nat×Nat))}{sv:SV}{v:Val}{p:TypeId×Dat}(hv:Cc T bc tc B C sv v)(hd:sv.dat=some p):nrm v=true:=by
 cases sv with
 |v t x=>exact hv.2.1
 |own k c t m xs=>obtain⟨_,_,g,rfl,_⟩:=hv;rfl
 |acc ks t m xs=>
  obtain⟨_,_,_,h2⟩:=hv;rcases h2 with ⟨rfl,rfl⟩|⟨_,p,_,g,rfl,_⟩<;>rfl
 |_=>cases hd
theorem cnS{B:Mp (Nat×Box)}{C:Mp (Nat×Option (Nat×Nat))}{sh:Sh}{sv sv':SV}{v:Val}(h:cvS T s sh sv=some sv')(hv:Cc T s.bc s.tc B C sv v):Cc T ⟨[]⟩ ⟨[]⟩ B C sv' v:=by
 unfold cvS at h;split at h
 ·cases h;exact hv
 ·split at h
  ·rename_i hc;cases h;obtain⟨_,g,h1,h2⟩:=hv;exact⟨Nat.zero_le _,g,h1,λ_=>h2 (by simpa using hc)⟩
  ·cases h
 ·cases h;exact hv
 ·split at h
  ·rename_i hc;cases h;obtain⟨_,ht,g,h1,h2⟩:=hv;exact⟨Nat.zero_le _,ht,g,h1,λ_=>h2 (by simpa using hc)⟩
  ·cases h
 ·cases h;exact hv
 ·cases h;exact hv
 ·split at h
  ·rename_i t x hd;cases h;have h1:=coV hv hd;exact⟨h1.1,cnV hv hd,h1.2⟩
  ·cases h
 ·split at h
  ·rename_i e hu;split at h
   ·rename_i m hs;cases h;exact⟨isl hu hs,hv.2.2,λp hp=>by obtain⟨k,_,rfl⟩:=List.mem_map.1 hp;exact Nat.zero_le _,.inl ⟨rfl,tol hv.1 rfl⟩⟩
   ·cases h
  ·cases h
 ·split at h
  ·rename_i ks ks' t m xs hc;cases h;rw[Bool.and_eq_true] at hc;have hcur:=cuA hc.1;obtain⟨h1,h2,h3,h4⟩:=hv;refine⟨h1,h2,λp hp=>by obtain⟨k,_,rfl⟩:=List.mem_map.1 hp;exact Nat.zero_le _,?_⟩;rcases h4 with h4|⟨hx,p,hp,g,h5,h6⟩
   ·exact .inl h4
   ·refine .inr ⟨hx,(p.1,0),?_,g,h5,λ_=>h6 (hcur p hp)⟩;have:=(List.all_eq_true.1 hc.2) p hp;exact List.mem_map.2 ⟨p.1,by simpa using this,rfl⟩
  ·cases h
 ·cases h;trivial
 ·cases h
theorem cok:∀{l:List (Nat×Sh)} {r:List (Nat×SV)},coS T s l=some r→Conc T s st→∀p∈r,∃v,st.regs.get p.1=some v∧Cc T ⟨[]⟩ ⟨[]⟩ st.boxes st.toks p.2 v
 |[],r,h,hc,p,hp=>by cases h;cases hp
 |(t,sh)::l,r,h,hc,p,hp=>by
  simp only[coS] at h;split at h
  ·rename_i sv hsv;split at h
   ·rename_i sv' r' h1 h2;cases h;rcases List.mem_cons.1 hp with rfl|hp
    ·obtain⟨v,k1,k2⟩:=hc.regs t _ hsv;exact⟨v,k1,cnS h1 k2⟩
    ·exact cok h2 hc p hp
   ·cases h
  ·cases h
theorem coC{B:Mp (Nat×Box)}{C:Mp (Nat×Option (Nat×Nat))}:∀{l:List Sh} {cs cs':List SV} {vs:List Val},cov T s l cs=some cs'→Els (λsv v=>v.one=true∧Cc T s.bc s.tc B C sv v) cs vs→
 Els (λsv v=>v.one=true∧Cc T ⟨[]⟩ ⟨[]⟩ B C sv v) cs' vs
 |[],[],cs',vs,h,hv=>by cases h;exact⟨hv.1,λj a b ha=>by simp at ha⟩
 |[],_::_,cs',vs,h,hv=>by cases h
 |_::_,[],cs',vs,h,hv=>by cases h
 |sh::l,sv::cs,cs',vs,h,hv=>by
  cases vs with
  |nil=>cases hv.1
  |cons v vs=>
   obtain⟨h1,h2⟩:=hv.tail;simp only[cov] at h;split at h
   ·rename_i a b e1 e2;cases h;exact Els.cons ⟨h1.1,cnS e1 h1.2⟩ (coC e2 h2)
   ·cases h
theorem cvB{B:Mp (Nat×Box)}{C:Mp (Nat×Option (Nat×Nat))}{sh:BSh}{sb sb':SBo}{bx:Box}(h:cnx T s sh sb=some sb')(hb:CB T s.bc s.tc B C sb bx):CB T ⟨[]⟩ ⟨[]⟩ B C sb' bx:=by
 unfold cnx at h;split at h
 ·split at h
  ·cases h;cases bx<;>exact hb
  ·cases h
 ·rename_i t cs;split at h
  ·rename_i ha;split at h
   ·rename_i l tys ho hl;split at h
    ·rename_i hty;cases h;have hty:l.map (·.1)=tys:=by simpa using hty
     cases bx with
     |cells vs=>
      have hb:Els (λsv v=>v.one=true∧Cc T s.bc s.tc B C sv v) cs vs:=hb;obtain⟨d1,d2⟩:=das hb ho;obtain⟨o1,o2⟩:=optAll_get? d1;refine⟨.agg _ tys _ ha hl (by rw[←hty];simp) (λc hc=>?_) (λi w c hw hc=>?_),ha,o1,o2⟩
      ·obtain⟨p,hp,rfl⟩:=List.mem_map.1 hc;exact(d2 p hp).2
      ·rw[←hty,List.getElem?_map] at hw;rw[List.getElem?_map] at hc;cases hp:l[i]? with
       |none=>rw[hp] at hw;cases hw
       |some p=>
        rw[hp] at hw hc;cases hw;cases hc;exact(d2 p (List.mem_of_getElem? hp)).1
     |_=>exact hb.elim
    ·cases h
   ·cases h
  ·cases h
 ·split at h
  ·rename_i cs' h1;cases h;cases bx with
   |cells vs=>exact coC h1 hb
   |_=>exact hb.elim
  ·cases h
 ·rename_i t x;split at h
  ·rename_i cs hcs;split at h
   ·rename_i l h1;cases h;cases bx with
    |cells vs=>exact coC h1 (cnB (sb:=.whole t x) hb hcs)
    |_=>exact hb.elim
   ·cases h
  ·cases h
 ·cases h;cases bx<;>exact hb
 ·cases h
theorem cnv:∀{l:List (Nat×BSh)} {r:List (Nat×SBo)},coo T s l=some r→Conc T s st→∀p∈r,∃g bx,st.boxes.get p.1=some (g,bx)∧CB T ⟨[]⟩ ⟨[]⟩ st.boxes st.toks p.2 bx
 |[],r,h,hc,p,hp=>by cases h;cases hp
 |(t,sh)::l,r,h,hc,p,hp=>by
  simp only[coo] at h;split at h
  ·rename_i sb hb;split at h
   ·rename_i sb' r' h1 h2;cases h;rcases List.mem_cons.1 hp with rfl|hp
    ·obtain⟨g,bx,k1,k2⟩:=hc.boxes t _ hb;exact⟨g,bx,k1,cvB h1 k2⟩
    ·exact cnv h2 hc p hp
   ·cases h
  ·cases h
theorem rek{c:CuI}(h:rst T s c=some s')(hc:Conc T s st):Conc T s' st:=by
 unfold rst at h;split at h
 ·rename_i rs bs h1 h2;cases h;exact⟨hc.nt,hc.esc,hc.res,hc.defs,hc.pin,hc.glo,λt sv ht=>cok h1 hc _ (mkM ht),λk sb hk=>cnv h2 hc _ (mkM hk)⟩
 ·cases h
theorem sxC{c:Code}{fr:List Fr}{ci:CuI}(h:sxu T fn Qf s c fr ci)(hc:Conc T s st):EvX T c st (frK T fr (EK T fn Qf)):=by
 unfold sxu at h;split at h
 ·rename_i s' hs;exact h st (rek hs hc)
 ·exact h.elim
theorem rsS{r:ResultVar}{sv:SV}(h:rA0 T s r=some sv)(hc:Conc T s st):∃v,reu T st r=some v∧Cc T s.bc s.tc st.boxes st.toks sv v:=by
 cases r with
 |tmp t=>exact hc.regs t sv h
 |cell a t=>
  simp only[rA0] at h;split at h
  ·rename_i k c o ha;split at h
   ·rename_i hcc;split at h
    ·rename_i sb hb;split at h
     ·rename_i cs hcs;obtain⟨v,h1,_,g,rfl,h2⟩:=hc.regs a _ ha;obtain⟨bx,h2⟩:=h2 (by simpa using hcc);obtain⟨g',bx',k1,k2⟩:=hc.boxes k _ hb;rw[h2] at k1;cases k1;cases bx with
      |cells vs=>
       obtain⟨w,e1,e2⟩:=lS (Els.drop (cnB k2 hcs) o) h;exact⟨w,by simp only[reu,h1,h2,if_true,e1],e2⟩
      |iter b q=>cases sb<;>first|(cases hcs;done)|exact k2.elim
      |map es c=>cases sb<;>exact k2.elim
     ·cases h
    ·cases h
   ·cases h
  ·cases h
theorem oun{v:Val}{x:Dat}{b:Bool}(h:v.toD=some x):∃u,oO st b v=some u∧Rt u x:=by
 unfold oO;split
 ·rename_i k g m xs;cases h;split
  ·exact⟨_,rfl,rfl⟩
  ·exact⟨_,rfl,rfl⟩
 ·rw[h];exact⟨_,rfl,rfl⟩
theorem ouO{v:Val}{x:Dat}{t:TypeId}{b:Bool}(h:v.toD=some x)(ht:Ha T t x)(hn:isL (T.und t)=false):oO st b v=some (.d x):=by
 unfold oO;split
 ·rename_i k g m xs;cases h;cases ht with
  |sl _ _ _ _ hu=>rw[hu] at hn;cases hn
 ·rw[h];rfl
theorem oud:∀{vs:List Val} {l:List (TypeId×Dat)} {b:Bool},Els (λv p=>v.toD=some p.2∧Ha T p.1 p.2) vs l→∃us,ouA st b vs=some us∧RtL us (l.map (·.2))∧(l.all (λp=>!(isL (T.und p.1)))=true→us=l.map λp=>.d p.2)
 |[],l,b,h=>by
  have:l=[]:=List.eq_nil_of_length_eq_zero h.1.symm;subst this;exact⟨[],rfl,trivial,λ_=>rfl⟩
 |v::vs,l,b,h=>by
  cases l with
  |nil=>cases h.1
  |cons p l=>
   obtain⟨h1,h2⟩:=h.tail;obtain⟨u,e1,e2⟩:=oun (st:=st) (b:=b) h1.1;have ih:=λb'=>oud (b:=b') h2;have ⟨us,k0,k2,k3⟩:∃us,ouA st b (v::vs)=some (u::us)∧RtL us (l.map (·.2))∧(l.all (λp=>!(isL (T.und p.1)))=true→us=l.map λp=>.d p.2):=by
    simp only[ouA,e1];generalize (b&&_)=b';obtain⟨us,k1,k2,k3⟩:=ih b';exact⟨us,by rw[k1],k2,k3⟩
   refine⟨u::us,k0,⟨e2,k2⟩,λha=>?_⟩;simp only[List.all_cons,Bool.and_eq_true,Bool.not_eq_true'] at ha;rw[ouO h1.1 h1.2 ha.1] at e1;cases e1;rw[k3 (by simpa using ha.2)];rfl
theorem reK(hc:Conc T s st):∀{rs:List ResultVar} {K:List SV→Prop},rsK T s rs K→∃svs vs,K svs∧opA (rs.map (reu T st))=some vs∧Els (Cc T s.bc s.tc st.boxes st.toks) svs vs
 |[],K,h=>⟨[],[],h,rfl,rfl,λj a b h=>by simp at h⟩
 |r::rs,K,h=>by
  have one:∀{sv:SV},rA0 T s r=some sv→rsK T s rs (λl=>K (sv::l))→∃svs vs,K svs∧opA ((r::rs).map (reu T st))=some vs∧Els (Cc T s.bc s.tc st.boxes st.toks) svs vs:=λhr h=>by
   obtain⟨svs,vs,h0,h1,h2⟩:=reK hc h;obtain⟨v,k1,k2⟩:=rsS hr hc;exact⟨_,v::vs,h0,by simp only[List.map_cons,k1,opA,h1],Els.cons k2 h2⟩
  cases r with
  |tmp t=>
   simp only[rsK] at h;split at h
   ·rename_i sv hr;exact one hr h
   ·exact h.elim
  |cell a t=>
   simp only[rsK] at h;split at h
   ·rename_i u i o ha;obtain⟨x,⟨⟨w,g1,g2,g3⟩,hk⟩,ht⟩:=eTs h;obtain⟨svs,vs,h0,h1,h2⟩:=reK hc hk;obtain⟨v,k1,k2⟩:=hc.regs a _ ha;have hv:=tol k2.1 rfl;subst hv;refine⟨_,w::vs,h0,?_,Els.cons ⟨g2,g3,ht⟩ h2⟩;have hres:reu T st (.cell a t)=some w:=by
     simp only[reu,k1];rw[hc.glo];exact g1
    simp only[List.map_cons,hres,opA,h1]
   ·split at h
    ·rename_i sv hr;exact one hr h
    ·exact h.elim
theorem sxE(h:sEd T fn Qf s)(hc:Conc T s st):∃v,ru T fn st=some v∧Qf (.val v) st.glo:=by
 unfold sEd at h;obtain⟨svs,vs,h,h1,h2⟩:=reK hc h;have hg:=hc.glo;split at h
 ·rename_i sv;obtain⟨v,rfl⟩:∃v,vs=[v]:=by
   cases vs with
   |nil=>cases h2.1
   |cons v vs=>cases vs with
    |nil=>exact⟨v,rfl⟩
    |cons w ws=>simp[Els] at h2
  have hv:=h2.2 0 sv v rfl rfl;have fin:∀{u},oO st true v=some u→Qf (.val u) s.glo→∃v,ru T fn st=some v∧Qf (.val v) st.glo:=λhe hq=>by
   refine⟨_,?_,by rw[hg];exact hq⟩;simp only[ru,h1,ouA,he]
  unfold enn at h;split at h
  ·rename_i k c t m xs;split at h
   ·rename_i hcc;obtain⟨_,ht,g,rfl,htk⟩:=hv;have htk:=htk (by simpa using hcc);exact fin (by simp only[oO,iw,htk,beq_self_eq_true,Bool.and_self,Bool.true_and,if_true]) h
   ·exact h.elim
  ·rename_i ks t m xs;split at h
   ·rename_i hcc;have hcur:=cuA hcc;obtain⟨_,_,_,h3⟩:=hv;rcases h3 with ⟨rfl,rfl⟩|⟨hx,p,hp,g,rfl,htk⟩
    ·exact fin (u:=.d .nil) rfl h
    ·have htk:=htk (hcur p hp);refine fin (u:=.uq m xs) (by simp only[oO,iw,htk,beq_self_eq_true,Bool.and_self,Bool.true_and,if_true]) ?_;cases xs with
     |nil=>exact absurd rfl hx
     |cons y ys=>exact h
   ·exact h.elim
  ·rename_i t x;split at h
   ·obtain⟨u,e1,e2⟩:=oun (st:=st) (b:=true) hv.1;exact fin e1 (h u e2)
   ·rename_i hn;exact fin (ouO hv.1 hv.2.2 (by simpa using hn)) h
  ·exact h.elim
 ·rename_i svs' hns;split at h
  ·rename_i l ho;obtain⟨o1,o2⟩:=optAll_get? ho;have hels:Els (λv p=>v.toD=some p.2∧Ha T p.1 p.2) vs l:=⟨by rw[←h2.1,o1],λj v p hv hp=>by
    have hlt:j<svs.length:=by rw[h2.1];exact(List.getElem?_eq_some_iff.1 hv).1
    have hsv:=List.getElem?_eq_getElem hlt;exact coV (t:=p.1) (x:=p.2) (h2.2 j _ v hsv hv) (by rw[o2 j _ p hsv hp])⟩
   obtain⟨us,k1,k2,k3⟩:=oud (st:=st) (b:=true) hels;have hlen:us.length≠1:=λe=>by
    have:svs.length=1:=by
     rw[o1];have:us.length=l.length:=by
      clear k1 k3 hels h ho
      induction us generalizing l with
      |nil=>cases l with
       |nil=>rfl
       |cons _ _=>exact k2.elim
      |cons u us ih=>
       cases us with
       |nil=>cases l with
        |nil=>simp[RtL] at k2
        |cons p l=>cases l with
         |nil=>rfl
         |cons _ _=>simp[RtL] at k2
       |cons _ _=>simp at e
     omega
    cases svs with
    |nil=>cases this
    |cons a svs=>cases svs with
     |nil=>exact hns a rfl
     |cons _ _=>simp at this
   have hra:ru T fn st=some (.tuple us):=by
    simp only[ru,h1,k1]
    match us,hlen with
    |[],_=>rfl
    |[_],h=>exact absurd rfl h
    |_::_::_,_=>rfl
   split at h
   ·rename_i ha;exact⟨_,hra,by rw[hg,k3 ha];exact h⟩
   ·exact⟨_,hra,by rw[hg];exact h us k2⟩
  ·exact h.elim
theorem piP{pin:List (Nat×Nat×Nat)}{g:Glob}:∀{rs:List ResultVar} {pl:List (TypeId×Nat×Nat)},pnP pin rs=some pl→rs.map (pinned T pin g)=pl.map λp=>gla T p.1 g p.2.1 p.2.2
 |[],pl,h=>by cases h;rfl
 |.tmp _::_,pl,h=>by cases h
 |.cell t ty::l,pl,h=>by
  simp only[pnP] at h;split at h
  ·rename_i i o r h1 h2;cases h;simp only[List.map_cons,piP h2,pinned,h1];rfl
  ·cases h
theorem sxe{p:Option Dat}{g:Glob}(h:sA0 T fn Qf s p g):fn.results.toList≠[]∧DeE T fn s.defs s.pin p g Qf:=by
 unfold sA0 at h;split at h
 ·rename_i q pl hpl;refine⟨λe=>(by rw[e] at hpl;cases hpl),?_⟩;obtain⟨p',g',hK,hn⟩:=h;refine⟨p',g',?_,hn⟩;cases p' with
  |some y=>exact hK
  |none=>
   obtain⟨v,hv,hQ⟩:=hK;refine⟨v,?_,hQ⟩;unfold piV at hv;unfold pie;rw[piP hpl];exact hv
 ·exact h.elim
theorem sxi{ex:Ex}(he:ex=.normal∨ex=.ret)(h:sxn T fn Qf s)(hc:Conc T s st):EK T fn Qf ex st:=by
 unfold sxn at h;have key:(st.defs=[]∧∃v,ru T fn st=some v∧Qf (.val v) st.glo)∨(st.defs≠[]∧fn.results.toList≠[]∧DeE T fn st.defs st.pin none st.glo Qf):=by
  split at h
  ·rename_i hd;exact .inl ⟨hc.defs.trans hd,sxE h hc⟩
  ·rename_i d dl hd;obtain⟨h1,h2⟩:=sxe h;refine .inr ⟨by rw[hc.defs,hd];simp,h1,?_⟩;rw[hc.defs,hc.pin,hc.glo];exact h2
 rcases he with rfl|rfl<;>exact key
theorem sPa{x:Dat}{g:Glob}(h:sxa T fn Qf s x g)(hg:st.glo=g)(hd:st.defs=s.defs)(hp:st.pin=s.pin):EK T fn Qf (.panic x) st:=by
 unfold sxa at h;split at h
 ·rename_i e;exact .inl ⟨hd.trans e,by rw[hg];exact h⟩
 ·rename_i d dl e;obtain⟨h1,h2⟩:=sxe h;refine .inr ⟨by rw[hd,e];simp,h1,?_⟩;rw[hd,hp,hg];exact h2
def Md.Ev(T:Tb)(Q:Ex→St→Prop)(fr:List Fr)(st:St):Md→Prop
 |.code c=>EvX T c st (frK T fr Q)
 |.normal=>frK T fr Q .normal st
 |.exit i=>frK T fr Q (.exit i) st
 |.ret=>frK T fr Q .ret st
theorem frr:∀{fr:List Fr},EK T fn Qf .ret st→frK T fr (EK T fn Qf) .ret st
 |[],h=>h
 |.seq b::r,h=>frr (fr:=r) h
 |.loop a::r,h=>frr (fr:=r) h
 |.block id::r,h=>frr (fr:=r) h
theorem frp{x:Dat}:∀{fr:List Fr},EK T fn Qf (.panic x) st→frK T fr (EK T fn Qf) (.panic x) st
 |[],h=>h
 |.seq b::r,h=>frp (fr:=r) h
 |.loop a::r,h=>frp (fr:=r) h
 |.block id::r,h=>frp (fr:=r) h
theorem sxo:∀{n:Nat} {md:Md} {s:SSt} {fr:List Fr} {st:St},sx T rk fn Qf loops joins n md s fr→Conc T s st→md.Ev T (EK T fn Qf) fr st
 |0,md,s,fr,st,h,hc=>by unfold sx at h;exact h.elim
 |n+1,.code c,s,fr,st,h,hc=>by
  unfold sx at h;show EvX T c st (frK T fr (EK T fn Qf));have pan:∀{x:Dat} {g:Glob} {st':St},sxa T fn Qf s x g→st'.glo=g→st'.defs=s.defs→st'.pin=s.pin→frK T fr (EK T fn Qf) (.panic x) st':=λh1 h2 h3 h4=>frp (sPa h1 h2 h3 h4);cases c with
  |skip=>exact EvX.skip (sxo (n:=n) (md:=.normal) h hc)
  |label l=>exact EvX.label (sxo (n:=n) (md:=.normal) h hc)
  |region id ops draw=>
   obtain⟨ops⟩:=ops;cases draw with
   |true=>
    simp only at h;split at h
    ·rename_i hok;refine EvX.drw hok ?_;refine sxk h hc ⟨rfl,λj a b h=>by simp at h⟩ rfl (λs' st' k1 k2=>sxo (n:=n) (md:=.normal) k1 k2) (λx g fin hp=>?_);exact pan (st':={st with glo:=g}) hp rfl hc.defs hc.pin
    ·exact h.elim
   |false=>
    refine EvX.region (sxO h hc hc.defs hc.pin (λs' st' k1 k2=>sxo (n:=n) (md:=.normal) k1 k2) λx g st' hp hg hd hpn=>?_);exact pan hp hg hd hpn
  |seq a b=>exact EvX.seq (sxo (n:=n) (md:=.code a) h hc)
  |cond x a b=>
   simp only at h;split at h
   ·rename_i t ht;refine EvX.cond (hc.bool ht) (λe=>?_) (λe=>?_)
    ·subst e;exact sxo (n:=n) (md:=.code a) h hc
    ·subst e;exact sxo (n:=n) (md:=.code b) h hc
   ·exact h.elim
  |block id a=>exact EvX.block (sxo (n:=n) (md:=.code a) h hc)
  |loop a=>
   simp only at h;split at h
   ·exact sxC h hc
   ·exact EvX.loop (sxo (n:=n) (md:=.code a) h hc)
  |scope a=>exact EvX.scope (sxo (n:=n) (md:=.code a) h hc)
  |exit i=>exact EvX.exit (sxo (n:=n) (md:=.exit i) h hc)
  |ret=>exact EvX.ret (sxo (n:=n) (md:=.ret) h hc)
  |_=>exact h.elim
 |n+1,.normal,s,fr,st,h,hc=>by
  unfold sx at h;show frK T fr (EK T fn Qf) .normal st;cases fr with
  |nil=>exact sxi (.inl rfl) h hc
  |cons f r=>
   cases f with
   |seq b=>
    simp only at h;split at h
    ·exact sxC h hc
    ·exact sxo (n:=n) (md:=.code b) h hc
   |loop a=>exact sxo (n:=n) (md:=.code (.loop a)) h hc
   |block id=>exact sxo (n:=n) (md:=.normal) (fr:=r) h hc
 |n+1,.exit i,s,fr,st,h,hc=>by
  unfold sx at h;show frK T fr (EK T fn Qf) (.exit i) st;cases fr with
  |nil=>exact h.elim
  |cons f r=>
   cases f with
   |seq b=>exact sxo (n:=n) (md:=.exit i) (fr:=r) h hc
   |loop a=>exact sxo (n:=n) (md:=.exit i) (fr:=r) h hc
   |block id=>
    simp only at h;split at h
    ·rename_i e;have e:i=id:=by simpa using e
     subst e;exact wH (sxo (n:=n) (md:=.normal) (fr:=r) h hc)
    ·rename_i e;have e:i≠id:=by simpa using e
     exact wEx e (sxo (n:=n) (md:=.exit i) (fr:=r) h hc)
 |n+1,.ret,s,fr,st,h,hc=>by
  unfold sx at h;exact frr (sxi (.inr rfl) h hc)
theorem seS{bc tc:Mp Nat}{B:Mp (Nat×Box)}{C:Mp (Nat×Option (Nat×Nat))}:∀{args:List (TypeId×Dat)} {i:Nat} {m:Mp SV} {m':Mp Val},AlT T args→
 (∀t sv,m.get t=some sv→∃v,m'.get t=some v∧Cc T bc tc B C sv v)→∀t sv,(sA3 i args m).get t=some sv→∃v,(entry.setRegs i (args.map (·.2)) m').get t=some v∧Cc T bc tc B C sv v
 |[],i,m,m',_,h=>h
 |p::l,i,m,m',ht,h=>by
  refine seS (args:=l) ht.2 λt sv hs=>?_;rw[Mp.gee] at hs⊢;split at hs
  ·rename_i e;cases hs;rw[if_pos e];exact⟨_,rfl,rfl,rfl,ht.1⟩
  ·rename_i e;rw[if_neg e];exact h t sv hs
theorem sar{f:FuncId}{args:List (TypeId×Dat)}{g:Glob}(ht:AlT T args):Conc T (stS T f fn args g) (entry T f fn (args.map (·.2)) g) where
 nt:=by simp[entry,stS]
 esc:=rfl
 res:=rfl
 defs:=rfl
 pin:=rfl
 glo:=rfl
 regs:=seS ht λt sv h=>by rw[Mp.gm] at h;cases h
 boxes:=λk sb h=>by rw[show(stS T f fn args g).boxes=⟨[]⟩ from rfl,Mp.gm] at h;cases h
theorem sxt{f:FuncId}{c:Code}{args:List (TypeId×Dat)}{ds:List Dat}{g:Glob}{n:Nat}(hx:T.ext f=none)(hf:T.fn f=some fn)(hb:fn.body=some c)(hds:args.map (·.2)=ds)(ht:AlT T args)
 (h:sx T rk fn Qf loops joins n (.code c) (stS T f fn args g) []):EvF T f ds g Qf:=by
 subst hds;exact EvF.enter hx hf hb (sxo h (sar ht))
theorem sxd{f:FuncId}{c c':Code}{args:List (TypeId×Dat)}{ds:List Dat}{g:Glob}{n d:Nat}{t:TypeId}{p:Option Dat}{K:Option Dat→Glob→Prop}(hf:T.fn f=some fn)(hb:fn.body=some c)(hr:recovers c=some (d,c'))(hd:d<(stS T f fn args g).nt)(hn:fn.results.toList=[])
 (hds:args.map (·.2)=ds) (ht:AlT T args) (hp:Ha T t (p.getD .nilIface))
 (h:sx T rk fn (λout g'=>match out with|.val _=>K none g'|.panic _=>False) loops joins n (.code c') ((stS T f fn args g).put (some d) (.v t (p.getD .nilIface))) []):EvL T [(f,ds)] p g K:=by
 subst hds;refine EvL.one hf hb hr ?_ hn (sxo h ((sar ht).put _ ⟨rfl,?_,hp⟩))
 ·rw[(sar (fn:=fn) (f:=f) (g:=g) ht).nt];exact hd
 ·rfl
theorem sxl{a:Code}{fr:List Fr}{n:Nat}(h:sx T rk fn Qf loops joins n (.code a) s (.loop a::fr)):Cut T (.loop a) fr (EK T fn Qf) s:=λst hc=>EvX.loop (sxo (md:=.code a) h hc)
theorem sxj{b:Code}{fr:List Fr}{n:Nat}(h:sx T rk fn Qf loops joins n (.code b) s fr):Cut T b fr (EK T fn Qf) s:=λst hc=>sxo (md:=.code b) h hc
end
end Go.Proofs.YtiheejdkkjfenaaGreatDoor.Am
namespace Go.Proofs.YtiheejdkkjfenaaGreatDoor.Am
open Go
def frA:Code→List Nat→List Fr→List Fr
 |_,[],fr=>fr
 |.seq a b,0::p,fr=>frA a p (.seq b::fr)
 |.seq _ b,_::p,fr=>frA b p fr
 |.cond _ a _,0::p,fr=>frA a p fr
 |.cond _ _ b,_::p,fr=>frA b p fr
 |.block id a,_::p,fr=>frA a p (.block id::fr)
 |.loop a,_::p,fr=>frA a p (.loop a::fr)
 |.scope a,_::p,fr=>frA a p fr
 |_,_::_,fr=>fr
def mkC(T:Tb)(f:FuncId)(fn:Func)(n:Nat)(regs:List (Nat×SV))(boxes:List (Nat×SBo))(g:Glob):SSt:=
 {nt:=max n fn.ntmps,esc:=T.esc f,res:=fn.results.toList,regs:=mMp regs,boxes:=mMp boxes,bc:=⟨[]⟩,tc:=⟨[]⟩,glo:=g}
def CP(T:Tb)(fn:Func)(p:List Nat)(Qf:OGP)(s:SSt):Prop:=Cut T (cod (bod fn) p) (frA (bod fn) p []) (EK T fn Qf) s
def sxP(T:Tb)(rk:FuncId→RK)(fn:Func)(Qf:OGP)(loops joins:List CuI)(n:Nat)(p:List Nat)(s:SSt):Prop:=
 match cod (bod fn) p with
 |.loop a=>sx T rk fn Qf loops joins n (.code a) s (.loop a::frA (bod fn) p [])
 |c=>sx T rk fn Qf loops joins n (.code c) s (frA (bod fn) p [])
def sxF(T:Tb)(rk:FuncId→RK)(f:FuncId)(fn:Func)(Qf:OGP)(loops joins:List CuI)(n:Nat)(args:List (TypeId×Dat))(g:Glob):Prop:=
 sx T rk fn Qf loops joins n (.code (bod fn)) (stS T f fn args g) []
variable{T:Tb}{rk:FuncId→RK}{f:FuncId}{fn:Func}{Qf:OGP}{loops joins:List CuI}{n:Nat}{p:List Nat}{s:SSt}{S:Prop}{g:Glob}
theorem sxc(he:S=sxP T rk fn Qf loops joins n p s)(h:S):CP T fn p Qf s:=by
 subst he;unfold sxP at h;unfold CP;split at h
 ·rename_i a ha;rw[ha];exact sxl h
 ·exact sxj h
theorem sxf{args:List (TypeId×Dat)}{ds:List Dat}(hx:T.ext f=none)(hf:T.fn f=some fn)(hb:fn.body=some (bod fn))(hds:args.map (·.2)=ds)(ht:AlT T args)
 (he:S=sxF T rk f fn Qf loops joins n args g) (h:S):EvF T f ds g Qf:=by
 subst he;exact sxt hx hf hb hds ht h
theorem tyl{t:TypeId}{b:Bool}(h:T.und t=some .bool):Ha T t (.bool b):=.bool _ _ (iBo h)
theorem tyI{t:TypeId}{k:IntKind}{n:Int}(h:T.und t=some (.int k)):Ha T t (.int k n):=.int _ _ _ (iso h)
theorem tyt{t:TypeId}{b:List UInt8}(h:T.und t=some .string)(hl:b.length≤2^40):Ha T t (.str b):=.str _ _ h hl
theorem tC{t:TypeId}{f:FuncId}{c:List Dat}(h:isF (T.und t)=true):Ha T t (.clo f c):=.clo _ _ _ h
theorem tPt{t:TypeId}{a:Option (Nat×Nat)}(h:isP (T.und t)=true):Ha T t (.ptr a):=.ptr _ _ (by simp[iP,h])
theorem neZ{n:Int}(h:n≠0):NeZ n:=h
theorem Be{A B:Prop}:Br true A B=A:=rfl
theorem Bf{A B:Prop}:Br false A B=B:=rfl
theorem Bi{c:Bool}{A B:Prop}:Br c A B↔(c=true→A)∧(c=false→B):=by cases c<;>simp[Br]
end Go.Proofs.YtiheejdkkjfenaaGreatDoor.Am
namespace Go.Proofs.YtiheejdkkjfenaaGreatDoor.Am
open Go
theorem tyr{T:Tb}{t:TypeId}{a:Option (Nat×Nat)}(h:iP (T.und t)=true):Ha T t (.ptr a):=.ptr _ _ h
def Ky(s:Bool):Dat→Bool
 |.str _=>s
 |.int .i64 _=>!s
 |_=>false
theorem keq{s:Bool}{a b:Dat}(ha:Ky s a=true)(hb:Ky s b=true):kE a b=some (a.beq b):=by
 cases a with
 |str x=>
  cases b with
  |str y=>rfl
  |int k n=>cases k<;>cases s<;>simp_all[Ky]
  |_=>cases hb
 |int k x=>
  cases b with
  |str y=>cases k<;>cases s<;>simp_all[Ky]
  |int k' n=>cases k<;>first|cases ha|(cases k'<;>first|cases hb|simp[kE,Dat.beq])
  |_=>cases hb
 |_=>cases ha
theorem bea{a b:Dat}(h:a.beq b=false):a≠b:=λe=>by rw[e,Dat.ber] at h;cases h
structure EI(s:Bool)(es:Entries)(c:Nat)(F:Dat→Option Dat):Prop where
 key:∀e∈es,Ky s e.1=true
 lt:∀e∈es,e.2.2<c
 nk:(es.map (·.1)).Pairwise (·≠·)
 nb:(es.map (·.2.2)).Pairwise (·≠·)
 has:∀k x,F k=some x↔∃e∈es,e.1=k∧e.2.1=x
variable{s:Bool}{es:Entries}{c:Nat}{F:Dat→Option Dat}{k x z:Dat}{g:Glob}{i:Nat}
theorem fic(hk:Ky s k=true):∀{es:Entries} {i:Nat},(∀e∈es,Ky s e.1=true)→
 (fK k es i=some none∧∀e∈es,e.1≠k)∨∃l1 e l2,es=l1++e::l2∧e.1=k∧fK k es i=some (some (i+l1.length,e.2.1))
 |[],i,_=>.inl ⟨rfl,λe h=>by cases h⟩
 |e::es,i,h=>by
  unfold fK;rw[keq hk (h e List.mem_cons_self)];cases hb:k.beq e.1 with
  |true=>exact .inr ⟨[],e,es,rfl,(Dat.eq_of_beq hb).symm,rfl⟩
  |false=>
   have hne:=bea hb;rcases fic hk (i:=i+1) (λe' he=>h e' (List.mem_cons_of_mem _ he)) with ⟨h1,h2⟩|⟨l1,e',l2,h1,h2,h3⟩
   ·refine .inl ⟨h1,λe' he=>?_⟩;rcases List.mem_cons.1 he with rfl|he
    ·exact λq=>hne q.symm
    ·exact h2 e' he
   ·refine .inr ⟨e::l1,e',l2,by rw[h1];rfl,h2,?_⟩;simp only;rw[h3,List.length_cons];congr 3;omega
theorem EI.uniq(h:EI s es c F){l1 l2:Entries}{e:Dat×Dat×Nat}(he:es=l1++e::l2):(∀e'∈l1++l2,e'.1≠e.1∧e'.2.2≠e.2.2):=by
 have h1:=h.nk;have h2:=h.nb;rw[he,List.map_append,List.map_cons,List.pairwise_append,List.pairwise_cons] at h1 h2;intro e' hm;rcases List.mem_append.1 hm with hm|hm
 ·exact⟨h1.2.2 _ (List.mem_map_of_mem hm) _ List.mem_cons_self,h2.2.2 _ (List.mem_map_of_mem hm) _ List.mem_cons_self⟩
 ·exact⟨λq=>h1.2.1.1 _ (List.mem_map_of_mem hm) q.symm,λq=>h2.2.1.1 _ (List.mem_map_of_mem hm) q.symm⟩
theorem EI.find(h:EI s es c F)(hk:Ky s k=true)(j:Nat):
 (F k=none∧fK k es j=some none∧∀e∈es,e.1≠k)∨∃l1 e l2,es=l1++e::l2∧e.1=k∧F k=some e.2.1∧fK k es j=some (some (j+l1.length,e.2.1)):=by
 rcases fic hk (i:=j) h.key with ⟨h1,h2⟩|⟨l1,e,l2,h1,h2,h3⟩
 ·refine .inl ⟨?_,h1,h2⟩;cases hF:F k with
  |none=>rfl
  |some x=>
   obtain⟨e,he,rfl,_⟩:=(h.has _ _).1 hF;exact absurd rfl (h2 e he)
 ·exact .inr ⟨l1,e,l2,h1,h2,(h.has _ _).2 ⟨e,by rw[h1];simp,h2,rfl⟩,h3⟩
theorem mi{α:Type}(f:α→α)(e:α)(l2:List α):∀l1:List α,(l1++e::l2).modify l1.length f=l1++f e::l2
 |[]=>rfl
 |a::l1=>by
  have:=mi f e l2 l1;simp only[List.cons_append,List.length_cons,List.modify_succ_cons,this]
theorem era{α:Type}(e:α)(l2:List α):∀l1:List α,(l1++e::l2).eraseIdx l1.length=l1++l2
 |[]=>rfl
 |a::l1=>by
  have:=era e l2 l1;simp only[List.cons_append,List.length_cons,List.eraseIdx_cons_succ,this]
noncomputable def udF(F:Dat→Option Dat)(k:Dat)(r:Option Dat):Dat→Option Dat:=λk'=>@ite _ (k'=k) (Classical.propDecidable _) r (F k')
theorem uF(F:Dat→Option Dat)(k:Dat)(r:Option Dat):udF F k r k=r:=by unfold udF;rw[if_pos rfl]
theorem upF(F:Dat→Option Dat){k k':Dat}(r:Option Dat)(h:k'≠k):udF F k r k'=F k':=by unfold udF;rw[if_neg h]
theorem EI.put(h:EI s es c F){l1 l2:Entries}{e:Dat×Dat×Nat}(he:es=l1++e::l2)(x:Dat):EI s (l1++(e.1,x,e.2.2)::l2) c (udF F e.1 (some x)) where
 key e' hm:=by
  rcases List.mem_append.1 hm with hm|hm
  ·exact h.key e' (by rw[he];simp[hm])
  ·rcases List.mem_cons.1 hm with rfl|hm
   ·exact h.key e (by rw[he];simp)
   ·exact h.key e' (by rw[he];simp[hm])
 lt e' hm:=by
  rcases List.mem_append.1 hm with hm|hm
  ·exact h.lt e' (by rw[he];simp[hm])
  ·rcases List.mem_cons.1 hm with rfl|hm
   ·exact h.lt e (by rw[he];simp)
   ·exact h.lt e' (by rw[he];simp[hm])
 nk:=by
  have:=h.nk;rw[he] at this
  simpa using this
 nb:=by
  have:=h.nb;rw[he] at this
  simpa using this
 has k' y:=by
  have hu:=h.uniq he
  by_cases hk:k'=e.1
  ·subst hk;rw[uF];constructor
   ·intro q;cases q;exact⟨(e.1,x,e.2.2),by simp,rfl,rfl⟩
   ·rintro ⟨e',hm,h1,h2⟩
    rcases List.mem_append.1 hm with hm|hm
    ·exact absurd h1 (hu e' (by simp[hm])).1
    ·rcases List.mem_cons.1 hm with rfl|hm
     ·rw[←h2]
     ·exact absurd h1 (hu e' (by simp[hm])).1
  ·rw[upF _ _ hk,h.has];constructor
   ·rintro ⟨e',hm,h1,h2⟩
    rw[he] at hm;rcases List.mem_append.1 hm with hm|hm
    ·exact⟨e',by simp[hm],h1,h2⟩
    ·rcases List.mem_cons.1 hm with rfl|hm
     ·exact absurd h1.symm hk
     ·exact⟨e',by simp[hm],h1,h2⟩
   ·rintro ⟨e',hm,h1,h2⟩
    rcases List.mem_append.1 hm with hm|hm
    ·exact⟨e',by rw[he];simp[hm],h1,h2⟩
    ·rcases List.mem_cons.1 hm with rfl|hm
     ·exact absurd h1.symm hk
     ·exact⟨e',by rw[he];simp[hm],h1,h2⟩
theorem EI.add(h:EI s es c F)(hk:Ky s k=true)(hn:∀e∈es,e.1≠k)(x:Dat):EI s (es++[(k,x,c)]) (c+1) (udF F k (some x)) where
 key e' hm:=by
  rcases List.mem_append.1 hm with hm|hm
  ·exact h.key e' hm
  ·rw[List.mem_singleton] at hm;subst hm;exact hk
 lt e' hm:=by
  rcases List.mem_append.1 hm with hm|hm
  ·exact Nat.lt_succ_of_lt (h.lt e' hm)
  ·rw[List.mem_singleton] at hm;subst hm;exact Nat.lt_succ_self c
 nk:=by
  rw[List.map_append,List.pairwise_append];refine⟨h.nk,by simp,λa ha b hb=>?_⟩;obtain⟨e,he,rfl⟩:=List.mem_map.1 ha;simp only[List.map_cons,List.map_nil,List.mem_singleton] at hb;subst hb;exact hn e he
 nb:=by
  rw[List.map_append,List.pairwise_append];refine⟨h.nb,by simp,λa ha b hb=>?_⟩;obtain⟨e,he,rfl⟩:=List.mem_map.1 ha;simp only[List.map_cons,List.map_nil,List.mem_singleton] at hb;subst hb;exact Nat.ne_of_lt (h.lt e he)
 has k' y:=by
  by_cases hk:k'=k
  ·subst hk;rw[uF];constructor
   ·intro q;injection q with q;exact⟨(k',x,c),by simp,rfl,q⟩
   ·rintro ⟨e',hm,h1,h2⟩
    rcases List.mem_append.1 hm with hm|hm
    ·exact absurd h1 (hn e' hm)
    ·rw[List.mem_singleton] at hm;subst hm;rw[←h2]
  ·rw[upF _ _ hk,h.has];constructor
   ·rintro ⟨e',hm,h1,h2⟩
    exact⟨e',by simp[hm],h1,h2⟩
   ·rintro ⟨e',hm,h1,h2⟩
    rcases List.mem_append.1 hm with hm|hm
    ·exact⟨e',hm,h1,h2⟩
    ·rw[List.mem_singleton] at hm;subst hm;exact absurd h1.symm hk
theorem EI.del(h:EI s es c F){l1 l2:Entries}{e:Dat×Dat×Nat}(he:es=l1++e::l2):EI s (l1++l2) c (udF F e.1 none) where
 key e' hm:=h.key e' (by rw[he];rcases List.mem_append.1 hm with hm|hm<;>simp[hm])
 lt e' hm:=h.lt e' (by rw[he];rcases List.mem_append.1 hm with hm|hm<;>simp[hm])
 nk:=by
  have:=h.nk;rw[he] at this;exact this.sublist (List.Sublist.map _ (List.Sublist.append_left (List.sublist_cons_self _ _) _))
 nb:=by
  have:=h.nb;rw[he] at this;exact this.sublist (List.Sublist.map _ (List.Sublist.append_left (List.sublist_cons_self _ _) _))
 has k' y:=by
  have hu:=h.uniq he
  by_cases hk:k'=e.1
  ·subst hk;rw[uF];constructor
   ·intro q;cases q
   ·rintro ⟨e',hm,h1,h2⟩
    exact absurd h1 (hu e' hm).1
  ·rw[upF _ _ hk,h.has];constructor
   ·rintro ⟨e',hm,h1,h2⟩
    rw[he] at hm;rcases List.mem_append.1 hm with hm|hm
    ·exact⟨e',by simp[hm],h1,h2⟩
    ·rcases List.mem_cons.1 hm with rfl|hm
     ·exact absurd h1.symm hk
     ·exact⟨e',by simp[hm],h1,h2⟩
   ·rintro ⟨e',hm,h1,h2⟩
    exact⟨e',by rw[he];rcases List.mem_append.1 hm with hm|hm<;>simp[hm],h1,h2⟩
def MI(s:Bool)(g:Glob)(i:Nat)(F:Dat→Option Dat):Prop:=∃es c,g.boxes[i]?=some (.map es c)∧EI s es c F
def Oe(i:Nat)(g g':Glob):Prop:=∃b,g'={g with boxes:=g.boxes.set i b}
theorem Oe.get{g':Glob}(h:Oe i g g'){j:Nat}(hj:j≠i):g'.boxes[j]?=g.boxes[j]?:=by
 obtain⟨b,rfl⟩:=h;simp only;rw[List.getElem?_set_ne (λe=>hj e.symm)]
theorem Oe.len{g':Glob}(h:Oe i g g'):g'.boxes.length=g.boxes.length:=by obtain⟨b,rfl⟩:=h;simp
theorem Oe.toks{g':Glob}(h:Oe i g g'):g'.toks=g.toks:=by obtain⟨b,rfl⟩:=h;rfl
theorem Oe.trans{g1 g2:Glob}(h:Oe i g g1)(h':Oe i g1 g2):Oe i g g2:=by
 obtain⟨b,rfl⟩:=h;obtain⟨b',rfl⟩:=h';exact⟨b',by simp⟩
theorem Oe.gse{es:Entries}{c:Nat}:Oe i g (gse g i es c):=⟨_,rfl⟩
theorem MI.other{g':Glob}{j:Nat}(h:MI s g i F)(hg:g'.boxes[i]?=g.boxes[i]?):MI s g' i F:=by
 obtain⟨es,c,h1,h2⟩:=h;exact⟨es,c,hg.trans h1,h2⟩
theorem MI.lt(h:MI s g i F):i<g.boxes.length:=by
 obtain⟨es,c,h1,_⟩:=h;exact(List.getElem?_eq_some_iff.1 h1).1
theorem maI{es:Entries}{c:Nat}(hi:i<g.boxes.length)(h:EI s es c F):MI s (gse g i es c) i F:=⟨es,c,by simp[gse,hi],h⟩
theorem MI.look(h:MI s g i F)(hk:Ky s k=true):glk g i k=some (F k):=by
 obtain⟨es,c,h1,h2⟩:=h;unfold glk;rw[h1];simp only;rcases h2.find hk 0 with ⟨a,b,_⟩|⟨l1,e,l2,a,b,c',d⟩
 ·rw[b,a];rfl
 ·rw[d,c'];rfl
theorem MI.mlo(h:MI s g i F)(hk:Ky s k=true):ML g (some i) z k ((F k).getD z) (F k).isSome:=by
 have hl:=h.look hk;show((F k).isSome=true∧glk g i k=some (some ((F k).getD z)))∨((F k).isSome=false∧(F k).getD z=z∧glk g i k=some none)
 rw[hl];cases F k with
 |none=>exact .inr ⟨rfl,rfl,rfl⟩
 |some x=>exact .inl ⟨rfl,rfl⟩
theorem MI.put(h:MI s g i F)(hk:Ky s k=true)(x:Dat):∃g',gmp g i k x=some g'∧Oe i g g'∧MI s g' i (udF F k (some x)):=by
 have hi:=h.lt;obtain⟨es,c,h1,h2⟩:=h;unfold gmp pK;rw[h1];simp only;rcases h2.find hk 0 with ⟨a,b,hn⟩|⟨l1,e,l2,a,b,c',d⟩
 ·rw[b];exact⟨_,rfl,Oe.gse,maI hi (h2.add hk hn x)⟩
 ·rw[d];subst a b;simp only[Nat.zero_add];rw[mi];exact⟨_,rfl,Oe.gse,maI hi (h2.put rfl x)⟩
theorem MI.del(h:MI s g i F)(hk:Ky s k=true):∃g',gmd g i k=some g'∧Oe i g g'∧MI s g' i (udF F k none):=by
 have hi:=h.lt;obtain⟨es,c,h1,h2⟩:=h;unfold gmd;rw[h1];simp only;rcases h2.find hk 0 with ⟨a,b,hn⟩|⟨l1,e,l2,a,b,c',d⟩
 ·rw[b];refine⟨_,rfl,Oe.gse,maI hi ?_⟩;have:udF F k none=F:=by
   funext k'
   by_cases hk':k'=k
   ·subst hk';rw[uF,a]
   ·rw[upF _ _ hk']
  rw[this];exact h2
 ·rw[d];subst a b;simp only[Nat.zero_add];rw[era];exact⟨_,rfl,Oe.gse,maI hi (h2.del rfl)⟩
theorem mas(s:Bool)(g:Glob):MI s (gmn g) g.boxes.length (λ_=>none):=
 ⟨[],0,by simp[gmn],{key:=λe h=>(by cases h),lt:=λe h=>(by cases h),nk:=List.Pairwise.nil,nb:=List.Pairwise.nil,has:=λk x=>⟨λh=>(by cases h),λ⟨e,h,_⟩=>(by cases h)⟩}⟩
end Go.Proofs.YtiheejdkkjfenaaGreatDoor.Am
