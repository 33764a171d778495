/- What code does, told as a proposition over plain values: types of values, symbolic values, what each operation makes of them. Types of plain values: what follows. What the symbolic operations say is what the plain machine does. What the symbolic operations say is what the plain machine does: stores, boxes, fields, elements. -/
import Derived.Test.YtgmapdcdmomioaaGreatDoorQE
set_option linter.all false
set_option autoImplicit false
namespace Go.Proofs.YtgmapdcdmomioaaGreatDoor.Am
open Go
def intOf:Dat→Int
 |.int _ n=>n
 |_=>0
def boolOf:Dat→Bool
 |.bool b=>b
 |_=>false
def strOf:Dat→List UInt8
 |.str s=>s
 |_=>[]
def elsOf:Dat→List Dat
 |.sl _ xs=>xs
 |.gsl _ _ xs=>xs
 |_=>[]
def nth:List Dat→Nat→Dat
 |[],_=>.nil
 |x::_,0=>x
 |_::l,n+1=>nth l n
def fld:Dat→Nat→Dat
 |.agg cs,o=>nth cs o
 |x,_=>x
def sub:Dat→Nat→Nat→Dat
 |.agg cs,o,n=>.agg ((cs.drop o).take n)
 |x,_,_=>.agg [x]
def getE(xs:List Dat)(n:Int):Dat:=nth xs n.toNat
def byteAt(s:List UInt8)(n:Int):Int:=((s[n.toNat]?.getD 0).toNat:Int)
def InB(n:Int)(l:Nat):Prop:=0≤n∧n<(l:Int)
def slOf(m:Nat):List Dat→Dat
 |[]=>.nil
 |x::xs=>.sl m (x::xs)
def retOf(m:Nat):List Dat→Val
 |[]=>.d .nil
 |x::xs=>.uq m (x::xs)
def subStr(s:List UInt8)(l h:Int):List UInt8:=(s.take h.toNat).drop l.toNat
def InS(l h:Int)(n:Nat):Prop:=0≤l∧l≤h∧h≤(n:Int)
def slSub(m:Nat)(x:Dat)(xs:List Dat)(l h:Int):Dat:=if l=0∧h=(xs.length:Int) then x else .sl m ((xs.take h.toNat).drop l.toNat)
def bytesD:List Dat→List UInt8
 |[]=>[]
 |d::l=>UInt8.ofNat (intOf d).toNat::bytesD l
def bytesUp(s:List UInt8):List Dat:=s.map λ(c:UInt8)=>Dat.int .u8 c.toNat
def nilD:Dat→Bool
 |.nilIface|.nilFn|.ptr none=>true
 |_=>false
def Br:Bool→Prop→Prop→Prop
 |true,A,_=>A
 |false,_,B=>B
def NeZ(n:Int):Prop:=n≠0
def Fits(n bytes:Nat):Prop:=n≤2^40∧n*bytes≤2^46
def isAgg?:Option TypeDesc→Bool
 |some (.struct _)|some (.array _ _)=>true
 |_=>false
def z0:Option TypeDesc→Bool
 |some (.tuple ⟨[]⟩)=>true
 |_=>false
def isB0(D:Option TypeDesc):Bool:=isB D||z0 D
def isP0(D:Option TypeDesc):Bool:=isP D||z0 D
def isI0(k:IntKind):Option TypeDesc→Bool
 |some (.int k')=>k'==k
 |D=>z0 D
def isM:Option TypeDesc→Bool
 |some (.map _ _)=>true
 |_=>false
variable(T:Tb)
def layout:Nat→TypeId→Option (List TypeId)
 |0,_=>none
 |n+1,t=>
  match T.und t with
  |some (.struct fs)=>(match optAll (fs.toList.map λf=>layout n f.type) with
   |some ls=>some ls.flatten
   |none=>none)
  |some (.array k e)=>(match layout n e with
   |some l=>some (List.replicate k l).flatten
   |none=>none)
  |some _=>some [t]
  |none=>none
def lay(t:TypeId):Option (List TypeId):=layout T 6 t
def SlFit(e:TypeId)(n:Nat):Prop:=n≤2^40∧∀b,T.bytes e=some b→n*b≤2^46
def fitB(e:TypeId)(n:Nat):Bool:=
 match T.bytes e with
 |some b=>Nat.ble (n*b) (2^46)
 |none=>true
inductive HasTy:TypeId→Dat→Prop where
 |bool (t:TypeId) (b:Bool) (h:isB0 (T.und t)=true):HasTy t (.bool b)
 |int (t:TypeId) (k:IntKind) (n:Int) (h:isI0 k (T.und t)=true):HasTy t (.int k n)
 |str (t:TypeId) (s:List UInt8) (h:T.und t=some .string) (hl:s.length≤2^40):HasTy t (.str s)
 |ptr (t:TypeId) (a:Option (Nat×Nat)) (h:isP0 (T.und t)=true):HasTy t (.ptr a)
 |nil (t:TypeId) (h:isL (T.und t)=true):HasTy t .nil
 |sl (t e:TypeId) (m:Nat) (xs:List Dat) (h:T.und t=some (.slice e)) (hm:T.size e=some m) (hl:SlFit T e xs.length) (hx:∀x∈xs,HasTy e x):HasTy t (.sl m xs)
 |gsl (t e:TypeId) (k m:Nat) (xs:List Dat) (h:T.und t=some (.slice e)) (hm:T.size e=some m) (hl:SlFit T e xs.length) (hx:∀x∈xs,HasTy e x):HasTy t (.gsl k m xs)
 |map (t:TypeId) (r:Option Nat) (h:isM (T.und t)=true):HasTy t (.map r)
 |clo (t:TypeId) (f:FuncId) (c:List Dat) (h:isF (T.und t)=true):HasTy t (.clo f c)
 |bnd (t:TypeId) (f:FuncId) (r:Dat) (h:isF (T.und t)=true):HasTy t (.bnd f r)
 |nilFn (t:TypeId) (h:isF (T.und t)=true):HasTy t .nilFn
 |iface (t u:TypeId) (x:Dat) (h:isI (T.und t)=true) (hx:HasTy u x):HasTy t (.iface u x)
 |nilIface (t:TypeId) (h:isI (T.und t)=true):HasTy t .nilIface
 |agg (t:TypeId) (tys:List TypeId) (cs:List Dat) (h:isAgg? (T.und t)=true) (hl:lay T t=some tys) (hn:tys.length=cs.length) (h1:∀c∈cs,c.one=true)
  (hx:∀(i:Nat) u c,tys[i]?=some u→cs[i]?=some c→HasTy u c):HasTy t (.agg cs)
def ex(t:TypeId)(x:Dat):Dat:=
 match T.und t with
 |some (.int k)=>.int k (intOf x)
 |some .bool=>.bool (boolOf x)
 |some .string=>.str (strOf x)
 |_=>x
def isSl(t:TypeId)(m:Nat):Bool:=
 match T.und t with
 |some (.slice e)=>(match T.size e with|some m'=>m'==m|none=>false)
 |_=>false
def tyS(t:TypeId):Dat→Bool
 |.bool _=>isB0 (T.und t)
 |.int k _=>isI0 k (T.und t)
 |.str s=>(match T.und t with|some .string=>Nat.ble s.length (2^40)|_=>false)
 |.ptr _=>isP0 (T.und t)
 |.nil=>isL (T.und t)
 |.map _=>isM (T.und t)
 |.clo ..|.nilFn=>isF (T.und t)
 |.nilIface=>isI (T.und t)
 |_=>false
def tySs:List TypeId→List Dat→Bool
 |[],[]=>true
 |t::ts,x::xs=>tyS T t x&&tySs ts xs
 |_,_=>false
def tyB(t:TypeId):Dat→Bool
 |.agg cs=>isAgg? (T.und t)&&(match lay T t with|some tys=>tySs T tys cs|none=>false)
 |x=>tyS T t x
inductive SV where
 |v (t:TypeId) (x:Dat)
 |loc (k c o:Nat)
 |imm (t:TypeId) (x:Dat) (o:Nat)
 |own (k c:Nat) (t:TypeId) (m:Nat) (xs:List Dat)
 |acc (ks:List (Nat×Nat)) (t:TypeId) (m:Nat) (xs:List Dat)
 |tup (vs:List (TypeId×Dat))
 |off
 |junk
 deriving Inhabited
inductive SBox where
 |cells (cs:List SV)
 |whole (t:TypeId) (x:Dat)
 |iter (s:List UInt8) (pos:Nat)
 deriving Inhabited
structure SSt where
 nt:Nat
 esc:List Nat
 res:List ResultVar
 regs:Mp SV
 boxes:Mp SBox
 bc:Mp Nat
 tc:Mp Nat
 glob:Glob
 defs:List (FuncId×List Dat):=[]
 pin:List (Nat×Nat×Nat):=[]
def cnt(m:Mp Nat)(k:Nat):Nat:=(m.get k).getD 0
def nrm:Val→Bool
 |.agg cs=>(optAll (cs.map Val.isD)).isNone
 |_=>true
def ConcV(bc tc:Mp Nat)(B:Mp (Nat×Box))(K:Mp (Nat×Option (Nat×Nat))):SV→Val→Prop
 |.v t x,v=>v.toD=some x∧nrm v=true∧HasTy T t x
 |.loc k c o,v=>c≤cnt bc k∧∃g,v=.loc k g o∧(c=cnt bc k→∃bx,B.get k=some (g,bx))
 |.imm t x o,v=>v=.imm (x.cells.drop o)∧HasTy T t x
 |.own k c t m xs,v=>c≤cnt tc k∧HasTy T t (.sl m xs)∧∃g,v=.own k g m xs∧(c=cnt tc k→K.get k=some (g,some (m,xs.length)))
 |.acc ks t m xs,v=>isSl T t m=true∧HasTy T t (slOf m xs)∧(∀p∈ks,p.2≤cnt tc p.1)∧
  ((xs=[]∧v=.d .nil)∨(xs≠[]∧∃p∈ks,∃g,v=.own p.1 g m xs∧(p.2=cnt tc p.1→K.get p.1=some (g,some (m,xs.length)))))
 |.tup l,v=>∃vs,v=.tuple vs∧Els (λ(p:TypeId×Dat) (u:Val)=>u.toD=some p.2∧nrm u=true∧HasTy T p.1 p.2) l vs
 |.off,v=>v=.tuple []
 |.junk,_=>True
def ConcB(bc tc:Mp Nat)(B:Mp (Nat×Box))(K:Mp (Nat×Option (Nat×Nat))):SBox→Box→Prop
 |.cells cs,.cells vs=>Els (λs v=>v.one=true∧ConcV T bc tc B K s v) cs vs
 |.whole t x,.cells vs=>HasTy T t x∧isAgg? (T.und t)=true∧vs.length=x.cells.length∧∀(i:Nat) v c,vs[i]?=some v→x.cells[i]?=some c→v.dat?=some c
 |.iter s pos,.iter s' pos'=>s'=s∧pos'=pos
 |_,_=>False
structure Conc(s:SSt)(st:St):Prop where
 nt:st.nt=s.nt
 esc:st.esc=s.esc
 res:st.res=s.res
 defs:st.defs=s.defs
 pin:st.pin=s.pin
 glob:st.glob=s.glob
 regs:∀t sv,s.regs.get t=some sv→∃v,st.regs.get t=some v∧ConcV T s.bc s.tc st.boxes st.toks sv v
 boxes:∀k sb,s.boxes.get k=some sb→∃g bx,st.boxes.get k=some (g,bx)∧ConcB T s.bc s.tc st.boxes st.toks sb bx
def SSt.put(s:SSt):Option Nat→SV→SSt
 |some t,sv=>{s with regs:=s.regs.set t sv}
 |none,_=>s
def SSt.setTc(s:SSt)(tc:Mp Nat):SSt:={s with tc:=tc}
def SSt.ev(s:SSt)(t:TypeId):Operand→SV
 |.tmp i=>(match s.regs.get i with|some sv=>sv|none=>.junk)
 |.const v=>(match ofV v with
  |some d=>if tyB T t d then .v t d else .junk
  |none=>.junk)
 |.func f=>if isF (T.und t) then .v t (.clo f []) else .junk
 |.global _=>.junk
def SV.dat:SV→Option (TypeId×Dat)
 |.v t x=>some (t,x)
 |.own _ _ t m xs=>some (t,.sl m xs)
 |.acc _ t m xs=>some (t,slOf m xs)
 |_=>none
def SV.els(sv:SV):Option (TypeId×Nat×List Dat):=
 match sv with
 |.v t x=>(match T.und t with|some (.slice e)=>(match T.size e with|some m=>some (e,m,elsOf x)|none=>none)|_=>none)
 |.own _ _ t _ xs|.acc _ t _ xs=>(match T.und t with|some (.slice e)=>(match T.size e with|some m=>some (e,m,xs)|none=>none)|_=>none)
 |_=>none
def SSt.int(s:SSt):Operand→Option Int
 |.tmp i=>(match s.regs.get i with|some (.v _ (.int _ n))=>some n|_=>none)
 |.const (.int _ n)=>some n
 |_=>none
def SSt.int64(s:SSt):Operand→Option Int
 |.tmp i=>(match s.regs.get i with|some (.v _ (.int .i64 n))=>some n|_=>none)
 |.const (.int .i64 n)=>some n
 |_=>none
def SSt.bool(s:SSt):Operand→Option Bool
 |.tmp i=>(match s.regs.get i with|some (.v _ (.bool b))=>some b|_=>none)
 |.const (.bool b)=>some b
 |_=>none
def cellsFrom:List TypeId→Nat→Dat→List SV
 |[],_,_=>[]
 |u::l,i,x=>.v u (ex T u (fld x i))::cellsFrom l (i+1) x
def cellsS(t:TypeId)(x:Dat):Option (List SV):=
 if isAgg? (T.und t) then(match lay T t with
  |some tys=>some (cellsFrom T tys 0 x)
  |none=>none)
 else some [.v t x]
def SV.cells:SV→Option (List SV)
 |.v t x=>cellsS T t x
 |.loc k c o=>some [.loc k c o]
 |.imm t x o=>some [.imm t x o]
 |.own k c t m xs=>some [.own k c t m xs]
 |.acc ks t m xs=>some [.acc ks t m xs]
 |_=>none
def SBox.cs:SBox→Option (List SV)
 |.cells cs=>some cs
 |.whole t x=>cellsS T t x
 |_=>none
def wholeOf(vs:List SV):SV→SBox
 |.v t x=>if isAgg? (T.und t) then .whole t x else .cells vs
 |_=>.cells vs
def partOf(t u:TypeId)(x:Dat)(o:Nat):Option SV:=
 match lay T t with
 |none=>none
 |some tys=>
  if isAgg? (T.und u) then
   (match lay T u,T.size u with
   |some us,some n=>if isAgg? (T.und t)&&us.length==n&&(tys.drop o).take n==us then
    some (.v u (if o==0&&tys.length==n then x else sub x o n)) else none
   |_,_=>none)
  else(match tys[o]?,T.und u,T.size u with
   |some w,some _,some _=>if w==u then some (.v u (ex T u (fld x o))) else none
   |_,_,_=>none)
def loadS(u:TypeId)(cs:List SV):Option SV:=
 if isAgg? (T.und u) then
  (match lay T u,T.size u with
  |some us,some n=>(match optAll ((cs.take n).map SV.dat) with
   |some l=>if us.length==n&&l.map (·.1)==us then some (.v u (.agg (l.map (·.2)))) else none
   |none=>none)
  |_,_=>none)
 else(match T.und u,T.size u with
  |some _,some _=>cs.head?
  |_,_=>none)
inductive Rd where
 |cell (t:TypeId) (i o:Nat)
 |map (i:Nat) (z k:Dat) (ok:Bool)
 |size (i:Nat)
structure SFeet where
 box:Option (Nat×Bool):=none
 toks:List Nat:=[]
 rd:Option Rd:=none
 wr:Bool:=false
def exT(t:TypeId)(K:Dat→Prop):Prop:=
 match T.und t with
 |some (.int k)=>∃n:Int,K (.int k n)
 |some .bool=>∃b:Bool,K (.bool b)
 |some .string=>∃s:List UInt8,s.length≤2^40∧K (.str s)
 |some (.pointer _)=>if T.nn t then ∃i o:Nat,K (.ptr (some (i,o))) else K (.ptr none)∨∃i o:Nat,K (.ptr (some (i,o)))
 |some (.map _ _)=>if T.nn t then ∃i:Nat,K (.map (some i)) else K (.map none)∨∃i:Nat,K (.map (some i))
 |some (.func ..)=>if T.nn t then ∃(f:FuncId) (c:List Dat),K (.clo f c) else K .nilFn∨∃(f:FuncId) (c:List Dat),K (.clo f c)
 |_=>∃x:Dat,HasTy T t x∧K x
def gload(t:TypeId)(g:Glob)(i o:Nat):Option Val:=
 match g.boxes[i]? with
 |some (.cells cs)=>loadV T t ((cs.drop o).map GVal.v)
 |_=>none
def GOk(t:TypeId)(g:Glob)(i o:Nat)(x:Dat):Prop:=∃v,gload T t g i o=some v∧v.toD=some x∧nrm v=true
def gput(g:Glob)(i o:Nat)(x:Dat):Glob:=
 match g.boxes[i]? with
 |some (.cells cs)=>{g with boxes:=g.boxes.set i (.cells (putAll cs o (x.cells.map .d)))}
 |_=>g
def GPut(g:Glob)(i o n:Nat):Prop:=∃cs,g.boxes[i]?=some (.cells cs)∧o+n≤cs.length
def gtok(g:Glob)(m n:Nat):Glob:={g with toks:=g.toks++[(m,n)]}
def gapp(m:Nat)(x:Dat)(ys:List Dat)(g:Glob):Option (Dat×Glob):=
 if ys.isEmpty then some (x,g) else match x with
 |.nil=>some (.gsl g.toks.length m ys,gtok g m ys.length)
 |.gsl t m' xs=>if m'=m∧g.toks[t]?=some (m,xs.length) then some (.gsl t m (xs++ys),{g with toks:=g.toks.set t (m,xs.length+ys.length)}) else none
 |_=>none
def glook(g:Glob)(i:Nat)(k:Dat):Option (Option Dat):=
 match g.boxes[i]? with
 |some (.map es _)=>(match findK k es 0 with|some r=>some (r.map (·.2))|none=>none)
 |_=>none
def MLook(g:Glob)(r:Option Nat)(z k x:Dat)(b:Bool):Prop:=
 match r with
 |none=>x=z∧b=false
 |some i=>(b=true∧glook g i k=some (some x))∨(b=false∧x=z∧glook g i k=some none)
def gmlen(g:Glob)(i:Nat):Option Nat:=
 match g.boxes[i]? with
 |some (.map es _)=>some es.length
 |_=>none
def gmnew(g:Glob):Glob:={g with boxes:=g.boxes++[.map [] 0]}
def gset(g:Glob)(i:Nat)(es:Entries)(c:Nat):Glob:={g with boxes:=g.boxes.set i (.map es c)}
def gentry(g:Glob)(i:Nat)(z k:Dat):Option (Dat×Nat×Glob):=
 match g.boxes[i]? with
 |some (.map es c)=>(match findK k es 0 with
  |some (some (j,v))=>(match es[j]? with|some e=>some (v,e.2.2,gset g i (es.modify j λe=>(k,e.2)) c)|none=>none)
  |some none=>some (z,c,gset g i (es++[(k,z,c)]) (c+1))
  |none=>none)
 |_=>none
def gestore(g:Glob)(i:Nat)(n:Int)(x:Dat):Option Glob:=
 match g.boxes[i]? with
 |some (.map es c)=>(match es.findIdx? (λe=>(e.2.2:Int)==n) with
  |some j=>some (gset g i (es.modify j λe=>(e.1,x,e.2.2)) c)
  |none=>none)
 |_=>none
def gmput(g:Glob)(i:Nat)(k x:Dat):Option Glob:=
 match g.boxes[i]? with
 |some (.map es c)=>(match putK k x es c with|some r=>some (gset g i r.1 r.2)|none=>none)
 |_=>none
def gmdel(g:Glob)(i:Nat)(k:Dat):Option Glob:=
 match g.boxes[i]? with
 |some (.map es c)=>(match findK k es 0 with
  |some (some (j,_))=>some (gset g i (es.eraseIdx j) c)
  |some none=>some (gset g i es c)
  |none=>none)
 |_=>none
def Rd.read:Rd→Glob→Option Val
 |.cell t i o,g=>gload T t g i o
 |.map i z k ok,g=>(glook g i k).map λr=>found z ok (r.map λx=>(0,x))
 |.size i,g=>(gmlen g i).map λn=>.d (.int .i64 n)
def gnew(g:Glob)(ds:List Dat):Glob:={g with boxes:=g.boxes++[.cells (ds.map .d)]}
def newBoxS(s:SSt)(ty:TypeId)(k:Nat)(cs:List SV)(sv:SV)(K:SFeet→SSt→Prop):Prop:=
 if s.esc.contains k then
  (match optAll (cs.map SV.dat) with
  |some l=>if isP0 (T.und ty) then
   K {wr:=true} {s.put (some k) (.v ty (.ptr (some (s.glob.boxes.length,0)))) with glob:=gnew s.glob (l.map (·.2))} else False
  |none=>False)
 else K {box:=some (k,true)} {s with regs:=s.regs.set k (.loc k (cnt s.bc k+1) 0),boxes:=s.boxes.set k (wholeOf T cs sv),bc:=s.bc.set k (cnt s.bc k+1)}
def sLoad(s:SSt)(dst:Option Nat)(u:TypeId)(p:SV)(K:SFeet→SSt→Prop):Prop:=
 match p with
 |.loc k c o=>if c==cnt s.bc k then(match s.boxes.get k with
  |some (.cells cs)=>(match loadS T u (cs.drop o) with
   |some sv=>K {box:=some (k,false)} (s.put dst sv)
   |none=>False)
  |some (.whole t x)=>(match partOf T t u x o with
   |some sv=>K {box:=some (k,false)} (s.put dst sv)
   |none=>False)
  |_=>False) else False
 |.imm t x o=>(match partOf T t u x o with
  |some sv=>if isF (T.und u) then(match sv with
   |.v u' y=>∃f c,y=.clo f c∧K {} (s.put dst (.v u' (.clo f c)))
   |_=>False) else K {} (s.put dst sv)
  |none=>False)
 |.v _ (.ptr (some (i,o)))=>exT T u λx=>GOk T u s.glob i o x∧K {rd:=some (.cell u i o)} (s.put dst (.v u x))
 |_=>False
def sStore(s:SSt)(dst:Option Nat)(u:TypeId)(p v:SV)(K:SFeet→SSt→Prop):Prop:=
 match p with
 |.loc k c o=>(match s.boxes.get k with
  |some sb=>(match sb.cs T,v.cells T with
   |some cs,some vs=>if c==cnt s.bc k&&T.size u==some vs.length&&Nat.ble (o+vs.length) cs.length then
    K {box:=some (k,true)} ({s with boxes:=s.boxes.set k (if o==0&&vs.length==cs.length then wholeOf T vs v else .cells (putAll cs o vs))}.put dst .junk) else False
   |_,_=>False)
  |none=>False)
 |.v _ (.ptr (some (i,o)))=>(match v with
   |.v t x=>(match lay T t with
    |some tys=>if t==u&&T.size u==some tys.length&&(ga s.esc||tys.all (λw=>!(isL (T.und w)))) then
     GPut s.glob i o tys.length∧K {wr:=true} ({s with glob:=gput s.glob i o x}.put dst .junk) else False
    |none=>False)
   |_=>False)
 |_=>False
def sFieldAddr(s:SSt)(dst:Option Nat)(st:TypeId)(p:SV)(f:Nat)(K:SFeet→SSt→Prop):Prop:=
 match fieldOf T st f with
 |none=>False
 |some fd=>match T.size fd.type with
  |none=>False
  |some n=>if n==0 then False else(match p with
   |.loc k c o=>K {} (s.put dst (.loc k c (o+fd.offset)))
   |.imm t x o=>K {} (s.put dst (.imm t x (o+fd.offset)))
   |.v t (.ptr (some (i,o)))=>K {} (s.put dst (.v t (.ptr (some (i,o+fd.offset)))))
   |_=>False)
def sField(s:SSt)(dst:Option Nat)(st:TypeId)(x:SV)(f:Nat)(K:SFeet→SSt→Prop):Prop:=
 match fieldOf T st f,x with
 |some fd,.v t d=>if t==st&&isAgg? (T.und t) then(match partOf T t fd.type d fd.offset with
  |some sv=>K {} (s.put dst sv)
  |none=>False) else False
 |_,_=>False
def sIndexAddr(s:SSt)(dst:Option Nat)(t:TypeId)(x:SV)(i:Option Int)(K:SFeet→SSt→Prop):Prop:=
 match x.els T,i,T.und t with
 |some (e,m,xs),some n,some (.slice e')=>if e'==e then InB n xs.length∧K {} (s.put dst (.imm e (getE xs n) 0)) else False
 |_,_,_=>False
def pickN(i:Int)(F:Nat→Prop):Nat→Prop
 |0=>False
 |n+1=>Br (i==(n:Int)) (F n) (pickN i F n)
def sIndex(s:SSt)(dst:Option Nat)(t ty:TypeId)(x:SV)(i:Option Int)(K:SFeet→SSt→Prop):Prop:=
 match T.und t,x,i,T.und ty with
 |some .string,.v _ (.str b),some n,some (.int .u8)=>InB n b.length∧K {} (s.put dst (.v ty (.int .u8 (byteAt b n))))
 |some (.array k e),.v u d,some n,_=>if u==t then(match T.size e with
  |some m=>pickN n (λj=>match partOf T u e d (j*m) with
   |some sv=>K {} (s.put dst sv)
   |none=>False) k
  |none=>False) else False
 |_,_,_,_=>False
def sSlice(s:SSt)(dst:Option Nat)(t ty:TypeId)(x:SV)(lo hi:Option (Option Int))(K:SFeet→SSt→Prop):Prop:=
 match T.und t with
 |some .string=>(match x,T.und ty with
  |.v _ (.str b),some .string=>(match lo,hi with
   |none,some (some h)=>InS 0 h b.length∧K {} (s.put dst (.v ty (.str (subStr b 0 h))))
   |some (some l),none=>InS l b.length b.length∧K {} (s.put dst (.v ty (.str (subStr b l b.length))))
   |some (some l),some (some h)=>InS l h b.length∧K {} (s.put dst (.v ty (.str (subStr b l h))))
   |_,_=>False)
  |_,_=>False)
 |some (.slice e)=>(match x.els T,x.dat with
  |some (e',m,xs),some (u,y)=>if e'==e&&u==ty&&ty==t then(match lo,hi with
   |none,some (some h)=>InS 0 h xs.length∧K {} (s.put dst (.v ty (slSub m y xs 0 h)))
   |some (some l),none=>InS l xs.length xs.length∧K {} (s.put dst (.v ty (slSub m y xs l xs.length)))
   |some (some l),some (some h)=>InS l h xs.length∧K {} (s.put dst (.v ty (slSub m y xs l h)))
   |_,_=>False) else False
  |_,_=>False)
 |_=>False
def sSlice0(s:SSt)(dst:Option Nat)(t ty:TypeId)(x:SV)(lo hi:Option (Option Int))(mx:Option Int)(K:SFeet→SSt→Prop):Prop:=
 match T.und t,x.els T,lo,hi,mx with
 |some (.slice e),some (e',_,_),none,some (some h),some c=>if e'==e&&h==0&&c==0&&isL (T.und ty) then K {} (s.put dst (.v ty .nil)) else False
 |_,_,_,_,_=>False
def sEq(fs:List Field)(a b:Dat):Option Bool:=
 match fs with
 |[]=>some true
 |f::fs=>if f.name= "_" then none else match T.und f.type,sEq fs a b with
  |some (.int _),some r=>some ((intOf (fld a f.offset)==intOf (fld b f.offset))&&r)
  |some .string,some r=>some ((strOf (fld a f.offset)==strOf (fld b f.offset))&&r)
  |some .bool,some r=>some ((boolOf (fld a f.offset)==boolOf (fld b f.offset))&&r)
  |_,_=>none
def eqlS:BinOp→Bool→Option Bool
 |.eql,e=>some e
 |.neq,e=>some !e
 |_,_=>none
def nilK:Operand→Bool
 |.const .nilIface|.const .nilFunc|.const (.pointer none)=>true
 |_=>false
def nilOf(D:Option TypeDesc):Operand→Bool
 |.const .nilIface=>isI D
 |.const .nilFunc=>isF D
 |.const (.pointer none)=>isP D
 |_=>false
def sNil(s:SSt)(dst:Option Nat)(op:BinOp)(t ty:TypeId)(a:SV)(yo:Operand)(K:SFeet→SSt→Prop):Prop:=
 if tyS T ty (.bool true)&&nilOf (T.und t) yo then
  (match a with
  |.v u x=>if u==t then(match eqlS op (nilD x) with|some e=>K {} (s.put dst (.v ty (.bool e)))|none=>False) else False
  |.loc _ _ _|.imm _ _ _=>if isP (T.und t) then(match eqlS op false with|some e=>K {} (s.put dst (.v ty (.bool e)))|none=>False) else False
  |_=>False)
 else False
def sBinI(s:SSt)(dst:Option Nat)(op:BinOp)(ty:TypeId)(k:IntKind)(m:Int)(k':IntKind)(n:Int)(K:SFeet→SSt→Prop):Prop:=
 if isShift op then(match shiftBin op k m n with|some x=>if tyS T ty x then K {} (s.put dst (.v ty x)) else False|none=>False)
 else if k==k' then
  (match op with
  |.quo=>NeZ n∧(if tyS T ty (.int k 0) then K {} (s.put dst (.v ty (.int k (k.wrap (m.tdiv n))))) else False)
  |.rem=>NeZ n∧(if tyS T ty (.int k 0) then K {} (s.put dst (.v ty (.int k (m.tmod n)))) else False)
  |_=>(match intBin op k m n with
   |some x=>if tyS T ty x then K {} (s.put dst (.v ty x)) else False
   |none=>False))
 else False
def sBinS(s:SSt)(dst:Option Nat)(op:BinOp)(ty:TypeId)(m n:List UInt8)(K:SFeet→SSt→Prop):Prop:=
 match op with
 |.add=>(m.length+n.length≤2^40)∧(if tyS T ty (.str []) then K {} (s.put dst (.v ty (.str (m++n)))) else False)
 |_=>(match strBin op m n with
  |some (.bool x)=>if tyS T ty (.bool true) then K {} (s.put dst (.v ty (.bool x))) else False
  |_=>False)
def sBin(s:SSt)(dst:Option Nat)(op:BinOp)(t ty:TypeId)(a b:SV)(K:SFeet→SSt→Prop):Prop:=
 match T.und t with
 |some (.int _)=>(match a,b with
  |.v _ (.int k m),.v _ (.int k' n)=>sBinI T s dst op ty k m k' n K
  |_,_=>False)
 |some .string=>(match a,b with
  |.v _ (.str m),.v _ (.str n)=>sBinS T s dst op ty m n K
  |_,_=>False)
 |some .bool=>(match a,b with
  |.v _ (.bool m),.v _ (.bool n)=>if tyS T ty (.bool true) then(match eqlS op (m==n) with
   |some x=>K {} (s.put dst (.v ty (.bool x)))
   |none=>False) else False
  |_,_=>False)
 |some (.struct fs)=>(match a,b,lay T t with
  |.v t1 m,.v t2 n,some tys=>if t1==t&&t2==t&&T.plain t&&tyS T ty (.bool true) then
   (if tys.all (λw=>!(isL (T.und w)))&&fs.toList.all (λf=>tys[f.offset]?==some f.type) then
    (match sEq T fs.toList m n with
    |some e=>(match eqlS op e with
     |some x=>K {} (s.put dst (.v ty (.bool x)))
     |none=>False)
    |none=>False) else False) else False
  |_,_,_=>False)
 |_=>False
def sUn(s:SSt)(dst:Option Nat)(op:UnOp)(ty:TypeId)(a:SV)(K:SFeet→SSt→Prop):Prop:=
 match op,a with
 |.not,.v _ (.bool b)=>if tyS T ty (.bool true) then K {} (s.put dst (.v ty (.bool !b))) else False
 |.neg,.v _ (.int k n)=>if tyS T ty (.int k 0) then K {} (s.put dst (.v ty (.int k (k.wrap (0-n))))) else False
 |_,_=>False
def sConvert(s:SSt)(dst:Option Nat)(src d:TypeId)(x:SV)(K:SFeet→SSt→Prop):Prop:=
 match T.und src,T.und d with
 |some (.int _),some (.int k)=>(match x with
  |.v _ (.int _ n)=>K {} (s.put dst (.v d (.int k (k.wrap n))))
  |_=>False)
 |some .string,some .string=>(match x with
  |.v _ (.str b)=>K {} (s.put dst (.v d (.str b)))
  |_=>False)
 |some .string,some (.slice e)=>(match x,T.und e,T.size e,T.bytes e with
  |.v _ (.str b),some (.int .u8),some 1,some 1=>K {} (s.put dst (.v d (.sl 1 (bytesUp b))))
  |_,_,_,_=>False)
 |some (.slice e),some .string=>(match x.els T,T.und e with
  |some (e',_,xs),some (.int .u8)=>if e'==e then K {} (s.put dst (.v d (.str (bytesD xs)))) else False
  |_,_=>False)
 |_,_=>False
def buildS(fs:Array Field):List SV→List (Nat×SV)→Option (List SV)
 |cs,[]=>some cs
 |cs,(i,v)::r=>
  match fs[i]?,v.cells T with
  |some fd,some vs=>if T.size fd.type==some vs.length&&Nat.ble (fd.offset+vs.length) cs.length then buildS fs (putAll cs fd.offset vs) r else none
  |_,_=>none
def sBuild(s:SSt)(dst:Option Nat)(t:TypeId)(parts:List (Nat×Operand))(K:SFeet→SSt→Prop):Prop:=
 match partsT T t,T.zero t,lay T t with
 |some fs,some z,some tys=>
  if tyB T t z&&fs.all (λfd=>(T.size fd.type).isSome) then
   (match cellsS T t z with
   |some zs=>(match buildS T fs zs (parts.map λp=>(p.1,s.ev T ((fs[p.1]?).map (·.type) |>.getD 0) p.2)) with
    |some cs=>(match optAll (cs.map SV.dat) with
     |some l=>if l.map (·.1)==tys then K {} (s.put dst (.v t (.agg (l.map (·.2))))) else False
     |none=>False)
    |none=>False)
   |none=>False)
  else False
 |_,_,_=>False
def sNewOwn(s:SSt)(k:Nat)(t:TypeId)(m:Nat)(xs:List Dat)(K:SFeet→SSt→Prop):Prop:=
 K {toks:=[k]} {s with regs:=s.regs.set k (.own k (cnt s.tc k+1) t m xs),tc:=s.tc.set k (cnt s.tc k+1)}
def partsS(e:TypeId)(len m:Nat):List (Nat×SV)→Option (List (Nat×Dat))
 |[]=>some []
 |(i,sv)::r=>match sv.dat,partsS e len m r with
  |some (u,x),some l=>if u==e&&Nat.blt i len then some ((i,x)::l) else none
  |_,_=>none
def sBuildSlice(s:SSt)(dst:Option Nat)(t:TypeId)(len:Nat)(parts:List (Nat×Operand))(K:SFeet→SSt→Prop):Prop:=
 match dst,T.und t with
 |some k,some (.slice e)=>(match T.size e,T.zero e,lay T e with
  |some m,some z,some tys=>if Nat.blt 0 m&&Nat.ble (len*m) (2^24)&&fitB T e len&&z.cells.length==m&&tys.length==m&&tyB T e z then
   (match partsS e len m (parts.map λp=>(p.1,s.ev T e p.2)) with
   |some ps=>if ga s.esc then K {wr:=true} {s.put dst (.v t (.gsl s.glob.toks.length m (ps.foldl (λl p=>l.set p.1 p.2) (List.replicate len z)))) with glob:=gtok s.glob m len}
    else sNewOwn s k t m (ps.foldl (λl p=>l.set p.1 p.2) (List.replicate len z)) K
   |none=>False) else False
  |_,_,_=>False)
 |_,_=>False
def sMakeSlice(s:SSt)(dst:Option Nat)(t:TypeId)(len cap:Option Int)(K:SFeet→SSt→Prop):Prop:=
 match dst,T.und t,len,cap with
 |some k,some (.slice e),some n,some c=>(match T.size e,T.zero e,T.bytes e with
  |some m,some z,some by'=>if Nat.blt 0 m&&z.cells.length==m&&tyB T e z then
   0≤n∧n≤c∧Fits c.toNat by'∧sNewOwn s k t m (List.replicate n.toNat z) K else False
  |_,_,_=>False)
 |_,_,_,_=>False
def bump(tc:Mp Nat):List (Nat×Nat)→Mp Nat
 |[]=>tc
 |p::ks=>bump (tc.set p.1 (cnt tc p.1+1)) ks
def bumped(tc:Mp Nat)(ks:List (Nat×Nat)):List (Nat×Nat):=ks.map λp=>(p.1,cnt tc p.1)
def curAll(tc:Mp Nat)(ks:List (Nat×Nat)):Bool:=ks.all λp=>p.2==cnt tc p.1
def addKey(k:Nat)(ks:List (Nat×Nat)):List (Nat×Nat):=if ks.any (λp=>p.1==k) then ks else(k,0)::ks
def emOk(e:TypeId)(m:Nat):Option (TypeId×Nat)→Bool
 |some (e',_)=>e'==e
 |none=>m==1&&isU8 (T.und e)
def slEm(x:SV):Option (Option (TypeId×Nat)×List Dat):=
 match x.els T with
 |some (e,m,xs)=>some (some (e,m),xs)
 |none=>none
def srcS(tx:TypeId)(x:SV):Option (Option (TypeId×Nat)×List Dat):=
 if isS (T.und tx) then(match x with
  |.v _ (.str b)=>some (none,bytesUp b)
  |_=>none)
 else if isL (T.und tx) then slEm T x else none
def sAppend(s:SSt)(dst:Option Nat)(t tx:TypeId)(a x:SV)(K:SFeet→SSt→Prop):Prop:=
 match dst,T.und t,srcS T tx x with
 |some d,some (.slice e),some (em,ys)=>(match T.size e,T.bytes e,T.zero e with
  |some m,some by',some z=>
   if Nat.blt 0 m&&z.cells.length==m&&emOk T e m em then
    if ga s.esc then(match a with
     |.v u x=>if u==t&&isSl T t m then Fits ((elsOf x).length+ys.length) by'∧∃r g',gapp m x ys s.glob=some (r,g')∧K {wr:=true} {s.put dst (.v t r) with glob:=g'} else False
     |_=>False) else
    (match a with
    |.v u .nil=>if u==t&&isSl T t m then Fits ys.length by'∧
     K {toks:=[d]} ((s.put dst (.acc [(d,cnt s.tc d+1)] t m ys)).setTc (s.tc.set d (cnt s.tc d+1))) else False
    |.own k c u m' xs=>if u==t&&m'==m&&c==cnt s.tc k then
     Fits (xs.length+ys.length) by'∧K {toks:=[k]} ((s.put dst (.own k (cnt s.tc k+1) t m (xs++ys))).setTc (s.tc.set k (cnt s.tc k+1))) else False
    |.acc ks u m' xs=>if u==t&&m'==m&&curAll s.tc ks then
     Fits (xs.length+ys.length) by'∧
     K {toks:=(addKey d ks).map (·.1)} ((s.put dst (.acc (bumped (bump s.tc (addKey d ks)) (addKey d ks)) t m (xs++ys))).setTc (bump s.tc (addKey d ks))) else False
    |_=>False)
   else False
  |_,_,_=>False)
 |_,_,_=>False
def sLen(s:SSt)(dst:Option Nat)(t ty:TypeId)(x:SV)(K:SFeet→SSt→Prop):Prop:=
 if tyS T ty (.int .i64 0) then
  (match T.und t with
  |some .string=>(match x with|.v _ (.str b)=>K {} (s.put dst (.v ty (.int .i64 b.length)))|_=>False)
  |some (.slice _)=>(match x.els T with|some (_,_,xs)=>K {} (s.put dst (.v ty (.int .i64 xs.length)))|none=>False)
  |some (.map _ _)=>(match x with
   |.v _ (.map none)=>K {} (s.put dst (.v ty (.int .i64 0)))
   |.v _ (.map (some i))=>∃n:Nat,gmlen s.glob i=some n∧K {rd:=some (.size i)} (s.put dst (.v ty (.int .i64 n)))
   |_=>False)
  |_=>False)
 else False
def maxS(gt:Bool)(a b:Int):Int:=if gt then(if b>a then b else a) else(if b<a then b else a)
def sMax(s:SSt)(gt:Bool)(dst:Option Nat)(ty:TypeId)(l:List (Option Int))(K:SFeet→SSt→Prop):Prop:=
 match l with
 |[some a,some b]=>if tyS T ty (.int .i64 0) then K {} (s.put dst (.v ty (.int .i64 (maxS gt a b)))) else False
 |_=>False
def sNilCheck(s:SSt)(dst:Option Nat)(x:SV)(K:SFeet→SSt→Prop):Prop:=
 match x with
 |.loc k c o=>K {} (s.put dst (.loc k c o))
 |.imm t y o=>K {} (s.put dst (.imm t y o))
 |.v t y=>if isI (T.und t) then ∃u z,y=.iface u z∧K {} (s.put dst (.v t (.iface u z))) else(match y with
  |.ptr (some a)=>K {} (s.put dst (.v t (.ptr (some a))))
  |.clo f c=>K {} (s.put dst (.v t (.clo f c)))
  |.bnd f c=>K {} (s.put dst (.v t (.bnd f c)))
  |_=>False)
 |_=>False
def sIface(s:SSt)(dst:Option Nat)(t ty:TypeId)(x:SV)(K:SFeet→SSt→Prop):Prop:=
 match T.und t,x.dat with
 |some (.interface _),_=>False
 |some _,some (u,y)=>if u==t&&isI (T.und ty) then K {} (s.put dst (.v ty (.iface t y))) else False
 |_,_=>False
def sFunc(s:SSt)(dst:Option Nat)(ty:TypeId)(fn:Fn)(first:List SV)(cap:List SV)(K:SFeet→SSt→Prop):Prop:=
 match fn,first,optAll (cap.map SV.dat) with
 |.func f,[],some l=>if isF (T.und ty) then K {} (s.put dst (.v ty (.clo f (l.map (·.2))))) else False
 |.func f,[r],some []=>(match r.dat with|some (_,d)=>if isF (T.und ty) then K {} (s.put dst (.v ty (.bnd f d))) else False|none=>False)
 |_,_,_=>False
def sExtract(s:SSt)(dst:Option Nat)(ty:TypeId)(x:SV)(i:Nat)(K:SFeet→SSt→Prop):Prop:=
 match x with
 |.tup l=>(match l[i]? with|some (t,d)=>K {} (s.put dst (.v (if t==ty then t else if tyS T ty d then ty else t) d))|none=>False)
 |_=>False
def sRange(s:SSt)(dst:Option Nat)(t:TypeId)(x:SV)(K:SFeet→SSt→Prop):Prop:=
 match dst,T.und t,x with
 |some k,some .string,.v _ (.str b)=>K {box:=some (k,true)} {s with regs:=s.regs.set k (.loc k (cnt s.bc k+1) 0),boxes:=s.boxes.set k (.iter b 0),bc:=s.bc.set k (cnt s.bc k+1)}
 |_,_,_=>False
def runeAt(s:List UInt8)(pos:Nat):Int:=((Utf8.decode ⟨s.toArray⟩ pos).1:Int)
def runeLen(s:List UInt8)(pos:Nat):Nat:=(Utf8.decode ⟨s.toArray⟩ pos).2
def tupTys(ty:TypeId):List TypeId:=
 match T.und ty with
 |some (.tuple ts)=>ts.toList
 |_=>[]
def sNext(s:SSt)(dst:Option Nat)(ty:TypeId)(it:SV)(K:SFeet→SSt→Prop):Prop:=
 match it with
 |.loc k c 0=>(match s.boxes.get k with
  |some (.iter b pos)=>if c==cnt s.bc k&&z0 (T.und ty) then
   Br (decide (pos<b.length))
    (K {box:=some (k,true)} ({s with boxes:=s.boxes.set k (.iter b (pos+runeLen b pos))}.put dst (.tup [(ty,.bool true),(ty,.int .i64 pos),(ty,.int .i32 (runeAt b pos))])))
    (K {box:=some (k,true)} ({s with boxes:=s.boxes.set k (.iter b pos)}.put dst (.tup [(ty,.bool false)]))) else False
  |_=>False)
 |_=>False
def sAssert(s:SSt)(dst:Option Nat)(x:SV)(u:TypeId)(ok:Bool)(ty:TypeId)(K:SFeet→SSt→Prop):Prop:=
 match x with
 |.v _ (.iface t y)=>if t==u&&!(isI (T.und u))&&(T.und u).isSome then
  (if ok then(match tupTys T ty with
   |[a,b]=>if a==u&&tyS T b (.bool true) then K {} (s.put dst (.tup [(a,y),(b,.bool true)])) else False
   |_=>if z0 (T.und ty) then K {} (s.put dst (.tup [(u,y),(ty,.bool true)])) else False)
   else K {} (s.put dst (.v u y))) else False
 |_=>False
def pairTy(ty a:TypeId)(y:Dat):Option (TypeId×TypeId):=
 match tupTys T ty with
 |[a',b]=>if a'==a&&tyS T b y then some (a,b) else none
 |_=>if z0 (T.und ty)&&tyS T ty y then some (a,ty) else none
def sLookup(s:SSt)(dst:Option Nat)(t ty:TypeId)(m k:SV)(ok:Bool)(K:SFeet→SSt→Prop):Prop:=
 match mapTy T t,m,k with
 |some (kt,e),.v _ (.map r),.v _ k=>(match T.zero e with
  |some z=>if keyOk T kt k then
   exT T e λx=>∃b:Bool,MLook s.glob r z k x b∧
    (if ok then(match pairTy T ty e (.bool true) with
     |some (a,b')=>K {rd:=r.map λi=>.map i z k ok} (s.put dst (.tup [(a,x),(b',.bool b)]))
     |none=>False)
    else K {rd:=r.map λi=>.map i z k ok} (s.put dst (.v e x)))
   else False
  |none=>False)
 |_,_,_=>False
def sMapUpdate(s:SSt)(dst:Option Nat)(t:TypeId)(m k v:SV)(K:SFeet→SSt→Prop):Prop:=
 match mapTy T t,m,k,v.dat with
 |some (kt,_),.v _ (.map (some i)),.v _ k,some (_,x)=>if keyOk T kt k then
  ∃g',gmput s.glob i k x=some g'∧K {wr:=true} {s.put dst .junk with glob:=g'} else False
 |_,_,_,_=>False
def sMapEntry(s:SSt)(dst:Option Nat)(t ty:TypeId)(m k:SV)(K:SFeet→SSt→Prop):Prop:=
 match mapTy T t,m,k with
 |some (kt,e),.v _ (.map (some i)),.v _ k=>(match T.zero e,pairTy T ty e (.int .i64 0) with
  |some z,some (a,b)=>if keyOk T kt k then
   exT T e λx=>∃(n:Nat) (g':Glob),gentry s.glob i z k=some (x,n,g')∧K {wr:=true} {s.put dst (.tup [(a,x),(b,.int .i64 n)]) with glob:=g'}
   else False
  |_,_=>False)
 |_,_,_=>False
def sEntryStore(s:SSt)(dst:Option Nat)(m k v:SV)(K:SFeet→SSt→Prop):Prop:=
 match m,k,v.dat with
 |.v _ (.map (some i)),.v _ (.int _ n),some (_,x)=>∃g',gestore s.glob i n x=some g'∧K {wr:=true} {s.put dst .junk with glob:=g'}
 |_,_,_=>False
def sDelete(s:SSt)(dst:Option Nat)(t:TypeId)(m k:SV)(K:SFeet→SSt→Prop):Prop:=
 match mapTy T t,m,k with
 |some (kt,_),.v _ (.map (some i)),.v _ k=>if keyOk T kt k then
  ∃g',gmdel s.glob i k=some g'∧K {wr:=true} {s.put dst .off with glob:=g'} else False
 |_,_,_=>False
def mkMapOk(t:TypeId):Option (Option Int)→Bool
 |none=>true
 |some n=>n.isSome&&(mapTy T t).isSome
def sMakeMap(s:SSt)(dst:Option Nat)(t ty:TypeId)(r:Option (Option Int))(K:SFeet→SSt→Prop):Prop:=
 match dst with
 |some k=>if s.esc.contains k&&isM (T.und ty)&&mkMapOk T t r then
  K {wr:=true} {s.put (some k) (.v ty (.map (some s.glob.boxes.length))) with glob:=gmnew s.glob} else False
 |none=>False
def sxOp(o:Oper)(s:SSt)(K:SFeet→SSt→Prop):Prop:=
 match o.op with
 |.move x|.assign x=>K {} (s.put o.dst (s.ev T o.type x))
 |.pick c a b=>(match s.bool c with
  |some cb=>Br cb (K {} (s.put o.dst (s.ev T o.type a))) (K {} (s.put o.dst (s.ev T o.type b)))
  |none=>False)
 |.alloc t=>(match T.zero t,o.dst with
  |some z,some k=>if tyB T t z then(match cellsS T t z with|some cs=>newBoxS T s o.type k cs (.v t z) K|none=>False) else False
  |_,_=>False)
 |.box t x=>(match (s.ev T t x).cells T,o.dst with
  |some cs,some k=>newBoxS T s o.type k cs (s.ev T t x) K
  |_,_=>False)
 |.build t ps=>sBuild T s o.dst t ps.toList K
 |.buildSlice t n ps=>sBuildSlice T s o.dst t n ps.toList K
 |.load t a=>sLoad T s o.dst t (s.ev T 0 a) K
 |.store t a x=>sStore T s o.dst t (s.ev T 0 a) (s.ev T t x) K
 |.nilCheck x=>sNilCheck T s o.dst (s.ev T o.type x) K
 |.binOp op t x y u=>if nilK y then sNil T s o.dst op t o.type (s.ev T t x) y K else sBin T s o.dst op t o.type (s.ev T t x) (s.ev T u y) K
 |.unOp op t x=>sUn T s o.dst op o.type (s.ev T t x) K
 |.convert a b x=>sConvert T s o.dst a b (s.ev T a x) K
 |.makeInterface t x=>sIface T s o.dst t o.type (s.ev T t x) K
 |.makeFunc fn first cap=>sFunc T s o.dst o.type fn (first.toList.map (s.ev T 0)) (cap.toList.map (s.ev T 0)) K
 |.makeSlice t l c=>sMakeSlice T s o.dst t (s.int l) (s.int c) K
 |.slice t x lo hi none=>sSlice T s o.dst t o.type (s.ev T t x) (lo.map s.int) (hi.map s.int) K
 |.slice t x lo hi (some mx)=>sSlice0 T s o.dst t o.type (s.ev T t x) (lo.map s.int) (hi.map s.int) (s.int mx) K
 |.fieldAddr t x f=>sFieldAddr T s o.dst t (s.ev T 0 x) f K
 |.field t x f=>sField T s o.dst t (s.ev T t x) f K
 |.indexAddr t x i=>sIndexAddr T s o.dst t (s.ev T t x) (s.int i) K
 |.index t x i=>sIndex T s o.dst t o.type (s.ev T t x) (s.int i) K
 |.lookup t x i ok=>sLookup T s o.dst t o.type (s.ev T t x) (s.ev T ((mapTy T t).map (·.1) |>.getD 0) i) ok K
 |.mapUpdate t m k x|.insert t m k x=>sMapUpdate T s o.dst t (s.ev T t m) (s.ev T ((mapTy T t).map (·.1) |>.getD 0) k) (s.ev T ((mapTy T t).map (·.2) |>.getD 0) x) K
 |.mapEntry t m k=>sMapEntry T s o.dst t o.type (s.ev T t m) (s.ev T ((mapTy T t).map (·.1) |>.getD 0) k) K
 |.entryStore t m k x=>sEntryStore s o.dst (s.ev T t m) (s.ev T 0 k) (s.ev T ((mapTy T t).map (·.2) |>.getD 0) x) K
 |.makeMap t r=>sMakeMap T s o.dst t o.type (r.map s.int) K
 |.range t x=>sRange T s o.dst t (s.ev T t x) K
 |.next it true=>sNext T s o.dst o.type (s.ev T 0 it) K
 |.typeAssert x _ t ok=>sAssert T s o.dst (s.ev T 0 x) t ok o.type K
 |.extract x i=>sExtract T s o.dst o.type (s.ev T 0 x) i K
 |.call ⟨.builtin b,args,ts⟩=>(match b,ts.toList,args.toList with
  |.len,t::_,[x]=>sLen T s o.dst t o.type (s.ev T t x) K
  |.delete,t::_,[m,k]=>sDelete T s o.dst t (s.ev T t m) (s.ev T ((mapTy T t).map (·.1) |>.getD 0) k) K
  |.append,[t,tx],[a,x]=>sAppend T s o.dst t tx (s.ev T t a) (s.ev T tx x) K
  |.max,_,[a,b]=>sMax T s true o.dst o.type [s.int64 a,s.int64 b] K
  |.min,_,[a,b]=>sMax T s false o.dst o.type [s.int64 a,s.int64 b] K
  |_,_,_=>False)
 |_=>False
end Go.Proofs.YtgmapdcdmomioaaGreatDoor.Am
namespace Go.Proofs.YtgmapdcdmomioaaGreatDoor.Am
open Go
variable{T:Tb}{t u:TypeId}{x d:Dat}{v:Val}
theorem isI0_of{k:IntKind}(h:T.und t=some (.int k)):isI0 k (T.und t)=true:=by rw[h];simp[isI0]
theorem isB0_of(h:T.und t=some .bool):isB0 (T.und t)=true:=by rw[h];rfl
theorem HasTy.int_inv{k:IntKind}(h:HasTy T t x)(hu:T.und t=some (.int k)):x=.int k (intOf x):=by
 cases h<;>simp_all[isB0,isP0,isI0,z0,isB,isP,isL,isM,isF,isI,isAgg?,intOf]
theorem HasTy.bool_inv(h:HasTy T t x)(hu:T.und t=some .bool):x=.bool (boolOf x):=by
 cases h<;>simp_all[isB0,isP0,isI0,z0,isB,isP,isL,isM,isF,isI,isAgg?,boolOf]
theorem HasTy.str_inv(h:HasTy T t x)(hu:T.und t=some .string):x=.str (strOf x)∧(strOf x).length≤2^40:=by
 cases h<;>simp_all[isB0,isP0,isI0,z0,isB,isP,isL,isM,isF,isI,isAgg?,strOf]
theorem HasTy.agg_inv(h:HasTy T t x)(hu:isAgg? (T.und t)=true):∃tys cs,x=.agg cs∧lay T t=some tys∧tys.length=cs.length∧(∀c∈cs,c.one=true)∧∀(i:Nat) u c,tys[i]?=some u→cs[i]?=some c→HasTy T u c:=by
 cases h with
 |agg _ tys cs h hl hn h1 hx=>exact⟨tys,cs,rfl,hl,hn,h1,hx⟩
 |_=>(generalize T.und t=D at*;cases D with
  |none=>simp_all[isB0,isP0,isI0,z0,isB,isP,isL,isM,isF,isI,isAgg?]
  |some D=>cases D<;>simp_all[isB0,isP0,isI0,z0,isB,isP,isL,isM,isF,isI,isAgg?])
theorem HasTy.one_inv(h:HasTy T t x)(hu:isAgg? (T.und t)=false):x.one=true:=by
 cases h with
 |agg _ tys cs h hl hn h1 hx=>rw[h] at hu;cases hu
 |_=>rfl
theorem SlFit.le{e:TypeId}{n m:Nat}(h:SlFit T e n)(hm:m≤n):SlFit T e m:=⟨Nat.le_trans hm h.1,λb hb=>Nat.le_trans (Nat.mul_le_mul_right _ hm) (h.2 b hb)⟩
theorem SlFit.fits{e:TypeId}{n b:Nat}(h:SlFit T e n)(hb:T.bytes e=some b):Fits n b:=⟨h.1,h.2 b hb⟩
theorem SlFit.of{e:TypeId}{n b:Nat}(hb:T.bytes e=some b)(h:Fits n b):SlFit T e n:=⟨h.1,λb' hb'=>by rw[hb] at hb';cases hb';exact h.2⟩
theorem fitB_fit{e:TypeId}{n:Nat}(h:fitB T e n=true)(hn:n≤2^40):SlFit T e n:=by
 refine⟨hn,λb hb=>?_⟩
 unfold fitB at h
 rw[hb] at h
 exact Nat.le_of_ble_eq_true h
theorem HasTy.sl_inv{e:TypeId}(h:HasTy T t x)(hu:T.und t=some (.slice e)):x=.nil∨∃m xs,(x=.sl m xs∨∃k,x=.gsl k m xs)∧T.size e=some m∧SlFit T e xs.length∧∀y∈xs,HasTy T e y:=by
 cases h with
 |nil=>exact .inl rfl
 |sl _ e' m xs h hm hl hx=>
  rw[h] at hu
  cases hu
  exact .inr ⟨m,xs,.inl rfl,hm,hl,hx⟩
 |gsl _ e' k m xs h hm hl hx=>
  rw[h] at hu
  cases hu
  exact .inr ⟨m,xs,.inr ⟨k,rfl⟩,hm,hl,hx⟩
 |_=>simp_all[isB0,isP0,isI0,z0,isB,isP,isL,isM,isF,isI,isAgg?]
theorem HasTy.els{e:TypeId}(h:HasTy T t x)(hu:T.und t=some (.slice e)):SlFit T e (elsOf x).length∧∀y∈elsOf x,HasTy T e y:=by
 rcases h.sl_inv hu with rfl|⟨m,xs,rfl|⟨k,rfl⟩,hm,hl,hx⟩
 ·exact⟨⟨Nat.zero_le _,λb _=>by simp[elsOf]⟩,λy h=>by cases h⟩
 ·exact⟨hl,hx⟩
 ·exact⟨hl,hx⟩
theorem ex_eq(h:HasTy T t x):ex T t x=x:=by
 unfold ex
 split
 ·rename_i k hu;exact(h.int_inv hu).symm
 ·rename_i hu;exact(h.bool_inv hu).symm
 ·rename_i hu;exact(h.str_inv hu).1.symm
 ·rfl
theorem lay_one{D:TypeDesc}(hd:T.und t=some D)(hu:isAgg? (T.und t)=false):lay T t=some [t]:=by
 unfold lay layout
 rw[hd] at hu⊢
 cases D<;>simp_all[isAgg?]
theorem tyS_ty(h:tyS T t x=true):HasTy T t x∧x.one=true:=by
 cases x with
 |bool b=>exact⟨.bool _ _ h,rfl⟩
 |int k n=>exact⟨.int _ _ _ h,rfl⟩
 |str s=>
  simp only[tyS] at h
  split at h
  ·rename_i hu;exact⟨.str _ _ hu (Nat.le_of_ble_eq_true h),rfl⟩
  ·cases h
 |ptr a=>exact⟨.ptr _ _ h,rfl⟩
 |nil=>exact⟨.nil _ h,rfl⟩
 |map r=>exact⟨.map _ _ h,rfl⟩
 |clo f c=>exact⟨.clo _ _ _ h,rfl⟩
 |nilFn=>exact⟨.nilFn _ h,rfl⟩
 |nilIface=>exact⟨.nilIface _ h,rfl⟩
 |_=>cases h
theorem tySs_ty:∀{tys:List TypeId} {cs:List Dat},tySs T tys cs=true→tys.length=cs.length∧(∀c∈cs,c.one=true)∧∀(i:Nat) u c,tys[i]?=some u→cs[i]?=some c→HasTy T u c
 |[],[],_=>⟨rfl,(λc h=>by cases h),(λi u c h=>by simp at h)⟩
 |[],_::_,h=>by simp[tySs] at h
 |_::_,[],h=>by simp[tySs] at h
 |t::ts,c::cs,h=>by
  simp only[tySs,Bool.and_eq_true] at h
  obtain⟨h1,h2,h3⟩:=tySs_ty h.2
  obtain⟨k1,k2⟩:=tyS_ty h.1
  refine⟨by simp[h1],λd hd=>?_,λi u d hu hd=>?_⟩
  ·rcases List.mem_cons.1 hd with rfl|hd
   ·exact k2
   ·exact h2 d hd
  ·cases i with
   |zero=>simp at hu hd;subst hu hd;exact k1
   |succ i=>exact h3 i u d (by simpa using hu) (by simpa using hd)
theorem tyB_ty(h:tyB T t x=true):HasTy T t x:=by
 cases x with
 |agg cs=>
  simp only[tyB,Bool.and_eq_true] at h
  obtain⟨h1,h2⟩:=h
  split at h2
  ·rename_i tys hl
   obtain⟨k1,k2,k3⟩:=tySs_ty h2
   exact .agg _ tys cs h1 hl k1 k2 k3
  ·cases h2
 |_=>exact(tyS_ty (T:=T) (t:=t) (by simpa[tyB] using h)).1
theorem nth_get{l:List Dat}:∀{n:Nat} {c:Dat},l[n]?=some c→nth l n=c:=by
 induction l with
 |nil=>intro n c h;simp at h
 |cons y l ih=>
  intro n c h
  cases n with
  |zero=>simpa[nth] using h
  |succ n=>exact ih (by simpa using h)
theorem dat_toD(h:v.dat?=some x):v.toD=some x:=by
 cases v with
 |d y=>
  simp only[Val.dat?] at h
  split at h
  ·exact h
  ·cases h
 |agg cs=>cases h
 |_=>exact h
theorem toD_one{y:Dat}(h:v.toD=some x)(h1:x.one=true):v.dat?=some x:=by
 cases v with
 |d y=>simp only[Val.toD] at h;cases h;simp[Val.dat?,h1]
 |agg cs=>
  simp only[Val.toD] at h
  cases ho:optAll (cs.map Val.dat?) with
  |none=>rw[ho] at h;cases h
  |some r=>rw[ho] at h;cases h;cases h1
 |_=>exact h
theorem one_toD(h:v.one=true)(hx:v.toD=some x):v.dat?=some x:=by
 cases v with
 |d y=>simp only[Val.toD] at hx;cases hx;simp[Val.dat?];exact h
 |agg cs=>cases h
 |_=>exact hx
theorem toD_agg{cs:List Dat}(h:v.toD=some (.agg cs)):v=.d (.agg cs)∨∃vs,v=.agg vs∧optAll (vs.map Val.dat?)=some cs:=by
 cases v with
 |d y=>simp only[Val.toD] at h;cases h;exact .inl rfl
 |agg vs=>
  simp only[Val.toD] at h
  cases ho:optAll (vs.map Val.dat?) with
  |none=>rw[ho] at h;cases h
  |some r=>rw[ho] at h;cases h;exact .inr ⟨vs,rfl,ho⟩
 |own k g m xs=>simp only[Val.toD,Val.dat?] at h;cases h
 |gown g m xs=>simp only[Val.toD,Val.dat?] at h;cases h
 |_=>simp only[Val.toD,Val.dat?] at h;cases h
def plainD:Dat→Bool
 |.agg _|.sl _ _=>false
 |_=>true
theorem toD_plain(h:v.toD=some x)(hp:plainD x=true):v=.d x:=by
 cases v with
 |d y=>simp only[Val.toD] at h;cases h;rfl
 |agg vs=>
  simp only[Val.toD] at h
  cases ho:optAll (vs.map Val.dat?) with
  |none=>rw[ho] at h;cases h
  |some r=>rw[ho] at h;cases h;cases hp
 |own k g m xs=>simp only[Val.toD,Val.dat?] at h;cases h;cases hp
 |gown g m xs=>simp only[Val.toD,Val.dat?] at h;cases h;cases hp
 |_=>simp only[Val.toD,Val.dat?] at h;cases h
theorem toD_sl{m:Nat}{xs:List Dat}(h:v.toD=some (.sl m xs)):v.elems=some (m,xs):=by
 cases v with
 |d y=>simp only[Val.toD] at h;cases h;rfl
 |agg vs=>
  simp only[Val.toD] at h
  cases ho:optAll (vs.map Val.dat?) with
  |none=>rw[ho] at h;cases h
  |some r=>rw[ho] at h;cases h
 |own k g m xs=>simp only[Val.toD,Val.dat?] at h;cases h;rfl
 |gown g m xs=>simp only[Val.toD,Val.dat?] at h;cases h;rfl
 |_=>simp only[Val.toD,Val.dat?] at h;cases h
theorem optAll_get?{α β:Type}{f:α→Option β}:∀{l:List α} {r:List β},optAll (l.map f)=some r→l.length=r.length∧∀(i:Nat) a b,l[i]?=some a→r[i]?=some b→f a=some b
 |[],r,h=>by cases h;exact⟨rfl,λi a b h=>by simp at h⟩
 |a::l,r,h=>by
  simp only[List.map_cons] at h
  cases hf:f a with
  |none=>rw[hf] at h;cases h
  |some b=>
   rw[hf] at h
   simp only[optAll] at h
   split at h
   ·rename_i r' hr
    cases h
    obtain⟨h1,h2⟩:=optAll_get? hr
    refine⟨by simp[h1],λi a' b' ha hb=>?_⟩
    cases i with
    |zero=>simp at ha hb;subst ha hb;exact hf
    |succ i=>exact h2 i a' b' (by simpa using ha) (by simpa using hb)
   ·cases h
theorem optAll_mk{α β:Type}{f:α→Option β}:∀{l:List α} {r:List β},l.length=r.length→(∀(i:Nat) a b,l[i]?=some a→r[i]?=some b→f a=some b)→optAll (l.map f)=some r
 |[],[],_,_=>rfl
 |[],_::_,h,_=>by cases h
 |_::_,[],h,_=>by cases h
 |a::l,b::r,h,hf=>by
  simp only[List.map_cons,hf 0 a b rfl rfl,optAll]
  rw[optAll_mk (l:=l) (r:=r) (by simpa using h) (λi x y hx hy=>hf (i+1) x y (by simpa using hx) (by simpa using hy))]
theorem cellsFrom_get{tys:List TypeId}:∀{i j:Nat},(cellsFrom T tys i x)[j]?=(tys[j]?).map λu=>.v u (ex T u (fld x (i+j))):=by
 induction tys with
 |nil=>intro i j;rfl
 |cons t tys ih=>
  intro i j
  cases j with
  |zero=>rfl
  |succ j=>
   simp only[cellsFrom,List.getElem?_cons_succ]
   rw[ih]
   simp only[Nat.add_assoc,Nat.add_comm 1 j]
theorem cellsFrom_len{tys:List TypeId}:∀{i:Nat},(cellsFrom T tys i x).length=tys.length:=by
 induction tys with
 |nil=>intro i;rfl
 |cons t tys ih=>intro i;simp[cellsFrom,ih]
variable{bc tc:Mp Nat}{B:Mp (Nat×Box)}{K:Mp (Nat×Option (Nat×Nat))}
theorem concV_d(hx:HasTy T t x):ConcV T bc tc B K (.v t x) (.d x):=⟨rfl,rfl,hx⟩
theorem one_nrm(h:v.one=true):nrm v=true:=by cases v<;>first|rfl|cases h
theorem concV_cells{cs:List SV}(h:ConcV T bc tc B K (.v t x) v)(hc:cellsS T t x=some cs):
 Els (λs v=>v.one=true∧ConcV T bc tc B K s v) cs v.cells:=by
 obtain⟨hv,hnr,ht⟩:=h
 unfold cellsS at hc
 cases ha:isAgg? (T.und t) with
 |false=>
  rw[ha] at hc
  cases hc
  have h1:=ht.one_inv ha
  have hd:=toD_one (y:=x) hv h1
  have ho:=dat?_one hd
  have:v.cells=[v]:=by
   cases v with
   |d y=>
    cases y with
    |agg cs=>cases ho.1
    |_=>rfl
   |agg vs=>cases ho.1
   |_=>rfl
  rw[this]
  exact Els.cons ⟨ho.1,hv,hnr,ht⟩ ⟨rfl,λj a b h=>by simp at h⟩
 |true=>
  rw[ha] at hc
  simp only[if_true] at hc
  obtain⟨tys,ds,rfl,hl,hn,h1,hx⟩:=ht.agg_inv ha
  rw[hl] at hc
  cases hc
  have key:∀(j:Nat) s w c,(cellsFrom T tys 0 (.agg ds))[j]?=some s→ds[j]?=some c→w.dat?=some c→w.one=true∧ConcV T bc tc B K s w:=λj s w c hs hd hw=>by
   rw[cellsFrom_get] at hs
   cases htj:tys[j]? with
   |none=>rw[htj] at hs;cases hs
   |some u=>
    rw[htj] at hs
    cases hs
    have hf:fld (.agg ds) (0+j)=c:=by
     simp only[fld,Nat.zero_add]
     exact nth_get hd
    show w.one=true∧ConcV T bc tc B K (.v u (ex T u (fld (.agg ds) (0+j)))) w
    rw[hf,ex_eq (hx j u c htj hd)]
    exact⟨(dat?_one hw).1,dat_toD hw,one_nrm (dat?_one hw).1,hx j u c htj hd⟩
  rcases toD_agg hv with rfl|⟨vs,rfl,ho⟩
  ·refine⟨by simp[Val.cells,cellsFrom_len,hn],λj s w hs hw=>?_⟩
   simp only[Val.cells,List.getElem?_map] at hw
   cases hd:ds[j]? with
   |none=>rw[hd] at hw;cases hw
   |some c=>
    rw[hd] at hw
    cases hw
    exact key j s _ c hs hd (by simp[Val.dat?,h1 c (List.mem_of_getElem? hd)])
  ·obtain⟨o1,o2⟩:=optAll_get? ho
   refine⟨by simp[Val.cells,cellsFrom_len,hn,o1],λj s w hs hw=>?_⟩
   have hw:vs[j]?=some w:=hw
   have hlt:j<ds.length:=by rw[←o1];exact(List.getElem?_eq_some_iff.1 hw).1
   exact key j s w _ hs (List.getElem?_eq_getElem hlt) (o2 j w _ hw (List.getElem?_eq_getElem hlt))
theorem concV_dat{sv:SV}(h:ConcV T bc tc B K sv v)(hd:sv.dat=some (t,x)):v.toD=some x∧HasTy T t x:=by
 cases sv with
 |v u y=>cases hd;exact⟨h.1,h.2.2⟩
 |own k c u m xs=>cases hd;obtain⟨_,h2,g,rfl,_⟩:=h;exact⟨rfl,h2⟩
 |acc ks u m xs=>
  cases hd
  obtain⟨_,h2,_,h3⟩:=h
  rcases h3 with ⟨rfl,rfl⟩|⟨hn,p,_,g,rfl,_⟩
  ·exact⟨rfl,h2⟩
  ·refine⟨?_,h2⟩
   cases xs with
   |nil=>exact absurd rfl hn
   |cons y ys=>rfl
 |_=>cases hd
theorem slOf_els(m:Nat)(xs:List Dat):elsOf (slOf m xs)=xs:=by cases xs<;>rfl
theorem concV_els{sv:SV}{e:TypeId}{m:Nat}{xs:List Dat}(h:ConcV T bc tc B K sv v)(hd:sv.els T=some (e,m,xs)):
 ∃m',v.elems=some (m',xs)∧(xs≠[]→m'=m)∧T.size e=some m∧SlFit T e xs.length∧∀y∈xs,HasTy T e y:=by
 have key:∀{t:TypeId} {x:Dat},v.toD=some x→HasTy T t x→T.und t=some (.slice e)→T.size e=some m→elsOf x=xs→∃m',v.elems=some (m',xs)∧(xs≠[]→m'=m)∧T.size e=some m∧SlFit T e xs.length∧∀y∈xs,HasTy T e y:=by
  intro t x hv ht hu hs he
  subst he
  obtain⟨k1,k2⟩:=ht.els hu
  rcases ht.sl_inv hu with rfl|⟨m',ys,rfl|⟨kk,rfl⟩,hm,_,_⟩
  ·rw[toD_plain hv rfl]
   exact⟨0,rfl,λh=>absurd rfl h,hs,k1,k2⟩
  ·exact⟨m',toD_sl hv,(λ_=>by rw[hs] at hm;cases hm;rfl),hs,k1,k2⟩
  ·rw[toD_plain hv rfl]
   exact⟨m',rfl,(λ_=>by rw[hs] at hm;cases hm;rfl),hs,k1,k2⟩
 cases sv with
 |v t x=>
  simp only[SV.els] at hd
  split at hd
  ·rename_i e' hu
   split at hd
   ·rename_i m' hs
    cases hd
    exact key h.1 h.2.2 hu hs rfl
   ·cases hd
  ·cases hd
 |own k c t m1 ys=>
  simp only[SV.els] at hd
  split at hd
  ·rename_i e' hu
   split at hd
   ·rename_i m' hs
    cases hd
    obtain⟨_,h2,g,rfl,_⟩:=h
    exact key rfl h2 hu hs rfl
   ·cases hd
  ·cases hd
 |acc ks t m1 ys=>
  simp only[SV.els] at hd
  split at hd
  ·rename_i e' hu
   split at hd
   ·rename_i m' hs
    cases hd
    obtain⟨k1,k2⟩:=concV_dat (t:=t) (x:=slOf m1 _) h rfl
    exact key k1 k2 hu hs (slOf_els _ _)
   ·cases hd
  ·cases hd
 |_=>cases hd
theorem mkAgg_toD{cs:List Val}{ds:List Dat}(h:optAll (cs.map Val.dat?)=some ds):(mkAgg cs).toD=some (.agg ds):=by
 unfold mkAgg
 split
 ·rename_i es he
  obtain⟨a1,a2⟩:=optAll_get? h
  obtain⟨b1,b2⟩:=optAll_get? he
  have:es=ds:=by
   refine List.ext_getElem? λj=>?_
   cases hc:cs[j]? with
   |none=>
    have:cs.length≤j:=List.getElem?_eq_none_iff.1 hc
    rw[List.getElem?_eq_none (by omega),List.getElem?_eq_none (by omega)]
   |some c=>
    have hj:=(List.getElem?_eq_some_iff.1 hc).1
    have e1:=b2 j c _ hc (List.getElem?_eq_getElem (by omega))
    have e2:=a2 j c _ hc (List.getElem?_eq_getElem (by omega))
    rw[List.getElem?_eq_getElem (show j<es.length by omega),List.getElem?_eq_getElem (show j<ds.length by omega)]
    cases c with
    |d y=>
     simp only[Val.isD] at e1
     have e2':=dat_toD e2
     simp only[Val.toD] at e2'
     rw[←e1,←e2']
    |_=>cases e1
  rw[this];rfl
 ·simp only[Val.toD,h,Option.map_some]
theorem mkAgg_nrm(cs:List Val):nrm (mkAgg cs)=true:=by
 unfold mkAgg
 split
 ·rfl
 ·rename_i h;simp only[nrm,h,Option.isNone_none]
theorem agg?_agg{D:TypeDesc}(h:T.und u=some D):isAgg? (T.und u)=isAggD D:=by
 rw[h];cases D<;>rfl
theorem part_loadV{tys:List TypeId}{ds:List Dat}{vs:List Val}{o:Nat}{sv:SV}(hl:lay T t=some tys)(hn:tys.length=ds.length)(h1:∀c∈ds,c.one=true)
 (hx:∀(i:Nat) u c,tys[i]?=some u→ds[i]?=some c→HasTy T u c) (hvs:vs.length=ds.length) (hd:∀(i:Nat) w c,vs[i]?=some w→ds[i]?=some c→w.dat?=some c)
 (hx0:x.cells=ds) (hxf:∀(o:Nat) c,ds[o]?=some c→fld x o=c) (hxs:∀n,isAgg? (T.und u)=true→sub x o n=.agg ((ds.drop o).take n)) (hxa:isAgg? (T.und u)=true→ds.length=ds.length→x=.agg ds)
 (h:partOf T t u x o=some sv):∃w,loadV T u (vs.drop o)=some w∧ConcV T bc tc B K sv w:=by
 unfold partOf at h
 rw[hl] at h
 simp only at h
 cases ha:isAgg? (T.und u) with
 |true=>
  rw[ha] at h
  simp only[if_true] at h
  split at h
  ·rename_i us n hus hsz
   split at h
   ·rename_i hc
    cases h
    simp only[Bool.and_eq_true,beq_iff_eq] at hc
    obtain⟨⟨_,c1⟩,c2⟩:=hc
    have hlen:o+n≤tys.length∨n=0:=by
     have:=congrArg List.length c2
     rw[List.length_take,List.length_drop] at this
     omega
    have hle:n≤(vs.drop o).length:=by rw[List.length_drop];omega
    cases hu:T.und u with
    |none=>rw[hu] at ha;cases ha
    |some D=>
     have hD:isAggD D=true:=by rw[←agg?_agg hu];exact ha
     refine⟨mkAgg ((vs.drop o).take n),by simp only[loadV,hu,hsz,hD,hle,if_true],?_⟩
     have hopt:optAll (((vs.drop o).take n).map Val.dat?)=some ((ds.drop o).take n):=by
      refine optAll_mk (by simp[hvs]) λi a b ha hb=>?_
      rw[List.getElem?_take] at ha hb
      split at ha
      ·rename_i hi
       rw[if_pos hi] at hb
       rw[List.getElem?_drop] at ha hb
       exact hd _ _ _ ha hb
      ·cases ha
     have hty:HasTy T u (.agg ((ds.drop o).take n)):=by
      refine .agg _ us _ ha hus (by rw[c1,List.length_take,List.length_drop];omega) (λc hc=>h1 c (List.mem_of_mem_drop (List.mem_of_mem_take hc))) λi w c hw hc=>?_
      rw[←c2,List.getElem?_take] at hw
      rw[List.getElem?_take] at hc
      split at hw
      ·rename_i hi
       rw[if_pos hi] at hc
       rw[List.getElem?_drop] at hw hc
       exact hx _ _ _ hw hc
      ·cases hw
     have he:(if o==0&&tys.length==n then x else sub x o n)=.agg ((ds.drop o).take n):=by
      split
      ·rename_i h0
       simp only[Bool.and_eq_true,beq_iff_eq] at h0
       rw[hxa ha rfl,h0.1,List.drop_zero,List.take_of_length_le (by omega)]
      ·exact hxs n ha
     rw[he]
     exact⟨mkAgg_toD hopt,mkAgg_nrm _,hty⟩
   ·cases h
  ·cases h
 |false=>
  rw[ha] at h
  simp only[Bool.false_eq_true,if_false] at h
  split at h
  ·rename_i w D n hw hu hsz
   split at h
   ·rename_i hc
    cases h
    have hc:w=u:=by simpa using hc
    subst hc
    have hlt:o<ds.length:=by rw[←hn];exact(List.getElem?_eq_some_iff.1 hw).1
    have hdo:=List.getElem?_eq_getElem hlt
    have hvo:=List.getElem?_eq_getElem (show o<vs.length by omega)
    have hD:isAggD D=false:=by rw[←agg?_agg hu];exact ha
    have hty:=hx o _ _ hw hdo
    refine⟨vs[o],?_,?_⟩
    ·simp only[loadV,hu,hsz,hD,Bool.false_eq_true,if_false]
     rw[List.head?_drop,hvo]
    ·rw[hxf o _ hdo,ex_eq hty]
     exact⟨dat_toD (hd o _ _ hvo hdo),one_nrm (dat?_one (hd o _ _ hvo hdo)).1,hty⟩
   ·cases h
  ·cases h
theorem loadV_map_d{cs:List Dat}{w:Val}(h1:∀c∈cs,c.one=true)(h:loadV T u (cs.map .d)=some w):∃y,loadD T u cs=some y∧w=.d y:=by
 unfold loadV at h
 unfold loadD
 split at h
 ·rename_i D n hu hs
  split at h
  ·rename_i hD
   rw[if_pos hD]
   split at h
   ·rename_i hle
    rw[if_pos (by simpa using hle)]
    cases h
    refine⟨_,rfl,?_⟩
    unfold mkAgg
    have:optAll (((cs.map Val.d).take n).map Val.isD)=some (cs.take n):=by
     rw[←List.map_take,List.map_map]
     refine optAll_mk rfl λi a b ha hb=>?_
     rw[ha] at hb
     cases hb
     rfl
    rw[this]
   ·cases h
  ·rename_i hD
   rw[if_neg hD]
   cases cs with
   |nil=>cases h
   |cons c cs=>cases h;exact⟨c,rfl,rfl⟩
 ·cases h
theorem part_imm{o:Nat}{sv:SV}(ht:HasTy T t x)(h:partOf T t u x o=some sv):∃y,loadD T u (x.cells.drop o)=some y∧ConcV T bc tc B K sv (.d y):=by
 have fin:∀{tys ds},lay T t=some tys→tys.length=ds.length→(∀c∈ds,c.one=true)→(∀(i:Nat) u c,tys[i]?=some u→ds[i]?=some c→HasTy T u c)→x.cells=ds→
  (∀(o:Nat) c,ds[o]?=some c→fld x o=c)→(∀n,isAgg? (T.und u)=true→sub x o n=.agg ((ds.drop o).take n))→(isAgg? (T.und u)=true→ds.length=ds.length→x=.agg ds)→
  ∃y,loadD T u (x.cells.drop o)=some y∧ConcV T bc tc B K sv (.d y):=by
  intro tys ds hl hn h1 hx h0 hf hs hxa
  obtain⟨w,k1,k2⟩:=part_loadV (bc:=bc) (tc:=tc) (B:=B) (K:=K) (vs:=ds.map .d) hl hn h1 hx (by simp) (λi w c hw hc=>by
   rw[List.getElem?_map,hc] at hw
   cases hw
   simp[Val.dat?,h1 c (List.mem_of_getElem? hc)]) h0 hf hs hxa h
  rw[←List.map_drop] at k1
  obtain⟨y,e1,rfl⟩:=loadV_map_d (λc hc=>h1 c (List.mem_of_mem_drop hc)) k1
  rw[h0]
  exact⟨y,e1,k2⟩
 cases ha:isAgg? (T.und t) with
 |true=>
  obtain⟨tys,ds,rfl,hl,hn,h1,hx⟩:=ht.agg_inv ha
  exact fin hl hn h1 hx rfl (λo c hc=>nth_get hc) (λn _=>rfl) (λ_ _=>rfl)
 |false=>
  have h1:=ht.one_inv ha
  have hcs:x.cells=[x]:=by cases x<;>first|rfl|cases h1
  have hfx:∀o,fld x o=x:=λo=>by cases x<;>first|rfl|cases h1
  cases hd:T.und t with
  |none=>
   exfalso
   cases ht<;>simp_all[isB0,isP0,isI0,z0,isB,isP,isL,isM,isF,isI,isAgg?]
  |some D=>
   have hl:=lay_one hd ha
   have hu:isAgg? (T.und u)=true→False:=λhu=>by
    unfold partOf at h
    rw[hl,hu] at h
    simp only[if_true] at h
    split at h
    ·rename_i us n hus hsz
     split at h
     ·rename_i hc
      rw[ha] at hc
      simp at hc
     ·cases h
    ·cases h
   refine fin hl (by rw[hcs];rfl) (λc hc=>?_) (λi u c hu hc=>?_) rfl (λo c hc=>?_) (λn e=>(hu e).elim) (λe=>(hu e).elim)
   ·rw[hcs] at hc;simp at hc;subst hc;exact h1
   ·rw[hcs] at hc
    cases i with
    |zero=>simp at hu hc;subst hu hc;exact ht
    |succ i=>simp at hu
   ·rw[hcs] at hc
    cases o with
    |zero=>simp at hc;subst hc;exact hfx 0
    |succ o=>simp at hc
end Go.Proofs.YtgmapdcdmomioaaGreatDoor.Am
namespace Go.Proofs.YtgmapdcdmomioaaGreatDoor.Am
open Go
variable{T:Tb}{t u:TypeId}{x d:Dat}{v:Val}{s s':SSt}{st st':St}{o:Oper}{K:SFeet→SSt→Prop}
theorem cnt_set(m:Mp Nat)(i j n:Nat):cnt (m.set i n) j=if i=j then n else cnt m j:=by
 unfold cnt
 rw[Mp.get_set]
 split<;>rfl
structure UpS(bc tc:Mp Nat)(B:Mp (Nat×Box))(K:Mp (Nat×Option (Nat×Nat)))(bc' tc':Mp Nat)(B':Mp (Nat×Box))(K':Mp (Nat×Option (Nat×Nat))):Prop where
 b:∀k,cnt bc k≤cnt bc' k∧(cnt bc k=cnt bc' k→∀g bx,B.get k=some (g,bx)→∃bx',B'.get k=some (g,bx'))
 k:∀k,cnt tc k≤cnt tc' k∧(cnt tc k=cnt tc' k→∀r,K.get k=some r→K'.get k=some r)
variable{bc tc bc' tc':Mp Nat}{B B':Mp (Nat×Box)}{C C':Mp (Nat×Option (Nat×Nat))}
theorem ConcV.up(h:UpS bc tc B C bc' tc' B' C'){sv:SV}(hv:ConcV T bc tc B C sv v):ConcV T bc' tc' B' C' sv v:=by
 cases sv with
 |loc k c o=>
  obtain⟨h1,g,h2,h3⟩:=hv
  obtain⟨b1,b2⟩:=h.b k
  refine⟨Nat.le_trans h1 b1,g,h2,λe=>?_⟩
  obtain⟨bx,hb⟩:=h3 (by omega)
  exact b2 (by omega) g bx hb
 |own k c t m xs=>
  obtain⟨h1,ht,g,h2,h3⟩:=hv
  obtain⟨b1,b2⟩:=h.k k
  exact⟨Nat.le_trans h1 b1,ht,g,h2,λe=>b2 (by omega) _ (h3 (by omega))⟩
 |acc ks t m xs=>
  obtain⟨h0,ht,h1,h2⟩:=hv
  refine⟨h0,ht,λp hp=>Nat.le_trans (h1 p hp) (h.k p.1).1,?_⟩
  rcases h2 with h2|⟨h2,p,hp,g,h3,h4⟩
  ·exact .inl h2
  ·refine .inr ⟨h2,p,hp,g,h3,λe=>?_⟩
   obtain⟨b1,b2⟩:=h.k p.1
   have:=h1 p hp
   exact b2 (by omega) _ (h4 (by omega))
 |_=>exact hv
theorem ConcB.up(h:UpS bc tc B C bc' tc' B' C'){sb:SBox}{bx:Box}(hv:ConcB T bc tc B C sb bx):ConcB T bc' tc' B' C' sb bx:=by
 cases sb with
 |cells cs=>
  cases bx with
  |cells vs=>exact⟨hv.1,λj a b ha hb=>⟨(hv.2 j a b ha hb).1,(hv.2 j a b ha hb).2.up h⟩⟩
  |_=>exact hv
 |whole t x=>cases bx<;>exact hv
 |iter s p=>cases bx<;>exact hv
theorem Conc.put(h:Conc T s st)(dst:Option Nat){sv:SV}(hv:ConcV T s.bc s.tc st.boxes st.toks sv v):Conc T (s.put dst sv) (st.put dst v):=by
 cases dst with
 |none=>exact h
 |some k=>
  refine⟨h.nt,h.esc,h.res,h.defs,h.pin,h.glob,λt sv' ht=>?_,h.boxes⟩
  simp only[SSt.put,St.put,Mp.get_set] at ht⊢
  split at ht
  ·cases ht
   rename_i hkt
   exact⟨v,by rw[if_pos hkt],hv⟩
  ·rename_i hne
   simp only[hne,if_false]
   exact h.regs t sv' ht
theorem Conc.mem(h:Conc T s st)(bs:Mp SBox)(bc' tc':Mp Nat)(B':Mp (Nat×Box))(C':Mp (Nat×Option (Nat×Nat)))(u:UpS s.bc s.tc st.boxes st.toks bc' tc' B' C')
 (hb:∀k sb,bs.get k=some sb→∃g bx,B'.get k=some (g,bx)∧ConcB T bc' tc' B' C' sb bx):
 Conc T {s with boxes:=bs,bc:=bc',tc:=tc'} {st with boxes:=B',toks:=C'}:=
 ⟨h.nt,h.esc,h.res,h.defs,h.pin,h.glob,λt sv ht=>let ⟨v,h1,h2⟩:=h.regs t sv ht;⟨v,h1,h2.up u⟩,hb⟩
theorem Conc.boxes_up(h:Conc T s st)(u:UpS s.bc s.tc st.boxes st.toks bc' tc' B' C')(hB:∀k sb,s.boxes.get k=some sb→B'.get k=st.boxes.get k):
 ∀k sb,s.boxes.get k=some sb→∃g bx,B'.get k=some (g,bx)∧ConcB T bc' tc' B' C' sb bx:=λk sb hk=>by
 obtain⟨g,bx,h1,h2⟩:=h.boxes k sb hk
 exact⟨g,bx,by rw[hB k sb hk,h1],h2.up u⟩
theorem Conc.ev(h:Conc T s st)(t:TypeId)(x:Operand):ConcV T s.bc s.tc st.boxes st.toks (s.ev T t x) (Am.ev st.regs x):=by
 unfold SSt.ev Am.ev
 cases x with
 |tmp i=>
  simp only
  split
  ·rename_i sv hs
   obtain⟨v,h1,h2⟩:=h.regs i sv hs
   rw[h1]
   exact h2
  ·trivial
 |const c=>
  simp only
  split
  ·rename_i d hd
   split
   ·rename_i ht
    rw[hd]
    exact concV_d (tyB_ty ht)
   ·trivial
  ·trivial
 |func f=>
  simp only
  split
  ·rename_i ht
   exact concV_d (.clo _ _ _ ht)
  ·trivial
 |global g=>trivial
theorem Conc.int(h:Conc T s st){x:Operand}{n:Int}(hx:s.int x=some n):∃k,Am.ev st.regs x=.d (.int k n):=by
 unfold SSt.int at hx
 cases x with
 |tmp i=>
  simp only at hx
  split at hx
  ·rename_i t k n' hs
   cases hx
   obtain⟨v,h1,h2,_⟩:=h.regs i _ hs
   exact⟨k,by simp only[Am.ev,h1,Option.getD_some];exact toD_plain h2 rfl⟩
  ·cases hx
 |const c=>
  cases c with
  |int k m=>cases hx;exact⟨k,rfl⟩
  |_=>cases hx
 |_=>cases hx
theorem Conc.bool(h:Conc T s st){x:Operand}{b:Bool}(hx:s.bool x=some b):Am.ev st.regs x=.d (.bool b):=by
 unfold SSt.bool at hx
 cases x with
 |tmp i=>
  simp only at hx
  split at hx
  ·rename_i t b' hs
   cases hx
   obtain⟨v,h1,h2,_⟩:=h.regs i _ hs
   simp only[Am.ev,h1,Option.getD_some];exact toD_plain h2 rfl
  ·cases hx
 |const c=>
  cases c with
  |bool m=>cases hx;rfl
  |_=>cases hx
 |_=>cases hx
def FeetIn(T:Tb)(A:Doing)(ft:SFeet):Prop:=
 (∀p,A.box=some p→ft.box=some p)∧(∀k,A.tok=some k→k∈ft.toks)∧
 (A.glob=some false→A.box=none∧A.tok=none∧∃r,ft.rd=some r∧∀g,outVal (A.f none none g)=Rd.read T r g)∧(A.glob=some true→ft.wr=true)
def OpOk(T:Tb)(o:Oper)(st:St)(K:SFeet→SSt→Prop):Prop:=
 ∃A v s1 ft s',(∀R,doing T R st.esc (Am.ev st.regs) o=some A)∧A.apply st=some (.val v,s1)∧FeetIn T A ft∧K ft s'∧Conc T s' (s1.put o.dst v)
theorem feet_ret(v:Val)(ft:SFeet):FeetIn T (.ret v) ft:=⟨(λp h=>by cases h),(λk h=>by cases h),(λh=>by cases h),(λh=>by cases h)⟩
theorem feet_box{A:Doing}{ft:SFeet}(h1:A.box=ft.box)(h2:A.tok=none)(h3:A.glob=none):FeetIn T A ft:=
 ⟨(λp h=>by rw[←h1,h]),(λk h=>by rw[h2] at h;cases h),(λh=>by rw[h3] at h;cases h),(λh=>by rw[h3] at h;cases h)⟩
theorem feet_tok{A:Doing}{ft:SFeet}(h1:A.box=none)(h2:∀k,A.tok=some k→k∈ft.toks)(h3:A.glob=none):FeetIn T A ft:=
 ⟨(λp h=>by rw[h1] at h;cases h),h2,(λh=>by rw[h3] at h;cases h),(λh=>by rw[h3] at h;cases h)⟩
theorem feet_wr{A:Doing}{ft:SFeet}(h1:A.box=none)(h2:∀k,A.tok=some k→k∈ft.toks)(h3:A.glob=some true)(h4:ft.wr=true):FeetIn T A ft:=
 ⟨(λp h=>by rw[h1] at h;cases h),h2,(λh=>by rw[h3] at h;cases h),λ_=>h4⟩
theorem feet_rd{A:Doing}{ft:SFeet}{r:Rd}(h1:A.box=none)(h2:A.tok=none)(h3:A.glob=some false)(h4:ft.rd=some r)(h5:∀g,outVal (A.f none none g)=Rd.read T r g):FeetIn T A ft:=
 ⟨(λp h=>by rw[h1] at h;cases h),(λk h=>by rw[h2] at h;cases h),(λ_=>⟨h1,h2,_,h4,h5⟩),(λh=>by rw[h3] at h;cases h)⟩
theorem ok_ret{sv:SV}(h:Conc T s st)(hd:∀R,doing T R st.esc (Am.ev st.regs) o=some (.ret v))(hv:ConcV T s.bc s.tc st.boxes st.toks sv v)(hk:K {} (s.put o.dst sv)):OpOk T o st K:=
 ⟨_,v,st,{},_,hd,rfl,feet_ret _ _,hk,h.put _ hv⟩
theorem exT_spec{Q:Dat→Prop}(h:exT T t Q):∃x,Q x∧HasTy T t x:=by
 unfold exT at h
 split at h
 ·rename_i k hu;obtain⟨n,h⟩:=h;exact⟨_,h,.int _ _ _ (isI0_of hu)⟩
 ·rename_i hu;obtain⟨n,h⟩:=h;exact⟨_,h,.bool _ _ (isB0_of hu)⟩
 ·rename_i hu;obtain⟨n,hl,h⟩:=h;exact⟨_,h,.str _ _ hu hl⟩
 ·rename_i hu
  have hp:∀a,HasTy T t (.ptr a):=λa=>.ptr _ _ (by rw[hu];rfl)
  split at h
  ·obtain⟨i,o,h⟩:=h
   exact⟨_,h,hp _⟩
  ·rcases h with h|⟨i,o,h⟩
   ·exact⟨_,h,hp _⟩
   ·exact⟨_,h,hp _⟩
 ·rename_i hu
  have hp:∀a,HasTy T t (.map a):=λa=>.map _ _ (by rw[hu];rfl)
  split at h
  ·obtain⟨i,h⟩:=h
   exact⟨_,h,hp _⟩
  ·rcases h with h|⟨i,h⟩
   ·exact⟨_,h,hp _⟩
   ·exact⟨_,h,hp _⟩
 ·rename_i hu
  split at h
  ·obtain⟨f,c,h⟩:=h
   exact⟨_,h,.clo _ _ _ (by rw[hu];rfl)⟩
  ·rcases h with h|⟨f,c,h⟩
   ·exact⟨_,h,.nilFn _ (by rw[hu];rfl)⟩
   ·exact⟨_,h,.clo _ _ _ (by rw[hu];rfl)⟩
 ·obtain⟨n,hl,h⟩:=h;exact⟨_,h,hl⟩
theorem loadS_ok{cs:List SV}{vs:List Val}{sv:SV}(h:Els (λs v=>v.one=true∧ConcV T bc tc B C s v) cs vs)(hl:loadS T u cs=some sv):
 ∃w,loadV T u vs=some w∧ConcV T bc tc B C sv w:=by
 unfold loadS at hl
 cases ha:isAgg? (T.und u) with
 |true=>
  rw[ha] at hl
  simp only[if_true] at hl
  split at hl
  ·rename_i us n hus hsz
   split at hl
   ·rename_i l ho
    split at hl
    ·rename_i hc
     cases hl
     simp only[Bool.and_eq_true,beq_iff_eq] at hc
     obtain⟨c1,c2⟩:=hc
     obtain⟨o1,o2⟩:=optAll_get? ho
     have hll:l.length=n:=by rw[←c1,←c2,List.length_map]
     have hle:n≤vs.length:=by rw[←h.1];rw[←hll,←o1,List.length_take];exact Nat.min_le_right _ _
     cases hu:T.und u with
     |none=>rw[hu] at ha;cases ha
     |some D=>
      have hD:isAggD D=true:=by rw[←agg?_agg hu];exact ha
      have key:∀(i:Nat) w p,vs[i]?=some w→l[i]?=some p→w.dat?=some p.2∧HasTy T p.1 p.2:=λi w p hw hp=>by
       have hi:i<n:=by rw[←hll];exact(List.getElem?_eq_some_iff.1 hp).1
       have hi2:i<cs.length:=by rw[h.1];exact(List.getElem?_eq_some_iff.1 hw).1
       have hcs:=List.getElem?_eq_getElem hi2
       obtain⟨k1,k2⟩:=h.2 i _ w hcs hw
       have hdat:=o2 i cs[i] p (by rw[List.getElem?_take,if_pos hi];exact hcs) hp
       obtain⟨e1,e2⟩:=concV_dat (t:=p.1) (x:=p.2) k2 (by rw[hdat])
       exact⟨one_toD k1 e1,e2⟩
      refine⟨mkAgg (vs.take n),by simp only[loadV,hu,hsz,hD,hle,if_true],mkAgg_toD ?_,mkAgg_nrm _,.agg _ us _ ha hus (by rw[c1,List.length_map,hll]) (λc hc=>?_) λi w c hw hc=>?_⟩
      ·refine optAll_mk (by rw[List.length_take,List.length_map,hll];omega) λi a b ha hb=>?_
       rw[List.getElem?_take] at ha
       split at ha
       ·rw[List.getElem?_map] at hb
        cases hp:l[i]? with
        |none=>rw[hp] at hb;cases hb
        |some p=>rw[hp] at hb;cases hb;exact(key i a p ha hp).1
       ·cases ha
      ·obtain⟨i,hi⟩:=List.mem_iff_getElem?.1 hc
       rw[List.getElem?_map] at hi
       cases hp:l[i]? with
       |none=>rw[hp] at hi;cases hi
       |some p=>
        rw[hp] at hi;cases hi
        have hlt:i<vs.length:=by have:=(List.getElem?_eq_some_iff.1 hp).1;omega
        exact(dat?_one (key i _ p (List.getElem?_eq_getElem hlt) hp).1).2
      ·rw[List.getElem?_map] at hc
       cases hp:l[i]? with
       |none=>rw[hp] at hc;cases hc
       |some p=>
        rw[hp] at hc;cases hc
        have hlt:i<vs.length:=by have:=(List.getElem?_eq_some_iff.1 hp).1;omega
        have hk:=(key i _ p (List.getElem?_eq_getElem hlt) hp).2
        rw[←c2,List.getElem?_map,hp] at hw
        cases hw
        exact hk
    ·cases hl
   ·cases hl
  ·cases hl
 |false=>
  rw[ha] at hl
  simp only[Bool.false_eq_true,if_false] at hl
  split at hl
  ·rename_i D n hu hsz
   have hD:isAggD D=false:=by rw[←agg?_agg hu];exact ha
   cases cs with
   |nil=>cases hl
   |cons c cs=>
    cases vs with
    |nil=>cases h.1
    |cons w vs=>
     cases hl
     exact⟨w,by simp[loadV,hu,hsz,hD],h.tail.1.2⟩
  ·cases hl
theorem Els.drop{α β:Type}{R:α→β→Prop}{l:List α}{r:List β}(h:Els R l r)(n:Nat):Els R (l.drop n) (r.drop n):=
 ⟨by simp[h.1],λj a b ha hb=>h.2 (n+j) a b (by simpa[List.getElem?_drop] using ha) (by simpa[List.getElem?_drop] using hb)⟩
theorem sLoad_ok{p:SV}{y:Val}{u:TypeId}(h:sLoad T s o.dst u p K)(hc:Conc T s st)(hp:ConcV T s.bc s.tc st.boxes st.toks p y)(hd:∀R,doing T R st.esc (Am.ev st.regs) o=doLoad T u y):OpOk T o st K:=by
 unfold sLoad at h
 split at h
 ·rename_i k c off
  split at h
  ·rename_i hcc
   have hcc:c=cnt s.bc k:=by simpa using hcc
   split at h
   ·rename_i cs hb
    split at h
    ·rename_i sv hl
     obtain⟨_,g,rfl,hbx⟩:=hp
     obtain⟨g',bx,h1,h2⟩:=hc.boxes k _ hb
     obtain⟨bx',h3⟩:=hbx hcc
     rw[h1] at h3
     cases h3
     cases bx with
     |cells vs=>
      obtain⟨w,h4,h5⟩:=loadS_ok (Els.drop h2 off) hl
      refine⟨_,w,st,_,_,λR=>hd R,?_,feet_box rfl rfl rfl,h,hc.put _ h5⟩
      simp only[Doing.apply,Doing.look,Doing.put,h1,if_true,h4]
     |_=>exact h2.elim
    ·exact h.elim
   ·rename_i t x hb
    split at h
    ·rename_i sv hl
     obtain⟨_,g,rfl,hbx⟩:=hp
     obtain⟨g',bx,h1,h2⟩:=hc.boxes k _ hb
     obtain⟨bx',h3⟩:=hbx hcc
     rw[h1] at h3
     cases h3
     cases bx with
     |cells vs=>
      obtain⟨ht,ha,hlen,hdat⟩:=h2
      obtain⟨tys,ds,rfl,hl',hn,k1,hx⟩:=ht.agg_inv ha
      obtain⟨w,h4,h5⟩:=part_loadV (bc:=s.bc) (tc:=s.tc) (B:=st.boxes) (K:=st.toks) (x:=.agg ds) (vs:=vs) hl' hn k1 hx hlen (λi w c hw hc=>hdat i w c hw hc) rfl (λo c hc=>nth_get hc) (λn _=>rfl) (λ_ _=>rfl) hl
      refine⟨_,w,st,_,_,λR=>hd R,?_,feet_box rfl rfl rfl,h,hc.put _ h5⟩
      simp only[Doing.apply,Doing.look,Doing.put,h1,if_true,h4]
     |_=>exact h2.elim
    ·exact h.elim
   ·exact h.elim
  ·exact h.elim
 ·rename_i t x off
  obtain⟨rfl,ht⟩:=hp
  split at h
  ·rename_i sv hl
   obtain⟨y,h1,h2⟩:=part_imm ht hl
   have fin:K {} (s.put o.dst sv)→OpOk T o st K:=λh=>by
    refine ok_ret hc (λR=>?_) h2 h
    rw[hd]
    simp only[doLoad,h1]
   split at h
   ·split at h
    ·obtain⟨f,c,rfl,h⟩:=h
     exact fin h
    ·exact h.elim
   ·exact fin h
  ·exact h.elim
 ·rename_i t i off
  obtain⟨x,⟨⟨w,h1,h2,hnr⟩,hk⟩,ht⟩:=exT_spec h
  have hy:y=.d (.ptr (some (i,off))):=toD_plain hp.1 rfl
  subst hy
  refine⟨_,w,st,_,_,λR=>hd R,?_,feet_rd rfl rfl rfl rfl (λg=>?_),hk,hc.put _ ⟨h2,hnr,ht⟩⟩
  ·unfold gload at h1
   simp only[Doing.apply,Doing.look,Doing.put]
   rw[←hc.glob] at h1
   split at h1
   ·rename_i cs hb
    rw[hb]
    simp only[h1]
   ·cases h1
  ·unfold Rd.read gload
   simp only
   cases g.boxes[i]? with
   |none=>rfl
   |some bx=>cases bx with
    |cells cs=>
     simp only
     cases loadV T u ((cs.drop off).map GVal.v)<;>rfl
    |map es c=>rfl
 ·exact h.elim
end Go.Proofs.YtgmapdcdmomioaaGreatDoor.Am
namespace Go.Proofs.YtgmapdcdmomioaaGreatDoor.Am
open Go
variable{T:Tb}{t u:TypeId}{x d:Dat}{v:Val}{s s':SSt}{st st':St}{o:Oper}{K:SFeet→SSt→Prop}
variable{bc tc bc' tc':Mp Nat}{B B':Mp (Nat×Box)}{C C':Mp (Nat×Option (Nat×Nat))}
theorem concV_cellsAll{sv:SV}{cs:List SV}(h:ConcV T bc tc B C sv v)(hc:sv.cells T=some cs):Els (λs v=>v.one=true∧ConcV T bc tc B C s v) cs v.cells:=by
 have single:∀{sv:SV} {w:Val},w.one=true→w.cells=[w]→ConcV T bc tc B C sv w→Els (λs v=>v.one=true∧ConcV T bc tc B C s v) [sv] w.cells:=λh1 h2 h3=>by
  rw[h2];exact Els.cons ⟨h1,h3⟩ ⟨rfl,λj a b h=>by simp at h⟩
 cases sv with
 |v t x=>exact concV_cells h hc
 |loc k c o=>cases hc;have h':=h;obtain⟨_,g,rfl,_⟩:=h';exact single rfl rfl h
 |imm t x o=>cases hc;have h':=h;obtain⟨rfl,_⟩:=h';exact single rfl rfl h
 |own k c t m xs=>cases hc;have h':=h;obtain⟨_,_,g,rfl,_⟩:=h';exact single rfl rfl h
 |acc ks t m xs=>
  cases hc
  have h':=h
  obtain⟨_,_,_,h2⟩:=h'
  rcases h2 with ⟨rfl,rfl⟩|⟨_,p,_,g,rfl,_⟩
  ·exact single rfl rfl h
  ·exact single rfl rfl h
 |_=>cases hc
theorem Els.all_one{cs:List SV}{vs:List Val}(h:Els (λs v=>v.one=true∧ConcV T bc tc B C s v) cs vs):vs.all Val.one=true:=by
 rw[List.all_eq_true]
 intro w hw
 obtain⟨j,hj⟩:=List.mem_iff_getElem?.1 hw
 have:j<cs.length:=by rw[h.1];exact(List.getElem?_eq_some_iff.1 hj).1
 exact(h.2 j _ w (List.getElem?_eq_getElem this) hj).1
theorem upS_setBox{k g:Nat}{bx bx':Box}(h:B.get k=some (g,bx)):UpS bc tc B C bc tc (B.set k (g,bx')) C where
 b i:=⟨Nat.le_refl _,λ_ g' b hb=>by
   rw[Mp.get_set]
   split
   ·rename_i e;subst e;rw[h] at hb;cases hb;exact⟨_,rfl⟩
   ·exact⟨b,hb⟩⟩
 k i:=⟨Nat.le_refl _,λ_ r h=>h⟩
theorem upS_newBox{k g:Nat}{bx:Box}:UpS bc tc B C (bc.set k (cnt bc k+1)) tc (B.set k (g,bx)) C where
 b i:=by
   rw[cnt_set,Mp.get_set]
   split
   ·rename_i e;subst e;exact⟨Nat.le_succ _,λe=>by omega⟩
   ·exact⟨Nat.le_refl _,λ_ g b h=>⟨b,h⟩⟩
 k i:=⟨Nat.le_refl _,λ_ r h=>h⟩
theorem upS_newTok{k:Nat}{r:Nat×Option (Nat×Nat)}:UpS bc tc B C bc (tc.set k (cnt tc k+1)) B (C.set k r) where
 b i:=⟨Nat.le_refl _,λ_ g bx h=>⟨bx,h⟩⟩
 k i:=by
   rw[cnt_set,Mp.get_set]
   split
   ·rename_i e;subst e;exact⟨Nat.le_succ _,λe=>by omega⟩
   ·exact⟨Nat.le_refl _,λ_ r h=>h⟩
theorem Conc.setBox(hc:Conc T s st){k g:Nat}{bx:Box}{sb:SBox}{bx':Box}(h:st.boxes.get k=some (g,bx))(hb:ConcB T s.bc s.tc st.boxes st.toks sb bx'):
 Conc T {s with boxes:=s.boxes.set k sb} {st with boxes:=st.boxes.set k (g,bx')}:=by
 have u:UpS s.bc s.tc st.boxes st.toks s.bc s.tc (st.boxes.set k (g,bx')) st.toks:=upS_setBox h
 exact hc.mem (s.boxes.set k sb) s.bc s.tc (st.boxes.set k (g,bx')) st.toks u (λi sb' hi=>by
  rw[Mp.get_set] at hi⊢
  split at hi
  ·rename_i e
   cases hi
   rw[if_pos e]
   exact⟨g,bx',rfl,hb.up u⟩
  ·rename_i e
   rw[if_neg e]
   obtain⟨g1,b1,h1,h2⟩:=hc.boxes i sb' hi
   exact⟨g1,b1,h1,h2.up u⟩)
theorem Conc.newBox(hc:Conc T s st){k:Nat}{sb:SBox}{bx:Box}(hb:ConcB T s.bc s.tc st.boxes st.toks sb bx):
 Conc T {s with regs:=s.regs.set k (.loc k (cnt s.bc k+1) 0),boxes:=s.boxes.set k sb,bc:=s.bc.set k (cnt s.bc k+1)}
  ({st with boxes:=st.boxes.set k (nextGen (st.boxes.get k),bx)}.put (some k) (.loc k (nextGen (st.boxes.get k)) 0)):=by
 have u:UpS s.bc s.tc st.boxes st.toks (s.bc.set k (cnt s.bc k+1)) s.tc (st.boxes.set k (nextGen (st.boxes.get k),bx)) st.toks:=upS_newBox
 have h1:=hc.mem (s.boxes.set k sb) (s.bc.set k (cnt s.bc k+1)) s.tc (st.boxes.set k (nextGen (st.boxes.get k),bx)) st.toks u (λi sb' hi=>by
  rw[Mp.get_set] at hi⊢
  split at hi
  ·rename_i e
   cases hi
   rw[if_pos e]
   exact⟨_,bx,rfl,hb.up u⟩
  ·rename_i e
   rw[if_neg e]
   obtain⟨g1,b1,h1,h2⟩:=hc.boxes i sb' hi
   exact⟨g1,b1,h1,h2.up u⟩)
 refine h1.put (some k) (sv:=.loc k (cnt s.bc k+1) 0) ⟨?_,_,rfl,λ_=>⟨bx,?_⟩⟩
 ·rw[cnt_set,if_pos rfl];exact Nat.le_refl _
 ·show(st.boxes.set k (nextGen (st.boxes.get k),bx)).get k=_
  rw[Mp.get_set,if_pos rfl]
theorem Conc.newOwn(hc:Conc T s st){k m g:Nat}{t:TypeId}{xs:List Dat}(ht:HasTy T t (.sl m xs)):
 Conc T {s with regs:=s.regs.set k (.own k (cnt s.tc k+1) t m xs),tc:=s.tc.set k (cnt s.tc k+1)}
  ({st with toks:=st.toks.set k (g,some (m,xs.length))}.put (some k) (.own k g m xs)):=by
 have u:UpS s.bc s.tc st.boxes st.toks s.bc (s.tc.set k (cnt s.tc k+1)) st.boxes (st.toks.set k (g,some (m,xs.length))):=upS_newTok
 have h1:=hc.mem s.boxes s.bc (s.tc.set k (cnt s.tc k+1)) st.boxes (st.toks.set k (g,some (m,xs.length))) u (hc.boxes_up u λ_ _ _=>rfl)
 refine h1.put (some k) (sv:=.own k (cnt s.tc k+1) t m xs) ⟨?_,ht,g,rfl,λ_=>?_⟩
 ·rw[cnt_set,if_pos rfl];exact Nat.le_refl _
 ·show(st.toks.set k (g,some (m,xs.length))).get k=_
  rw[Mp.get_set,if_pos rfl]
theorem Conc.glob'(hc:Conc T s st)(g:Glob):Conc T {s with glob:=g} {st with glob:=g}:=
 ⟨hc.nt,hc.esc,hc.res,hc.defs,hc.pin,rfl,hc.regs,hc.boxes⟩
theorem dats_of{cs:List SV}{vs:List Val}{l:List (TypeId×Dat)}(h:Els (λs v=>v.one=true∧ConcV T bc tc B C s v) cs vs)(ho:optAll (cs.map SV.dat)=some l):
 optAll (vs.map Val.dat?)=some (l.map (·.2))∧∀p∈l,HasTy T p.1 p.2∧p.2.one=true:=by
 obtain⟨o1,o2⟩:=optAll_get? ho
 have key:∀(i:Nat) w p,vs[i]?=some w→l[i]?=some p→w.dat?=some p.2∧HasTy T p.1 p.2:=λi w p hw hp=>by
  have hi:i<cs.length:=by rw[h.1];exact(List.getElem?_eq_some_iff.1 hw).1
  obtain⟨k1,k2⟩:=h.2 i _ w (List.getElem?_eq_getElem hi) hw
  have hd:=o2 i _ p (List.getElem?_eq_getElem hi) hp
  obtain⟨e1,e2⟩:=concV_dat (t:=p.1) (x:=p.2) k2 (by rw[hd])
  exact⟨one_toD k1 e1,e2⟩
 refine⟨optAll_mk (by rw[List.length_map,←o1,h.1]) λi w b hw hb=>?_,λp hp=>?_⟩
 ·rw[List.getElem?_map] at hb
  cases hl:l[i]? with
  |none=>rw[hl] at hb;cases hb
  |some p=>rw[hl] at hb;cases hb;exact(key i w p hw hl).1
 ·obtain⟨i,hi⟩:=List.mem_iff_getElem?.1 hp
  have hlt:i<vs.length:=by have:=(List.getElem?_eq_some_iff.1 hi).1;have:=h.1;omega
  obtain⟨k1,k2⟩:=key i _ p (List.getElem?_eq_getElem hlt) hi
  exact⟨k2,(dat?_one k1).2⟩
theorem concB_cs{sb:SBox}{cs:List SV}{vs:List Val}(h:ConcB T bc tc B C sb (.cells vs))(hs:sb.cs T=some cs):Els (λs v=>v.one=true∧ConcV T bc tc B C s v) cs vs:=by
 cases sb with
 |cells l=>cases hs;exact h
 |whole t x=>
  obtain⟨ht,ha,hlen,hdat⟩:=h
  simp only[SBox.cs,cellsS,ha,if_true] at hs
  obtain⟨tys,ds,rfl,hl,hn,h1,hx⟩:=ht.agg_inv ha
  rw[hl] at hs
  cases hs
  refine⟨by rw[cellsFrom_len,hlen];exact hn,λj s w hs hw=>?_⟩
  have hlt:j<ds.length:=by have:=(List.getElem?_eq_some_iff.1 hw).1;rw[hlen] at this;exact this
  have hd:=List.getElem?_eq_getElem hlt
  have hwd:=hdat j w _ hw hd
  rw[cellsFrom_get] at hs
  cases htj:tys[j]? with
  |none=>rw[htj] at hs;cases hs
  |some u=>
   rw[htj] at hs
   cases hs
   have hf:fld (.agg ds) (0+j)=ds[j]:=by
    simp only[fld,Nat.zero_add]
    exact nth_get hd
   show w.one=true∧ConcV T bc tc B C (.v u (ex T u (fld (.agg ds) (0+j)))) w
   rw[hf,ex_eq (hx j u _ htj hd)]
   exact⟨(dat?_one hwd).1,dat_toD hwd,one_nrm (dat?_one hwd).1,hx j u _ htj hd⟩
 |iter s p=>exact h.elim
theorem concB_whole{sv:SV}{cs:List SV}{v:Val}(hs:ConcV T bc tc B C sv v)(hc:sv.cells T=some cs)(h:Els (λs v=>v.one=true∧ConcV T bc tc B C s v) cs v.cells):ConcB T bc tc B C (wholeOf T cs sv) (.cells v.cells):=by
 cases sv with
 |v t x=>
  simp only[wholeOf]
  split
  ·rename_i ha
   obtain⟨hv,hnr,ht⟩:=hs
   refine⟨ht,ha,?_⟩
   obtain⟨tys,ds,rfl,hl,hn,h1,hx⟩:=ht.agg_inv ha
   rcases toD_agg hv with rfl|⟨vs,rfl,ho⟩
   ·refine⟨by simp[Val.cells,Dat.cells],λi v c hv hc=>?_⟩
    have hv:(ds.map Val.d)[i]?=some v:=hv
    have hc:ds[i]?=some c:=hc
    rw[List.getElem?_map,hc] at hv
    cases hv
    simp[Val.dat?,h1 c (List.mem_of_getElem? hc)]
   ·obtain⟨o1,o2⟩:=optAll_get? ho
    exact⟨o1,λi v c hv hc=>o2 i v c hv hc⟩
  ·exact h
 |_=>exact h
theorem newBoxS_ok{k:Nat}{cs:List SV}{sv:SV}{vs:List Val}(h:newBoxS T s o.type k cs sv K)(hc:Conc T s st)(ho:o.dst=some k)(hw:ConcB T s.bc s.tc st.boxes st.toks (wholeOf T cs sv) (.cells vs))(hv:Els (λs v=>v.one=true∧ConcV T s'.bc s'.tc st.boxes st.toks s v) cs vs)(hs:s'=s)
 (hd:∀R,doing T R st.esc (Am.ev st.regs) o=newBox st.esc o.dst vs):OpOk T o st K:=by
 subst hs
 unfold newBoxS at h
 split at h
 ·rename_i hesc
  split at h
  ·rename_i l hl
   split at h
   ·rename_i hp
    obtain⟨d1,d2⟩:=dats_of hv hl
    have hk:newBox st.esc o.dst vs=some (Doing.mk none none (some true) λ_ _ gl=>some (.val (.d (.ptr (some (gl.boxes.length,0)))),none,none,{gl with boxes:=gl.boxes++[.cells ((l.map (·.2)).map .d)]})):=by
     unfold newBox
     rw[ho,hc.esc]
     simp only[hv.all_one,if_true,hesc,d1]
    refine⟨_,_,_,_,_,λR=>(hd R).trans hk,rfl,feet_wr rfl (λk h=>by cases h) rfl rfl,h,?_⟩
    have h1:=(hc.glob' (gnew s'.glob (l.map (·.2)))).put (some k) (v:=.d (.ptr (some (st.glob.boxes.length,0)))) (sv:=.v o.type (.ptr (some (s'.glob.boxes.length,0)))) (by rw[hc.glob];exact concV_d (.ptr _ _ hp))
    rw[ho]
    have e:st.glob=s'.glob:=hc.glob
    simp only[Doing.put,Doing.look,St.put,SSt.put,gnew,e] at h1⊢
    exact h1
   ·exact h.elim
  ·exact h.elim
 ·rename_i hesc
  have hk:newBox st.esc o.dst vs=some (ownBox k vs):=by
   rw[ho]
   exact newBox_own hv.all_one (by rw[hc.esc];simpa using hesc)
  refine⟨_,_,_,_,_,λR=>(hd R).trans hk,ownBox_apply,feet_box rfl rfl rfl,h,?_⟩
  rw[ho]
  exact hc.newBox (sb:=wholeOf T cs sv) (bx:=.cells vs) hw
theorem putAll_all{β:Type}:∀{vs cs:List β} (pre:List β),cs.length=vs.length→putAll (pre++cs) pre.length vs=pre++vs
 |[],cs,pre,h=>by
  have:cs=[]:=List.eq_nil_of_length_eq_zero h
  subst this
  rfl
 |v::vs,cs,pre,h=>by
  cases cs with
  |nil=>cases h
  |cons c cs=>
   have h1:(pre++c::cs).set pre.length v=(pre++[v])++cs:=by simp
   have:=putAll_all (vs:=vs) (cs:=cs) (pre++[v]) (by simpa using h)
   simp only[putAll,h1]
   rw[List.length_append] at this
   simpa using this
theorem optAll_cons{β:Type}{b:β}{l:List (Option β)}{r:List β}(h:optAll (some b::l)=some r):∃r',optAll l=some r'∧r=b::r':=by
 unfold optAll at h
 split at h
 ·rename_i r' hr;cases h;exact⟨r',hr,rfl⟩
 ·cases h
theorem optAll_mapv{α β γ:Type}{f:α→Option β}{h:β→γ}:∀(l:List α) (r:List β),optAll (l.map f)=some r→optAll (l.map λv=>(f v).map h)=some (r.map h)
 |[],r,e=>by cases e;rfl
 |a::l,r,e=>by
  simp only[List.map_cons] at e⊢
  cases ha:f a with
  |none=>rw[ha] at e;cases e
  |some b=>
   rw[ha] at e
   obtain⟨r',hl,rfl⟩:=optAll_cons e
   show(match optAll (l.map λv=>(f v).map h) with|some r=>some (h b::r)|none=>none)=_
   rw[optAll_mapv l r' hl]
   rfl
theorem toD_cells{w:Val}{x:Dat}(h:w.toD=some x)(h1:∀c∈x.cells,c.one=true):optAll (w.cells.map Val.dat?)=some x.cells:=by
 cases w with
 |d y=>
  cases h
  cases x with
  |agg cs=>
   show optAll ((cs.map Val.d).map Val.dat?)=some cs
   rw[List.map_map]
   refine optAll_mk (by simp) λj a b ha hb=>?_
   rw[hb] at ha
   cases ha
   have:=h1 a (List.mem_of_getElem? hb)
   show(if a.one=true then some a else none)=some a
   rw[if_pos this]
  |_=>rfl
 |agg vs=>
  simp only[Val.toD] at h
  cases ho:optAll (vs.map Val.dat?) with
  |none=>rw[ho] at h;cases h
  |some r=>rw[ho] at h;cases h;exact ho
 |own k g m xs=>simp only[Val.toD,Val.dat?] at h;cases h;rfl
 |gown g m xs=>simp only[Val.toD,Val.dat?] at h;cases h;rfl
 |_=>simp only[Val.toD,Val.dat?] at h;cases h
theorem HasTy.cells{t:TypeId}{x:Dat}{tys:List TypeId}(ht:HasTy T t x)(hl:lay T t=some tys):x.cells.length=tys.length∧∀c∈x.cells,c.one=true:=by
 cases ha:isAgg? (T.und t) with
 |true=>
  obtain⟨tys',ds,rfl,hl',hn,h1,hx⟩:=ht.agg_inv ha
  rw[hl] at hl'
  cases hl'
  exact⟨hn.symm,h1⟩
 |false=>
  have h1:=ht.one_inv ha
  have hxc:x.cells=[x]:=by cases x<;>first|rfl|cases h1
  cases hd':T.und t with
  |none=>exfalso;cases ht<;>simp_all[isB0,isP0,isI0,z0,isB,isP,isL,isM,isF,isI,isAgg?]
  |some D=>
   have hl':=lay_one hd' ha
   rw[hl] at hl'
   cases hl'
   rw[hxc]
   exact⟨rfl,λc hc=>by simp at hc;subst hc;exact h1⟩
theorem sStore_ok{p sv:SV}{y w:Val}{u:TypeId}(h:sStore T s o.dst u p sv K)(hc:Conc T s st)(hp:ConcV T s.bc s.tc st.boxes st.toks p y)(hv:ConcV T s.bc s.tc st.boxes st.toks sv w)
 (hd:∀R,doing T R st.esc (Am.ev st.regs) o=doStore T st.esc u y w):OpOk T o st K:=by
 unfold sStore at h
 split at h
 ·rename_i k c off
  split at h
  ·rename_i sb hb
   split at h
   ·rename_i cs vs hsb hcs
    split at h
    ·rename_i hcc
     simp only[Bool.and_eq_true,beq_iff_eq] at hcc
     obtain⟨⟨hcc,hsz⟩,hle⟩:=hcc
     have hle:=Nat.le_of_ble_eq_true hle
     obtain⟨_,g,rfl,hbx⟩:=hp
     obtain⟨g',bx,h1,h2⟩:=hc.boxes k _ hb
     obtain⟨bx',h3⟩:=hbx hcc
     rw[h1] at h3
     cases h3
     cases bx with
     |cells ws=>
      have h2':=concB_cs h2 hsb
      have e1:=concV_cellsAll hv hcs
      have hk:∃A,doStore T st.esc u (.loc k g off) w=some A∧A.apply st=some (.val .undef,{st with boxes:=st.boxes.set k (g,.cells (putAll ws off w.cells))})∧FeetIn T A {box:=some (k,true)}:=by
       unfold doStore
       rw[hsz,e1.1]
       simp only[ne_eq,not_true_eq_false,if_false,e1.all_one,if_true]
       have hle2:off+w.cells.length≤ws.length:=by rw[←h2'.1,←e1.1];exact hle
       refine⟨_,rfl,?_,feet_box rfl rfl rfl⟩
       simp only[Doing.apply,Doing.look,Doing.put,h1,hle2,and_self,if_true]
      obtain⟨A,a1,a2,a3⟩:=hk
      refine⟨A,.undef,_,_,_,λR=>(hd R).trans a1,a2,a3,h,?_⟩
      refine(hc.setBox (bx':=.cells (putAll ws off w.cells)) h1 ?_).put _ (sv:=.junk) trivial
      split
      ·rename_i h0
       simp only[Bool.and_eq_true,beq_iff_eq] at h0
       obtain⟨rfl,hlen⟩:=h0
       have:=putAll_all (cs:=ws) (vs:=w.cells) [] (by rw[←h2'.1,←e1.1,hlen])
       simp only[List.nil_append,List.length_nil] at this
       rw[this]
       exact concB_whole hv hcs e1
      ·exact Els.putAll off h2' e1
     |iter b q=>cases sb<;>first|(cases hsb;done)|exact h2.elim
     |map es c=>cases sb<;>exact h2.elim
    ·exact h.elim
   ·exact h.elim
  ·exact h.elim
 ·rename_i t i off
  split at h
  ·rename_i t' x
   split at h
   ·rename_i tys hl
    split at h
    ·rename_i hcc
     simp only[Bool.and_eq_true,beq_iff_eq] at hcc
     obtain⟨⟨rfl,hsz⟩,hsl⟩:=hcc
     obtain⟨⟨cs,hcs,hle⟩,hk⟩:=h
     have hy:y=.d (.ptr (some (i,off))):=toD_plain hp.1 rfl
     subst hy
     obtain⟨hw,hnr,ht⟩:=hv
     cases hga:ga s.esc with
     |true=>
     obtain⟨c2,c3⟩:=ht.cells hl
     have hgs:ga st.esc=true:=by rw[hc.esc];exact hga
     have hto:optAll (w.cells.map (Val.toGe true))=some (x.cells.map .d):=optAll_mapv _ _ (toD_cells hw c3)
     have hwl:w.cells.length=tys.length:=by
      have:=(optAll_get? hto).1
      simpa[c2] using this
     have hk2:∃A,doStore T st.esc t' (.d (.ptr (some (i,off)))) w=some A∧A.apply st=some (.val .undef,{st with glob:=gput st.glob i off x})∧FeetIn T A {wr:=true}:=by
      unfold doStore
      rw[hsz,hwl]
      rw[←hc.glob] at hcs
      have hle2:off+(x.cells.map GVal.d).length≤cs.length:=by rw[List.length_map,c2];exact hle
      simp only[ne_eq,not_true_eq_false,if_false,hgs,hto]
      refine⟨_,rfl,?_,feet_wr rfl (λk h=>by cases h) rfl rfl⟩
      simp only[Doing.apply,Doing.look,Doing.put,hcs,hle2,if_true,gput]
     obtain⟨A,a1,a2,a3⟩:=hk2
     refine⟨A,.undef,_,_,_,λR=>(hd R).trans a1,a2,a3,hk,?_⟩
     have:=(hc.glob' (gput s.glob i off x)).put o.dst (v:=.undef) (sv:=.junk) trivial
     rw[←hc.glob] at this⊢
     exact this
     |false=>
     have hgs:ga st.esc=false:=by rw[hc.esc];exact hga
     simp only[hga,Bool.false_or,List.all_eq_true,Bool.not_eq_true'] at hsl
     have hcells:w.cells=x.cells.map Val.d∧x.cells.length=tys.length∧∀c∈x.cells,c.one=true∧plainD c=true:=by
      cases ha:isAgg? (T.und t') with
      |true=>
       obtain⟨tys',ds,rfl,hl',hn,h1,hx⟩:=ht.agg_inv ha
       rw[hl] at hl'
       cases hl'
       have hpl:∀c∈ds,c.one=true∧plainD c=true:=λc hcm=>by
        refine⟨h1 c hcm,?_⟩
        obtain⟨j,hj⟩:=List.mem_iff_getElem?.1 hcm
        have hlt:j<tys.length:=by rw[hn];exact(List.getElem?_eq_some_iff.1 hj).1
        have hty:=hx j _ c (List.getElem?_eq_getElem hlt) hj
        have hns:=hsl _ (List.getElem_mem hlt)
        have:=h1 c hcm
        cases hty with
        |sl _ e m xs h=>rw[h] at hns;cases hns
        |gsl _ e k m xs h=>rw[h] at hns;cases hns
        |agg=>cases this
        |_=>rfl
       rcases toD_agg hw with rfl|⟨vs,rfl,ho⟩
       ·exact⟨rfl,hn.symm,hpl⟩
       ·exfalso
        obtain⟨o1,o2⟩:=optAll_get? ho
        have:optAll (vs.map Val.isD)=some ds:=optAll_mk o1 λj a b ha' hb'=>by
         have h3:=o2 j a b ha' hb'
         have:=toD_plain (dat_toD h3) (hpl b (List.mem_of_getElem? hb')).2
         subst this
         rfl
        simp[nrm,this] at hnr
      |false=>
       have h1:=ht.one_inv ha
       have hxc:x.cells=[x]:=by cases x<;>first|rfl|cases h1
       cases hd':T.und t' with
       |none=>exfalso;cases ht<;>simp_all[isB0,isP0,isI0,z0,isB,isP,isL,isM,isF,isI,isAgg?]
       |some D=>
        have hl':=lay_one hd' ha
        rw[hl] at hl'
        cases hl'
        have hns:=hsl t' (by simp)
        have hpl:plainD x=true:=by
         cases ht with
         |sl _ e m xs h=>rw[h] at hns;cases hns
         |gsl _ e k m xs h=>rw[h] at hns;cases hns
         |agg=>cases h1
         |_=>rfl
        have:=toD_plain hw hpl
        subst this
        refine⟨?_,by rw[hxc];rfl,λc hc=>?_⟩
        ·rw[hxc]
         cases x<;>first|rfl|cases h1
        ·rw[hxc] at hc;simp at hc;subst hc;exact⟨h1,hpl⟩
     obtain⟨c1,c2,c3⟩:=hcells
     have hto:optAll (w.cells.map (Val.toGe false))=some (x.cells.map .d):=by
      rw[c1]
      refine optAll_mk (by simp) λj a b ha hb=>?_
      rw[List.getElem?_map] at ha hb
      cases hx:x.cells[j]? with
      |none=>rw[hx] at ha;cases ha
      |some c=>
       rw[hx] at ha hb
       cases ha
       cases hb
       simp[Val.toGe,Val.toG,Val.dat?,(c3 c (List.mem_of_getElem? hx)).1]
     have hk2:∃A,doStore T st.esc t' (.d (.ptr (some (i,off)))) w=some A∧A.apply st=some (.val .undef,{st with glob:=gput st.glob i off x})∧FeetIn T A {wr:=true}:=by
      unfold doStore
      rw[hsz,c1,List.length_map,c2]
      simp only[ne_eq,not_true_eq_false,if_false,hgs]
      rw[←hc.glob] at hcs
      have hle2:off+(x.cells.map GVal.d).length≤cs.length:=by rw[List.length_map,c2];exact hle
      have fin:∃A,(match optAll (w.cells.map (Val.toGe false)) with
       |some gs=>some (Doing.mk none none (some true) λ_ _ gl=>
         match gl.boxes[i]? with
         |some (.cells cs)=>if off+gs.length≤cs.length then some (.val .undef,none,none,{gl with boxes:=gl.boxes.set i (.cells (putAll cs off gs))}) else none
         |_=>none)
       |none=>none)=some A∧A.apply st=some (.val .undef,{st with glob:=gput st.glob i off x})∧FeetIn T A {wr:=true}:=by
       rw[hto]
       refine⟨_,rfl,?_,feet_wr rfl (λk h=>by cases h) rfl rfl⟩
       simp only[Doing.apply,Doing.look,Doing.put,hcs,hle2,if_true,gput]
      rw[c1] at fin
      cases w with
      |own k g m xs=>
       exfalso
       have hh:=congrArg (λl=>l[0]?) c1
       cases hx0:x.cells with
       |nil=>rw[hx0] at hh;cases hh
       |cons a b=>rw[hx0] at hh;simp[Val.cells] at hh
      |_=>exact fin
     obtain⟨A,a1,a2,a3⟩:=hk2
     refine⟨A,.undef,_,_,_,λR=>(hd R).trans a1,a2,a3,hk,?_⟩
     ·have:=(hc.glob' (gput s.glob i off x)).put o.dst (v:=.undef) (sv:=.junk) trivial
      rw[←hc.glob] at this⊢
      exact this
    ·exact h.elim
   ·exact h.elim
  ·exact h.elim
 ·exact h.elim
end Go.Proofs.YtgmapdcdmomioaaGreatDoor.Am
