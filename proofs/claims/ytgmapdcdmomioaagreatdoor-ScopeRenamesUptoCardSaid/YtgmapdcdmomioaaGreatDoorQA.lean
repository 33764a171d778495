/- A plain machine: the model's code over plain values (trees, and boxes that are numbered). Its values, its memory, what each operation does there. The plain machine: regions, code, functions. How the plain machine's memory lies in a world: the relation, and what keeps it. How the plain machine's memory lies in a world: each way in which it changes. How the plain machine's memory lies in a world: slices' spare room, and rows of elements. -/
import Derived.Orders
import Derived.LoopN
import Derived.Laws.AppendOwn
import Derived.Below
import Derived.Laws.Rows
import Derived.Laws.Tables
import Derived.Laws.CopyRow
import Derived.Deep.AppendSrc
import Derived.Deep.MidRow
set_option linter.all false
set_option autoImplicit false
namespace Go.Proofs.YtgmapdcdmomioaaGreatDoor.Am
open Go
inductive Dat where
 |bool (b:Bool)
 |int (k:IntKind) (n:Int)
 |str (s:List UInt8)
 |ptr (a:Option (Nat×Nat))
 |nil
 |sl (m:Nat) (xs:List Dat)
 |gsl (t m:Nat) (xs:List Dat)
 |map (r:Option Nat)
 |clo (f:FuncId) (cap:List Dat)
 |bnd (f:FuncId) (r:Dat)
 |nilFn
 |iface (t:TypeId) (v:Dat)
 |nilIface
 |agg (cs:List Dat)
 deriving Inhabited
def Dat.cells:Dat→List Dat
 |.agg cs=>cs
 |d=>[d]
def Dat.one:Dat→Bool
 |.agg _=>false
 |_=>true
inductive Val where
 |d (x:Dat)
 |loc (k g o:Nat)
 |lmap (k g:Nat)
 |imm (cs:List Dat)
 |own (k g m:Nat) (xs:List Dat)
 |gown (g m:Nat) (xs:List Dat)
 |uq (m:Nat) (xs:List Dat)
 |agg (cs:List Val)
 |tuple (vs:List Val)
 |undef
 deriving Inhabited
def optAll{α:Type}:List (Option α)→Option (List α)
 |[]=>some []
 |some x::l=>match optAll l with
  |some r=>some (x::r)
  |none=>none
 |none::_=>none
def Val.dat?:Val→Option Dat
 |.d x=>if x.one then some x else none
 |.own _ _ m xs=>some (.sl m xs)
 |.gown _ m xs=>some (.sl m xs)
 |_=>none
def Val.cells:Val→List Val
 |.d (.agg cs)=>cs.map .d
 |.agg cs=>cs
 |v=>[v]
def Val.toD:Val→Option Dat
 |.agg cs=>(optAll (cs.map Val.dat?)).map .agg
 |.d x=>some x
 |v=>v.dat?
def Val.one:Val→Bool
 |.d x=>x.one
 |.loc ..|.lmap ..|.imm _|.own ..|.gown ..=>true
 |_=>false
def Val.isD:Val→Option Dat
 |.d x=>some x
 |_=>none
def mkAgg(cs:List Val):Val:=
 match optAll (cs.map Val.isD) with
 |some ds=>.d (.agg ds)
 |none=>.agg cs
def Val.elems:Val→Option (Nat×List Dat)
 |.d .nil=>some (0,[])
 |.d (.sl m xs)|.d (.gsl _ m xs)|.own _ _ m xs|.gown _ m xs=>some (m,xs)
 |_=>none
def setAt{α:Type}:List (Option α)→Nat→α→List (Option α)
 |[],0,v=>[some v]
 |[],n+1,v=>none::setAt [] n v
 |_::l,0,v=>some v::l
 |x::l,n+1,v=>x::setAt l n v
def getAt{α:Type}:List (Option α)→Nat→Option α
 |[],_=>none
 |x::_,0=>x
 |_::l,n+1=>getAt l n
structure Mp(α:Type) where
 rows:List (Option (List (Option α))):=[]
 deriving Inhabited
variable{α:Type}
def Mp.get(m:Mp α)(n:Nat):Option α:=
 match getAt m.rows (n/16) with
 |some r=>getAt r (n%16)
 |none=>none
def Mp.set(m:Mp α)(n:Nat)(v:α):Mp α:=
 match getAt m.rows (n/16) with
 |some r=>⟨setAt m.rows (n/16) (setAt r (n%16) v)⟩
 |none=>⟨setAt m.rows (n/16) (setAt [] (n%16) v)⟩
theorem getAt_nil(j:Nat):getAt ([]:List (Option α)) j=none:=by cases j<;>rfl
theorem getAt_setAt(l:List (Option α))(i j:Nat)(v:α):getAt (setAt l i v) j=if i=j then some v else getAt l j:=by
 induction i generalizing l j with
 |zero=>cases l<;>cases j<;>simp[setAt,getAt]
 |succ i ih=>
  cases l with
  |nil=>cases j<;>simp[setAt,getAt,ih,getAt_nil]
  |cons x l=>cases j<;>simp[setAt,getAt,ih]
theorem setAt_setAt(l:List (Option α))(i:Nat)(v u:α):setAt (setAt l i v) i u=setAt l i u:=by
 induction i generalizing l with
 |zero=>cases l<;>rfl
 |succ i ih=>cases l<;>simp[setAt,ih]
theorem setAt_comm(l:List (Option α))(i j:Nat)(v u:α)(h:i≠j):setAt (setAt l i v) j u=setAt (setAt l j u) i v:=by
 induction i generalizing l j with
 |zero=>cases j with
  |zero=>exact absurd rfl h
  |succ j=>cases l<;>simp[setAt]
 |succ i ih=>cases j with
  |zero=>cases l<;>simp[setAt]
  |succ j=>cases l<;>simp[setAt,ih _ j (by omega)]
theorem Mp.rows_set(m:Mp α)(n:Nat)(v:α):(m.set n v).rows=setAt m.rows (n/16) (setAt ((getAt m.rows (n/16)).getD []) (n%16) v):=by
 unfold Mp.set;cases getAt m.rows (n/16)<;>rfl
theorem Mp.get_set(m:Mp α)(i j:Nat)(v:α):(m.set i v).get j=if i=j then some v else m.get j:=by
 unfold Mp.get
 rw[Mp.rows_set,getAt_setAt]
 by_cases hd:i/16=j/16
 ·simp only[hd,if_true,getAt_setAt]
  by_cases hm:i%16=j%16
  ·have:i=j:=by omega
   simp[this]
  ·have:i≠j:=λe=>hm (by rw[e])
   simp only[hm,this,if_false]
   cases getAt m.rows (j/16)<;>simp[getAt_nil]
 ·have:i≠j:=λe=>hd (by rw[e])
  simp[hd,this]
theorem Mp.get_set_same(m:Mp α)(i:Nat)(v:α):(m.set i v).get i=some v:=by simp[Mp.get_set]
theorem Mp.get_set_ne(m:Mp α){i j:Nat}(v:α)(h:i≠j):(m.set i v).get j=m.get j:=by simp[Mp.get_set,h]
theorem Mp.ext'{a b:Mp α}(h:a.rows=b.rows):a=b:=by cases a;cases b;simp_all
theorem Mp.set_comm(m:Mp α)(i j:Nat)(v u:α)(h:i≠j):(m.set i v).set j u=(m.set j u).set i v:=by
 apply Mp.ext'
 simp only[Mp.rows_set,getAt_setAt]
 by_cases hd:i/16=j/16
 ·have hm:i%16≠j%16:=by omega
  simp only[hd,if_true,Option.getD_some,setAt_setAt]
  rw[setAt_comm _ _ _ _ _ hm]
 ·have hd':j/16≠i/16:=λe=>hd e.symm
  simp only[hd,hd',if_false]
  rw[setAt_comm _ _ _ _ _ hd]
theorem Mp.get_empty(n:Nat):(⟨[]⟩:Mp α).get n=none:=by simp[Mp.get,getAt_nil]
abbrev Entries:=List (Dat×Dat×Nat)
inductive Box where
 |cells (cs:List Val)
 |iter (s:List UInt8) (pos:Nat)
 |map (es:Entries) (clock:Nat)
 deriving Inhabited
inductive GVal where
 |d (x:Dat)
 |own (g m:Nat) (xs:List Dat)
 deriving Inhabited
inductive GBox where
 |cells (cs:List GVal)
 |map (es:Entries) (clock:Nat)
 deriving Inhabited
structure Glob where
 boxes:List GBox:=[]
 toks:List (Nat×Nat):=[]
 deriving Inhabited
structure St where
 nt:Nat
 esc:List Nat
 res:List ResultVar
 defs:List (FuncId×List Dat)
 pin:List (Nat×Nat×Nat)
 regs:Mp Val
 boxes:Mp (Nat×Box)
 toks:Mp (Nat×Option (Nat×Nat))
 glob:Glob
 deriving Inhabited
def GVal.v:GVal→Val
 |.d x=>.d x
 |.own g m xs=>.gown g m xs
inductive Out where
 |val (v:Val)
 |panic (x:Dat)
 deriving Inhabited
structure Tb where
 und:TypeId→Option TypeDesc
 zero:TypeId→Option Dat
 size:TypeId→Option Nat
 bytes:TypeId→Option Nat
 plain:TypeId→Bool
 fn:FuncId→Option Func
 esc:FuncId→List Nat
 ext:FuncId→Option (List Dat→Glob→Option (Out×Glob))
 meth:TypeId→String→Option FuncId
 nn:TypeId→Bool:=λ_=>true
structure Doing where
 box:Option (Nat×Bool):=none
 tok:Option Nat:=none
 glob:Option Bool:=none
 f:Option (Nat×Box)→Option (Nat×Option (Nat×Nat))→Glob→Option (Out×Option (Nat×Box)×Option (Nat×Option (Nat×Nat))×Glob)
def Doing.ret(v:Val):Doing:={f:=λb k g=>some (.val v,b,k,g)}
def Doing.look(A:Doing)(st:St):Option (Nat×Box)×Option (Nat×Option (Nat×Nat))×Glob:=
 (match A.box with|some (k,_)=>st.boxes.get k|none=>none,match A.tok with|some k=>st.toks.get k|none=>none,match A.glob with|some _=>st.glob|none=>⟨[],[]⟩)
def Doing.put(A:Doing)(st:St)(b:Option (Nat×Box))(k:Option (Nat×Option (Nat×Nat)))(g:Glob):St:=
 {st with
  boxes:=match A.box,b with|some (i,true),some x=>st.boxes.set i x|_,_=>st.boxes
  toks:=match A.tok,k with|some i,some x=>st.toks.set i x|_,_=>st.toks
  glob:=match A.glob with|some true=>g|_=>st.glob}
def Doing.apply(A:Doing)(st:St):Option (Out×St):=
 match A.f (A.look st).1 (A.look st).2.1 (A.look st).2.2 with
 |some (out,b,k,g)=>some (out,A.put st b k g)
 |none=>none
def scal:Value→Option Dat
 |.bool b=>some (.bool b)
 |.int k n=>some (.int k n)
 |.string s=>some (.str s.data.toList)
 |.pointer none=>some (.ptr none)
 |.slice none 0 0=>some .nil
 |.map none=>some (.map none)
 |.nilFunc=>some .nilFn
 |.nilIface=>some .nilIface
 |.func (.func f) ⟨[]⟩ ⟨[]⟩=>some (.clo f [])
 |_=>none
def ofV:Value→Option Dat
 |.agg cs=>(optAll (cs.toList.map scal)).map .agg
 |.iface t (.agg cs)=>(optAll (cs.toList.map scal)).map λx=>.iface t (.agg x)
 |.iface t v=>(scal v).map (.iface t)
 |v=>scal v
def ev(regs:Mp Val):Operand→Val
 |.tmp t=>(regs.get t).getD .undef
 |.const v=>match ofV v with
  |some x=>.d x
  |none=>.undef
 |.func f=>.d (.clo f [])
 |.global _=>.undef
def isB:Option TypeDesc→Bool
 |some .bool=>true
 |_=>false
def isI:Option TypeDesc→Bool
 |some (.interface _)=>true
 |_=>false
def isF:Option TypeDesc→Bool
 |some (.func ..)=>true
 |_=>false
def isP:Option TypeDesc→Bool
 |some (.pointer _)=>true
 |_=>false
def isS:Option TypeDesc→Bool
 |some .string=>true
 |_=>false
def isL:Option TypeDesc→Bool
 |some (.slice _)=>true
 |_=>false
def isU8:Option TypeDesc→Bool
 |some (.int .u8)=>true
 |_=>false
def isK:Operand→Bool
 |.const _=>true
 |_=>false
def isAggD:TypeDesc→Bool
 |.struct _|.array _ _=>true
 |_=>false
variable(T:Tb)
def loadV(t:TypeId)(cs:List Val):Option Val:=
 match T.und t,T.size t with
 |some d,some n=>if isAggD d then(if n≤cs.length then some (mkAgg (cs.take n)) else none) else cs.head?
 |_,_=>none
def loadD(t:TypeId)(cs:List Dat):Option Dat:=
 match T.und t,T.size t with
 |some d,some n=>if isAggD d then(if n≤cs.length then some (.agg (cs.take n)) else none) else cs.head?
 |_,_=>none
def putAll{β:Type}:List β→Nat→List β→List β
 |cs,_,[]=>cs
 |cs,o,v::vs=>putAll (cs.set o v) (o+1) vs
def doLoad(t:TypeId):Val→Option Doing
 |.loc k g o=>some (Doing.mk (some (k,false)) none none λb _ gl=>
  match b with
  |some (g',.cells cs)=>if g'=g then(match loadV T t (cs.drop o) with|some v=>some (.val v,none,none,gl)|none=>none) else none
  |_=>none)
 |.imm cs=>match loadD T t cs with
  |some x=>some (.ret (.d x))
  |none=>none
 |.d (.ptr (some (i,o)))=>some (Doing.mk none none (some false) λ_ _ gl=>
  match gl.boxes[i]? with
  |some (.cells cs)=>(match loadV T t ((cs.drop o).map GVal.v) with|some v=>some (.val v,none,none,gl)|none=>none)
  |_=>none)
 |_=>none
def Val.toG:Val→Option GVal
 |.gown g m xs=>some (.own g m xs)
 |v=>v.dat?.map .d
def ga(esc:List Nat):Bool:=esc.contains 1000000
def Val.toGe(e:Bool)(v:Val):Option GVal:=if e then v.dat?.map .d else v.toG
def doStore(esc:List Nat)(t:TypeId)(p v:Val):Option Doing:=
 if T.size t≠some v.cells.length then none else
 match p with
 |.loc k g o=>if v.cells.all Val.one then some (Doing.mk (some (k,true)) none none λb _ gl=>
  match b with
  |some (g',.cells cs)=>if g'=g∧o+v.cells.length≤cs.length then some (.val .undef,some (g',.cells (putAll cs o v.cells)),none,gl) else none
  |_=>none) else none
 |.d (.ptr (some (i,o)))=>
  match ga esc,v with
  |false,.own k g m xs=>some (Doing.mk none (some k) (some true) λ_ kc gl=>
   match gl.boxes[i]? with
   |some (.cells cs)=>
    if o+1≤cs.length then
     (if kc=some (g,some (m,xs.length)) then some (.val .undef,none,some (g,none),{boxes:=gl.boxes.set i (.cells (cs.set o (.own gl.toks.length m xs))),toks:=gl.toks++[(m,xs.length)]})
      else some (.val .undef,none,none,{gl with boxes:=gl.boxes.set i (.cells (cs.set o (.d (.sl m xs))))}))
    else none
   |_=>none)
  |_,_=>match optAll (v.cells.map (Val.toGe (ga esc))) with
   |some gs=>some (Doing.mk none none (some true) λ_ _ gl=>
    match gl.boxes[i]? with
    |some (.cells cs)=>if o+gs.length≤cs.length then some (.val .undef,none,none,{gl with boxes:=gl.boxes.set i (.cells (putAll cs o gs))}) else none
    |_=>none)
   |none=>none
 |_=>none
def newBox(esc:List Nat)(dst:Option Nat)(cs:List Val):Option Doing:=
 match dst with
 |none=>none
 |some k=>
  if cs.all Val.one then
   if esc.contains k then
    match optAll (cs.map Val.dat?) with
    |some ds=>some (Doing.mk none none (some true) λ_ _ gl=>some (.val (.d (.ptr (some (gl.boxes.length,0)))),none,none,{gl with boxes:=gl.boxes++[.cells (ds.map .d)]}))
    |none=>none
   else some (Doing.mk (some (k,true)) none none λb _ gl=>
    match b with
    |some (g,_)=>some (.val (.loc k (g+1) 0),some (g+1,.cells cs),none,gl)
    |none=>some (.val (.loc k 0 0),some (0,.cells cs),none,gl))
  else none
def newOwn(k m:Nat)(xs:List Dat):Doing:=(Doing.mk none (some k) none λ_ kc gl=>
 match kc with
 |some (g,_)=>some (.val (.own k (g+1) m xs),none,some (g+1,some (m,xs.length)),gl)
 |none=>some (.val (.own k 0 m xs),none,some (0,some (m,xs.length)),gl))
def newGown(m:Nat)(xs:List Dat):Doing:=Doing.mk none none (some true) λ_ _ gl=>
 some (.val (.d (.gsl gl.toks.length m xs)),none,none,{gl with toks:=gl.toks++[(m,xs.length)]})
def fits(n bytes:Nat):Bool:=n≤2^40&&n*bytes≤2^46
def slElem(t:TypeId):Option TypeId:=
 match T.und t with
 |some (.slice e)=>some e
 |_=>none
def doBuildSlice(esc:List Nat)(t:TypeId)(len:Nat)(parts:List (Nat×Val))(dst:Option Nat):Option Doing:=
 match dst,slElem T t with
 |some k,some e=>
  match T.size e,T.zero e with
  |some m,some z=>
   if 0<m∧len*m≤2^24∧z.cells.length=m then
    match optAll (parts.map λp=>match p.2.toD with
     |some x=>if x.cells.length=m∧p.1<len then some (p.1,x) else none
     |none=>none) with
    |some ps=>some (if ga esc then newGown m (ps.foldl (λl p=>l.set p.1 p.2) (List.replicate len z)) else newOwn k m (ps.foldl (λl p=>l.set p.1 p.2) (List.replicate len z)))
    |none=>none
   else none
  |_,_=>none
 |_,_=>none
def doMakeSlice(t:TypeId)(len cap:Val)(dst:Option Nat):Option Doing:=
 match dst,slElem T t,len,cap with
 |some k,some e,.d (.int _ n),.d (.int _ c)=>
  match T.size e,T.zero e,T.bytes e with
  |some m,some z,some by'=>
   if 0<m∧z.cells.length=m∧0≤n∧n≤c∧fits c.toNat by' then some (newOwn k m (List.replicate n.toNat z)) else none
  |_,_,_=>none
 |_,_,_,_=>none
def srcElems(tx:TypeId):Val→Option (Nat×List Dat)
 |.d (.str b)=>if isS (T.und tx) then some (1,b.map λ(c:UInt8)=>Dat.int .u8 c.toNat) else none
 |x=>if isL (T.und tx) then x.elems else none
def doAppend(esc:List Nat)(t tx:TypeId)(s x:Val)(dst:Option Nat):Option Doing:=
 match slElem T t with
 |none=>none
 |some e=>
  match T.size e,T.bytes e,T.zero e,srcElems T tx x with
  |some m,some by',some z,some (m',ys)=>
   if 0<m∧z.cells.length=m then
    if ys.isEmpty then(if s.elems.isSome then some (.ret s) else none)
    else if m'≠m then none else
    match s with
    |.d .nil=>if fits ys.length by' then(if ga esc then some (newGown m ys) else dst.map λk=>newOwn k m ys) else none
    |.own k g mo xs=>
     if mo=m∧fits (xs.length+ys.length) by' then some (Doing.mk none (some k) none λ_ kc gl=>
      if kc=some (g,some (m,xs.length)) then some (.val (.own k g m (xs++ys)),none,some (g,some (m,xs.length+ys.length)),gl) else none) else none
    |.d (.gsl g mo xs)=>
     if mo=m∧fits (xs.length+ys.length) by' then some (Doing.mk none none (some true) λ_ _ gl=>
      if gl.toks[g]?=some (m,xs.length) then some (.val (.d (.gsl g m (xs++ys))),none,none,{gl with toks:=gl.toks.set g (m,xs.length+ys.length)}) else none) else none
    |.gown g mo xs=>
     if mo=m∧fits (xs.length+ys.length) by' then some (Doing.mk none none (some true) λ_ _ gl=>
      if gl.toks[g]?=some (m,xs.length) then some (.val (.gown g m (xs++ys)),none,none,{gl with toks:=gl.toks.set g (m,xs.length+ys.length)}) else none) else none
    |_=>none
   else none
  |_,_,_,_=>none
def intOf?:Val→Option Int
 |.d (.int _ n)=>some n
 |_=>none
def bound(x:Option Val)(dflt:Nat):Option Nat:=
 match x with
 |none=>some dflt
 |some v=>match intOf? v with
  |some n=>if 0≤n then some n.toNat else none
  |none=>none
def doSlice(t:TypeId)(x:Val)(lo hi mx:Option Val):Option Doing:=
 match T.und t,x with
 |some .string,.d (.str s)=>
  match bound lo 0,bound hi s.length,mx with
  |some l,some h,none=>if l≤h∧h≤s.length then some (.ret (.d (.str ((s.take h).drop l)))) else none
  |_,_,_=>none
 |some (.slice e),x=>
  match x.elems,T.size e with
  |some (m,xs),some m'=>
   if (m≠m'∧xs.isEmpty=false)∨(mx.isSome∧hi.isNone) then none else
   match bound lo 0,bound hi xs.length,bound mx xs.length with
   |some l,some h,some c=>
    if l≤h∧h≤c∧c≤xs.length then
     if mx.isSome∧c=l then some (.ret (.d .nil))
     else if mx.isNone∧l=0∧h=xs.length then some (.ret x)
     else some (.ret (.d (.sl m' ((xs.take h).drop l))))
    else none
   |_,_,_=>none
  |_,_=>none
 |_,_=>none
def doIndexAddr(t:TypeId)(x ix:Val):Option Doing:=
 match T.und t,ix with
 |some (.slice e),.d (.int _ i)=>
  match x.elems,T.size e with
  |some (m,xs),some m'=>if m=m'∧0≤i then(match xs[i.toNat]? with|some y=>some (.ret (.imm y.cells))|none=>none) else none
  |_,_=>none
 |some (.array n e),.d (.int _ i)=>
  match T.size e with
  |some m=>if 0<m∧0≤i∧i<n then(match x with
   |.loc k g o=>some (.ret (.loc k g (o+i.toNat*m)))
   |.imm cs=>some (.ret (.imm (cs.drop (i.toNat*m))))
   |.d (.ptr (some (b,o)))=>some (.ret (.d (.ptr (some (b,o+i.toNat*m)))))
   |_=>none) else none
  |none=>none
 |_,_=>none
def doIndex(t:TypeId)(x ix:Val):Option Doing:=
 match T.und t,x,ix with
 |some .string,.d (.str s),.d (.int _ i)=>if 0≤i then(match s[i.toNat]? with|some b=>some (.ret (.d (.int .u8 b.toNat)))|none=>none) else none
 |some (.array n e),.d (.agg cs),.d (.int _ i)=>(match T.size e with
  |some m=>if 0≤i∧i<(n:Int) then(loadD T e (cs.drop (i.toNat*m))).map λx=>.ret (.d x) else none
  |none=>none)
 |some (.array n e),.agg cs,.d (.int _ i)=>(match T.size e with
  |some m=>if 0≤i∧i<(n:Int) then(loadV T e (cs.drop (i.toNat*m))).map .ret else none
  |none=>none)
 |_,_,_=>none
def arrFields(n m:Nat)(e:TypeId):Array Field:=((List.range n).map λi=>({name:= "",type:=e,offset:=i*m,embedded:=false,tag:= "",pkgPath:= "",byteOffset:=0}:Field)).toArray
def partsT(t:TypeId):Option (Array Field):=
 match T.und t with
 |some (.struct fs)=>some fs
 |some (.array n e)=>(match T.size e with
  |some m=>some (arrFields n m e)
  |none=>none)
 |_=>none
theorem arrFields_get{n m:Nat}{e:TypeId}{i:Nat}{fd:Field}(h:(arrFields n m e)[i]?=some fd):fd.type=e∧fd.offset=i*m:=by
 simp only[arrFields,List.getElem?_toArray,List.getElem?_map,Option.map_eq_some_iff] at h
 obtain⟨j,hj,rfl⟩:=h
 rw[List.getElem?_range (by have:=(List.getElem?_eq_some_iff.1 hj).1;simpa using this)] at hj
 cases hj
 exact⟨rfl,rfl⟩
theorem partsT_inv{T:Tb}{t:TypeId}{fs:Array Field}(h:partsT T t=some fs):T.und t=some (.struct fs)∨∃n e m,T.und t=some (.array n e)∧T.size e=some m∧fs=arrFields n m e:=by
 unfold partsT at h
 split at h
 ·rename_i fs' hu
  cases h
  exact .inl hu
 ·rename_i n e hu
  split at h
  ·rename_i m hm
   cases h
   exact .inr ⟨n,e,m,hu,hm,rfl⟩
  ·cases h
 ·cases h
def fieldOf(s:TypeId)(f:Nat):Option Field:=
 match T.und s with
 |some (.struct fs)=>fs[f]?
 |_=>none
def doFieldAddr(s:TypeId)(x:Val)(f:Nat):Option Doing:=
 match fieldOf T s f with
 |some fd=>
  match T.size fd.type with
  |some n=>if n=0 then none else(match x with
   |.loc k g o=>some (.ret (.loc k g (o+fd.offset)))
   |.imm cs=>some (.ret (.imm (cs.drop fd.offset)))
   |.d (.ptr (some (b,o)))=>some (.ret (.d (.ptr (some (b,o+fd.offset)))))
   |_=>none)
  |none=>none
 |none=>none
def doField(s:TypeId)(x:Val)(f:Nat):Option Doing:=
 match fieldOf T s f,x with
 |some fd,.d (.agg cs)=>(loadD T fd.type (cs.drop fd.offset)).map λx=>.ret (.d x)
 |some fd,.agg cs=>(loadV T fd.type (cs.drop fd.offset)).map .ret
 |_,_=>none
def buildAll(fs:Array Field):List Val→List (Nat×Val)→Option (List Val)
 |cs,[]=>some cs
 |cs,(i,v)::r=>
  match fs[i]? with
  |some fd=>if T.size fd.type=some v.cells.length∧fd.offset+v.cells.length≤cs.length∧v.cells.all Val.one=true then buildAll fs (putAll cs fd.offset v.cells) r else none
  |none=>none
def doBuild(t:TypeId)(parts:List (Nat×Val)):Option Doing:=
 match partsT T t,T.zero t with
 |some fs,some z=>
  if fs.all (λfd=>(T.size fd.type).isSome) then
   match buildAll T fs (z.cells.map .d) parts with
   |some cs=>if cs.all Val.one then some (.ret (mkAgg cs)) else none
   |none=>none
  else none
 |_,_=>none
def doNilCheck:Val→Option Doing
 |.loc k g o=>some (.ret (.loc k g o))
 |.imm cs=>some (.ret (.imm cs))
 |.d (.ptr (some a))=>some (.ret (.d (.ptr (some a))))
 |.d (.clo f c)=>some (.ret (.d (.clo f c)))
 |.d (.bnd f c)=>some (.ret (.d (.bnd f c)))
 |.d (.iface t v)=>some (.ret (.d (.iface t v)))
 |_=>none
def ptrNil:Val→Option Bool
 |.loc ..|.imm _|.d (.ptr (some _))=>some false
 |.d (.ptr none)=>some true
 |_=>none
def intBin(op:BinOp)(k:IntKind)(a b:Int):Option Dat:=
 match op with
 |.add=>some (.int k (k.wrap (a+b)))
 |.sub=>some (.int k (k.wrap (a-b)))
 |.mul=>some (.int k (k.wrap (a*b)))
 |.quo=>if b=0 then none else some (.int k (k.wrap (a.tdiv b)))
 |.rem=>if b=0 then none else some (.int k (a.tmod b))
 |.and=>some (.int k (k.wrap (BitVec.ofInt k.bits a &&& BitVec.ofInt k.bits b).toNat))
 |.or=>some (.int k (k.wrap (BitVec.ofInt k.bits a ||| BitVec.ofInt k.bits b).toNat))
 |.xor=>some (.int k (k.wrap (BitVec.ofInt k.bits a^^^BitVec.ofInt k.bits b).toNat))
 |.eql=>some (.bool (a==b))
 |.neq=>some (.bool (a !=b))
 |.lss=>some (.bool (decide (a<b)))
 |.leq=>some (.bool (decide (a≤b)))
 |.gtr=>some (.bool (decide (b<a)))
 |.geq=>some (.bool (decide (b≤a)))
 |_=>none
def shiftBin(op:BinOp)(k:IntKind)(a b:Int):Option Dat:=
 if b<0 then none else
 match op with
 |.shl=>some (.int k (k.wrap (a*2^(min b.toNat k.bits))))
 |.shr=>some (.int k (a.fdiv (2^(min b.toNat k.bits))))
 |_=>none
def strBin(op:BinOp)(a b:List UInt8):Option Dat:=
 match op with
 |.add=>if a.length+b.length≤2^40 then some (.str (a++b)) else none
 |.eql=>some (.bool (a==b))
 |.neq=>some (.bool (!(a==b)))
 |.lss=>some (.bool (Op.bytesLess a b))
 |.leq=>some (.bool (Op.bytesLess a b||a==b))
 |.gtr=>some (.bool (!(Op.bytesLess a b||a==b)))
 |.geq=>some (.bool (!Op.bytesLess a b))
 |_=>none
def isShift:BinOp→Bool
 |.shl|.shr=>true
 |_=>false
def eqlBin(op:BinOp)(e:Bool):Option Dat:=
 match op with
 |.eql=>some (.bool e)
 |.neq=>some (.bool !e)
 |_=>none
def keyOk(kt:TypeId)(k:Dat):Bool:=
 match T.und kt,k with
 |some (.int k),.int k' _=>k==k'
 |some .string,.str _=>true
 |some .bool,.bool _=>true
 |_,_=>false
def keyEq:Dat→Dat→Option Bool
 |.int k a,.int k' b=>if k=k' then some (a==b) else none
 |.str a,.str b=>some (a==b)
 |.bool a,.bool b=>some (a==b)
 |_,_=>none
def eqFields(a b:List Dat):List Field→Option Bool
 |[]=>some true
 |f::fs=>
  if f.name= "_" then none else
  match a[f.offset]?,b[f.offset]? with
  |some x,some y=>if keyOk T f.type x&&keyOk T f.type y then(match keyEq x y with
   |some true=>eqFields a b fs
   |r=>r) else none
  |_,_=>none
def doBin(op:BinOp)(t:TypeId)(x y:Operand)(a b:Val):Option Doing:=
 match a,b with
 |.d (.int k m),.d (.int k' n)=>
  if isShift op then(shiftBin op k m n).map λx=>.ret (.d x)
  else if k=k' then(intBin op k m n).map λx=>.ret (.d x) else none
 |.d (.str m),.d (.str n)=>(strBin op m n).map λx=>.ret (.d x)
 |.d (.agg m),.d (.agg n)=>match T.und t with
  |some (.struct fs)=>if T.plain t then(match eqFields T m n fs.toList with
   |some e=>(eqlBin op e).map λx=>.ret (.d x)
   |none=>none) else none
  |_=>none
 |.d (.bool m),.d (.bool n)=>if isB (T.und t) then(eqlBin op (m==n)).map λx=>.ret (.d x) else none
 |.d .nilIface,.d .nilIface=>if isI (T.und t)&&(isK x||isK y) then(eqlBin op true).map λx=>.ret (.d x) else none
 |.d (.iface _ _),.d .nilIface|.d .nilIface,.d (.iface _ _)=>if isI (T.und t) then(eqlBin op false).map λx=>.ret (.d x) else none
 |.d .nilFn,.d .nilFn=>if isF (T.und t) then(eqlBin op true).map λx=>.ret (.d x) else none
 |.d (.clo ..),.d .nilFn|.d .nilFn,.d (.clo ..)=>if isF (T.und t) then(eqlBin op false).map λx=>.ret (.d x) else none
 |.d (.bnd ..),.d .nilFn|.d .nilFn,.d (.bnd ..)=>if isF (T.und t) then(eqlBin op false).map λx=>.ret (.d x) else none
 |a,b=>match ptrNil a,ptrNil b with
  |some true,some n|some n,some true=>if isP (T.und t) then(eqlBin op n).map λx=>.ret (.d x) else none
  |_,_=>none
def doUn(op:UnOp):Val→Option Doing
 |.d (.bool b)=>match op with
  |.not=>some (.ret (.d (.bool !b)))
  |_=>none
 |.d (.int k n)=>match op with
  |.neg=>some (.ret (.d (.int k (k.wrap (0-n)))))
  |.xor=>some (.ret (.d (.int k (k.wrap (BitVec.ofInt k.bits (if k.signed then -1 else k.max)^^^BitVec.ofInt k.bits n).toNat))))
  |_=>none
 |_=>none
def bytesOf:List Dat→Option (List UInt8)
 |[]=>some []
 |.int .u8 n::l=>(bytesOf l).map (UInt8.ofNat n.toNat::·)
 |_::_=>none
def doConvert(src dst:TypeId)(x:Val):Option Doing:=
 match T.und src,T.und dst,x with
 |some _,some (.int k),.d (.int _ n)=>some (.ret (.d (.int k (k.wrap n))))
 |some _,some .string,.d (.int _ n)=>some (.ret (.d (.str (Utf8.encode n).data.toList)))
 |some _,some .string,.d (.str s)=>some (.ret (.d (.str s)))
 |some .string,some (.slice e),.d (.str s)=>if isU8 (T.und e)&&decide (s.length≤2^40) then some (.ret (.d (.sl 1 (s.map λ(c:UInt8)=>Dat.int .u8 c.toNat)))) else none
 |some (.slice e),some .string,x=>
  match x.elems with
  |some (_,xs)=>if isU8 (T.und e) then(bytesOf xs).map λs=>.ret (.d (.str s)) else none
  |none=>none
 |_,_,_=>none
def doIface(t:TypeId)(x:Val):Option Doing:=
 match T.und t,x.toD with
 |some (.interface _),_=>none
 |some _,some y=>some (.ret (.d (.iface t y)))
 |_,_=>none
def doFunc(fn:Fn)(first captured:List Val):Option Doing:=
 match fn,first,optAll (captured.map Val.toD) with
 |.func f,[],some cs=>some (.ret (.d (.clo f cs)))
 |.func f,[r],some []=>r.toD.map λd=>.ret (.d (.bnd f d))
 |_,_,_=>none
def findK(k:Dat):Entries→Nat→Option (Option (Nat×Dat))
 |[],_=>some none
 |e::es,i=>
  match keyEq k e.1 with
  |some true=>some (some (i,e.2.1))
  |some false=>findK k es (i+1)
  |none=>none
def mapTy(t:TypeId):Option (TypeId×TypeId):=
 match T.und t with
 |some (.map k e)=>some (k,e)
 |_=>none
def onMap(wr:Bool)(m:Val)(f:Entries→Nat→Option (Val×Entries×Nat)):Option Doing:=
 match m with
 |.lmap k g=>some (Doing.mk (some (k,wr)) none none λb _ gl=>
  match b with
  |some (g',.map es c)=>if g'=g then(match f es c with|some (v,es',c')=>some (.val v,some (g',.map es' c'),none,gl)|none=>none) else none
  |_=>none)
 |.d (.map (some i))=>some (Doing.mk none none (some wr) λ_ _ gl=>
  match gl.boxes[i]? with
  |some (.map es c)=>(match f es c with|some (v,es',c')=>some (.val v,none,none,{gl with boxes:=gl.boxes.set i (.map es' c')})|none=>none)
  |_=>none)
 |_=>none
def found(z:Dat)(ok:Bool)(r:Option (Nat×Dat)):Val:=
 match ok,r with
 |true,some (_,v)=>.tuple [.d v,.d (.bool true)]
 |true,none=>.tuple [.d z,.d (.bool false)]
 |false,some (_,v)=>.d v
 |false,none=>.d z
def doLookup(t:TypeId)(m k:Val)(ok:Bool):Option Doing:=
 match mapTy T t,k with
 |some (kt,e),.d k=>
  match T.zero e with
  |some z=>if keyOk T kt k then
   match m with
   |.d (.map none)=>some (.ret (found z ok none))
   |m=>onMap false m λes c=>(findK k es 0).map λr=>(found z ok r,es,c)
   else none
  |none=>none
 |_,_=>none
def putK(k v:Dat)(es:Entries)(c:Nat):Option (Entries×Nat):=
 match findK k es 0 with
 |some (some (i,_))=>some (es.modify i λe=>(k,v,e.2.2),c)
 |some none=>some (es++[(k,v,c)],c+1)
 |none=>none
def doMapUpdate(t:TypeId)(m k v:Val):Option Doing:=
 match mapTy T t,k,v.toD with
 |some (kt,_),.d k,some x=>if keyOk T kt k then onMap true m λes c=>(putK k x es c).map λr=>(.undef,r.1,r.2) else none
 |_,_,_=>none
def entryK(z k:Dat)(es:Entries)(c:Nat):Option (Val×Entries×Nat):=
 match findK k es 0 with
 |some (some (i,v))=>match es[i]? with
  |some e=>some (.tuple [.d v,.d (.int .i64 e.2.2)],es.modify i λe=>(k,e.2),c)
  |none=>none
 |some none=>some (.tuple [.d z,.d (.int .i64 c)],es++[(k,z,c)],c+1)
 |none=>none
def doMapEntry(t:TypeId)(m k:Val):Option Doing:=
 match mapTy T t,k with
 |some (kt,e),.d k=>
  match T.zero e with
  |some z=>if keyOk T kt k then onMap true m (entryK z k) else none
  |none=>none
 |_,_=>none
def doEntryStore(m s v:Val):Option Doing:=
 match s,v.toD with
 |.d (.int _ n),some x=>onMap true m λes c=>match es.findIdx? (λe=>(e.2.2:Int)==n) with
  |some i=>some (.undef,es.modify i λe=>(e.1,x,e.2.2),c)
  |none=>none
 |_,_=>none
def doDelete(t:TypeId)(m k:Val):Option Doing:=
 match mapTy T t,k with
 |some (kt,_),.d k=>if keyOk T kt k then onMap true m λes c=>(findK k es 0).map λr=>match r with
  |some (i,_)=>(.tuple [],es.eraseIdx i,c)
  |none=>(.tuple [],es,c)
  else none
 |_,_=>none
def doMakeMap(esc:List Nat)(dst:Option Nat)(r:Option Val):Option Doing:=
 match dst,(match r with|none=>true|some v=>(intOf? v).isSome) with
 |some k,true=>
  if esc.contains k then some (Doing.mk none none (some true) λ_ _ gl=>some (.val (.d (.map (some gl.boxes.length))),none,none,{gl with boxes:=gl.boxes++[.map [] 0]}))
  else some (Doing.mk (some (k,true)) none none λb _ gl=>
   match b with
   |some (g,_)=>some (.val (.lmap k (g+1)),some (g+1,.map [] 0),none,gl)
   |none=>some (.val (.lmap k 0),some (0,.map [] 0),none,gl))
 |_,_=>none
def doRange(t:TypeId)(x:Val)(dst:Option Nat):Option Doing:=
 match dst,T.und t,x with
 |some k,some .string,.d (.str s)=>some (Doing.mk (some (k,true)) none none λb _ gl=>
  match b with
  |some (g,_)=>some (.val (.loc k (g+1) 0),some (g+1,.iter s 0),none,gl)
  |none=>some (.val (.loc k 0 0),some (0,.iter s 0),none,gl))
 |_,_,_=>none
def doNext(it:Val)(isString:Bool):Option Doing:=
 match it,isString with
 |.loc k g 0,true=>some (Doing.mk (some (k,true)) none none λb _ gl=>
  match b with
  |some (g',.iter s pos)=>
   if g'=g then
    if pos<s.length then
     some (.val (.tuple [.d (.bool true),.d (.int .i64 pos),.d (.int .i32 (Utf8.decode ⟨s.toArray⟩ pos).1)]),some (g',.iter s (pos+(Utf8.decode ⟨s.toArray⟩ pos).2)),none,gl)
    else some (.val (.tuple [.d (.bool false)]),some (g',.iter s pos),none,gl)
   else none
  |_=>none)
 |_,_=>none
def doAssert(x:Val)(asserted:TypeId)(ok:Bool):Option Doing:=
 match T.und asserted,x with
 |some (.interface _),_=>none
 |some _,.d .nilIface=>if ok then(match T.zero asserted with|some z=>some (.ret (.tuple [.d z,.d (.bool false)]))|none=>none) else none
 |some _,.d (.iface t v)=>
  if t=asserted then some (.ret (if ok then .tuple [.d v,.d (.bool true)] else .d v))
  else if ok then(match T.zero asserted with|some z=>some (.ret (.tuple [.d z,.d (.bool false)]))|none=>none) else none
 |_,_=>none
def doLen(t:TypeId)(x:Val):Option Doing:=
 match T.und t,x with
 |some .string,.d (.str s)=>some (.ret (.d (.int .i64 s.length)))
 |some (.slice _),x=>x.elems.map λr=>.ret (.d (.int .i64 r.2.length))
 |some (.map _ _),.d (.map none)=>some (.ret (.d (.int .i64 0)))
 |some (.map _ _),m=>onMap false m λes c=>some (.d (.int .i64 es.length),es,c)
 |some (.array n _),_=>some (.ret (.d (.int .i64 n)))
 |_,_=>none
def maxes(gt:Bool):Int→List Val→Option Int
 |a,[]=>some a
 |a,.d (.int .i64 b)::l=>maxes gt (if gt then(if b>a then b else a) else(if b<a then b else a)) l
 |_,_=>none
def doBuiltin(esc:List Nat)(b:Builtin)(ts:List TypeId)(args:List Val)(dst:Option Nat):Option Doing:=
 match b,ts,args with
 |.len,t::_,[x]=>doLen T t x
 |.append,[t,tx],[s,x]=>doAppend T esc t tx s x dst
 |.delete,t::_,[m,k]=>doDelete T t m k
 |.max,_,.d (.int .i64 a)::l=>(maxes true a l).map λn=>.ret (.d (.int .i64 n))
 |.min,_,.d (.int .i64 a)::l=>(maxes false a l).map λn=>.ret (.d (.int .i64 n))
 |_,_,_=>none
abbrev Caller:=FuncId→List Dat→Glob→Option (Out×Glob)
def noUq1:Val→Val
 |.uq m xs=>.d (.sl m xs)
 |v=>v
def adopt1(k g:Nat):List Val→List Val×Option (Nat×Nat)
 |[]=>([],none)
 |.uq m xs::l=>(.own k g m xs::l.map noUq1,some (m,xs.length))
 |v::l=>let r:=adopt1 k g l;(v::r.1,r.2)
def adopt(k g:Nat):Val→Val×Option (Nat×Nat)
 |.uq m xs=>(.own k g m xs,some (m,xs.length))
 |.tuple vs=>let r:=adopt1 k g vs;(.tuple r.1,r.2)
 |v=>(v,none)
def noUq:Val→Val
 |.tuple vs=>.tuple (vs.map noUq1)
 |v=>noUq1 v
def genOf:Option (Nat×Option (Nat×Nat))→Nat
 |some (g,_)=>g+1
 |none=>0
def doCall(R:Caller)(f:FuncId)(ds:List Dat)(dst:Option Nat):Doing:=
 match dst with
 |none=>(Doing.mk none none (some true) λ_ _ gl=>
  match R f ds gl with
  |some (.val v,gl')=>some (.val (noUq v),none,none,gl')
  |some (.panic x,gl')=>some (.panic x,none,none,gl')
  |none=>none)
 |some k=>(Doing.mk none (some k) (some true) λ_ kc gl=>
  match R f ds gl with
  |some (.val v,gl')=>(match adopt k (genOf kc) v with
   |(v',some n)=>some (.val v',none,some (genOf kc,some n),gl')
   |(v',none)=>some (.val v',none,none,gl'))
  |some (.panic x,gl')=>some (.panic x,none,none,gl')
  |none=>none)
def doing(R:Caller)(esc:List Nat)(e:Operand→Val)(o:Oper):Option Doing:=
 match o.op with
 |.move x|.assign x=>some (.ret (e x))
 |.pick c a b=>match e c with
  |.d (.bool true)=>some (.ret (e a))
  |.d (.bool false)=>some (.ret (e b))
  |_=>none
 |.alloc t=>match T.zero t with
  |some z=>newBox esc o.dst (z.cells.map .d)
  |none=>none
 |.box _ x=>newBox esc o.dst (e x).cells
 |.build t ps=>doBuild T t (ps.toList.map λp=>(p.1,e p.2))
 |.buildSlice t n ps=>doBuildSlice T esc t n (ps.toList.map λp=>(p.1,e p.2)) o.dst
 |.load t a=>doLoad T t (e a)
 |.store t a x=>doStore T esc t (e a) (e x)
 |.nilCheck x=>doNilCheck (e x)
 |.binOp op t x y _=>doBin T op t x y (e x) (e y)
 |.unOp op _ x=>doUn op (e x)
 |.convert s t x=>doConvert T s t (e x)
 |.makeInterface t x=>doIface T t (e x)
 |.makeFunc fn first cap=>doFunc fn (first.toList.map e) (cap.toList.map e)
 |.makeMap t r=>if r.isNone||(mapTy T t).isSome then doMakeMap esc o.dst (r.map e) else none
 |.makeSlice t l c=>doMakeSlice T t (e l) (e c) o.dst
 |.slice t x lo hi mx=>doSlice T t (e x) (lo.map e) (hi.map e) (mx.map e)
 |.fieldAddr s x f=>doFieldAddr T s (e x) f
 |.field s x f=>doField T s (e x) f
 |.indexAddr t x i=>doIndexAddr T t (e x) (e i)
 |.index t x i=>doIndex T t (e x) (e i)
 |.lookup t x i ok=>doLookup T t (e x) (e i) ok
 |.mapUpdate t m k x|.insert t m k x=>doMapUpdate T t (e m) (e k) (e x)
 |.mapEntry t m k=>doMapEntry T t (e m) (e k)
 |.entryStore _ m s x=>doEntryStore (e m) (e s) (e x)
 |.range t x=>doRange T t (e x) o.dst
 |.next it s=>doNext (e it) s
 |.typeAssert x _ t ok=>doAssert T (e x) t ok
 |.extract t i=>match e t with
  |.tuple vs=>(vs[i]?).map .ret
  |_=>none
 |.panic x=>match e x with
  |.d (.iface t v)=>some (Doing.mk none none (some true) λ_ _ gl=>some (.panic (.iface t v),none,none,gl))
  |_=>none
 |.call c=>match c.callee with
  |.value f=>match e f,optAll (c.args.toList.map λx=>(e x).toD) with
   |.d (.clo fn cap),some ds=>some (doCall R fn (ds++cap) o.dst)
   |.d (.bnd fn r),some ds=>some (doCall R fn (r::ds) o.dst)
   |_,_=>none
  |.builtin b=>doBuiltin T esc b c.argTypes.toList (c.args.toList.map e) o.dst
  |.invoke r m=>match e r,optAll (c.args.toList.map λx=>(e x).toD) with
   |.d (.iface t v),some ds=>(match T.meth t m with
    |some f=>some (doCall R f (v::ds) o.dst)
    |none=>none)
   |_,_=>none
 |_=>none
def St.put(st:St)(d:Option Nat)(v:Val):St:=
 match d with
 |some t=>{st with regs:=st.regs.set t v}
 |none=>st
def dstOk(nt:Nat):Option Nat→Bool
 |some t=>t<nt
 |none=>true
def wantedA(ops:Array Oper)(o:Oper)(regs:Mp Val):Option Bool:=
 match o.guard with
 |none=>some true
 |some (j,b)=>
  match (ops[j]?).bind (·.dst) with
  |some t=>match regs.get t with
   |some (.d (.bool c))=>some (c==b)
   |some (.tuple [])=>some false
   |_=>none
  |none=>none
def pinAll(regs:Mp Val):List ResultVar→Option (List (Nat×Nat×Nat))
 |[]=>some []
 |.cell t _::l=>match regs.get t,pinAll regs l with
  |some (.d (.ptr (some (i,o)))),some r=>some ((t,i,o)::r)
  |_,_=>none
 |.tmp _::l=>pinAll regs l
def notPinned(pin:List (Nat×Nat×Nat)):Option Nat→Bool
 |some t=>pin.all λp=>p.1 !=t
 |none=>true
def isDefer:Op→Option Call
 |.defer c=>some c
 |_=>none
def kindA(R:Caller)(ops:Array Oper)(o:Oper)(st:St):Option Doing:=
 match wantedA ops o st.regs with
 |some true=>doing T R st.esc (ev st.regs) o
 |some false=>some (.ret (.tuple []))
 |none=>none
def doA(R:Caller)(ops:Array Oper)(o:Oper)(st:St):Option (Out×St):=
 match kindA T R ops o st with
 |some A=>(match A.apply st with
  |some (.val v,st')=>some (.val v,st'.put o.dst v)
  |some (.panic x,st')=>some (.panic x,st')
  |none=>none)
 |none=>none
def deferA(c:Call)(o:Oper)(st:St):Option (Out×St):=
 match c.callee with
 |.value f=>match ev st.regs f,optAll (c.args.toList.map λx=>(ev st.regs x).toD),pinAll st.regs st.res with
  |.d (.clo fn cap),some ds,some pin=>if notPinned pin o.dst then some (.val .undef,{st with defs:=(fn,ds++cap)::st.defs,pin:=pin}.put o.dst .undef) else none
  |_,_,_=>none
 |_=>none
def stepA(R:Caller)(ops:Array Oper)(o:Oper)(st:St):Option (Out×St):=
 if dstOk st.nt o.dst&&notPinned st.pin o.dst then
  match isDefer o.op with
  |some c=>(match wantedA ops o st.regs with
   |some true=>deferA c o st
   |some false=>some (.val .undef,st.put o.dst (.tuple []))
   |none=>none)
  |none=>doA T R ops o st
 else none
end Go.Proofs.YtgmapdcdmomioaaGreatDoor.Am
namespace Go.Proofs.YtgmapdcdmomioaaGreatDoor.Am
open Go
variable(T:Tb)
structure Feet where
 box:Option (Nat×Bool):=none
 tok:Option Nat:=none
 glob:Option Bool:=none
def Doing.feet(A:Doing):Feet:=⟨A.box,A.tok,A.glob⟩
def feetA(R:Caller)(ops:Array Oper)(o:Oper)(st:St):Feet:=
 match kindA T R ops o st with
 |some A=>A.feet
 |none=>{}
mutual
def Dat.beq:Dat→Dat→Bool
 |.bool a,.bool b=>a==b
 |.int k a,.int k' b=>decide (k=k')&&a==b
 |.str a,.str b=>a==b
 |.ptr a,.ptr b=>a==b
 |.nil,.nil=>true
 |.sl m xs,.sl n ys=>m==n&&Dat.beqs xs ys
 |.gsl t m xs,.gsl u n ys=>t==u&&(m==n&&Dat.beqs xs ys)
 |.map a,.map b=>a==b
 |.clo f a,.clo g b=>f==g&&Dat.beqs a b
 |.bnd f a,.bnd g b=>f==g&&Dat.beq a b
 |.nilFn,.nilFn=>true
 |.iface t a,.iface u b=>t==u&&Dat.beq a b
 |.nilIface,.nilIface=>true
 |.agg a,.agg b=>Dat.beqs a b
 |_,_=>false
def Dat.beqs:List Dat→List Dat→Bool
 |[],[]=>true
 |a::l,b::r=>Dat.beq a b&&Dat.beqs l r
 |_,_=>false
end
mutual
theorem Dat.eq_of_beq:∀{a b:Dat},a.beq b=true→a=b
 |.bool a,b,h=>by cases b<;>simp_all[Dat.beq]
 |.int k a,b,h=>by cases b<;>simp_all[Dat.beq]
 |.str a,b,h=>by cases b<;>simp_all[Dat.beq]
 |.ptr a,b,h=>by cases b<;>simp_all[Dat.beq]
 |.nil,b,h=>by cases b<;>simp_all[Dat.beq]
 |.sl m xs,b,h=>by
  cases b<;>simp_all[Dat.beq]
  exact Dat.eq_of_beqs h.2
 |.gsl t m xs,b,h=>by
  cases b<;>simp_all[Dat.beq]
  exact Dat.eq_of_beqs h.2.2
 |.map a,b,h=>by cases b<;>simp_all[Dat.beq]
 |.clo f a,b,h=>by
  cases b<;>simp_all[Dat.beq]
  exact Dat.eq_of_beqs h.2
 |.bnd f a,b,h=>by
  cases b<;>simp_all[Dat.beq]
  exact Dat.eq_of_beq h.2
 |.nilFn,b,h=>by cases b<;>simp_all[Dat.beq]
 |.iface t a,b,h=>by
  cases b<;>simp_all[Dat.beq]
  exact Dat.eq_of_beq h.2
 |.nilIface,b,h=>by cases b<;>simp_all[Dat.beq]
 |.agg a,b,h=>by
  cases b<;>simp_all[Dat.beq]
  exact Dat.eq_of_beqs h
theorem Dat.eq_of_beqs:∀{a b:List Dat},Dat.beqs a b=true→a=b
 |[],b,h=>by cases b<;>simp_all[Dat.beqs]
 |a::l,b,h=>by
  cases b with
  |nil=>simp[Dat.beqs] at h
  |cons c r=>
   simp[Dat.beqs] at h
   rw[Dat.eq_of_beq h.1,Dat.eq_of_beqs h.2]
end
mutual
theorem Dat.beq_refl:∀a:Dat,a.beq a=true
 |.bool a=>by simp[Dat.beq]
 |.int k a=>by simp[Dat.beq]
 |.str a=>by simp[Dat.beq]
 |.ptr a=>by simp[Dat.beq]
 |.nil=>rfl
 |.sl m xs=>by simp[Dat.beq,Dat.beqs_refl xs]
 |.gsl t m xs=>by simp[Dat.beq,Dat.beqs_refl xs]
 |.map a=>by simp[Dat.beq]
 |.clo f a=>by simp[Dat.beq,Dat.beqs_refl a]
 |.bnd f a=>by simp[Dat.beq,Dat.beq_refl a]
 |.nilFn=>rfl
 |.iface t a=>by simp[Dat.beq,Dat.beq_refl a]
 |.nilIface=>rfl
 |.agg a=>by simp[Dat.beq,Dat.beqs_refl a]
theorem Dat.beqs_refl:∀a:List Dat,Dat.beqs a a=true
 |[]=>rfl
 |a::l=>by simp[Dat.beqs,Dat.beq_refl a,Dat.beqs_refl l]
end
def Val.same:Val→Val→Bool
 |.d a,.d b=>a.beq b
 |.gown g m a,.gown g' m' b=>g==g'&&m==m'&&Dat.beqs a b
 |.tuple [.d a,.d a'],.tuple [.d b,.d b']=>a.beq b&&a'.beq b'
 |_,_=>false
theorem Val.eq_of_same{a b:Val}(h:a.same b=true):a=b:=by
 unfold Val.same at h
 split at h
 ·rw[Dat.eq_of_beq h]
 ·simp at h;obtain⟨⟨rfl,rfl⟩,h⟩:=h;rw[Dat.eq_of_beqs h]
 ·simp at h;rw[Dat.eq_of_beq h.1,Dat.eq_of_beq h.2]
 ·cases h
structure Tr where
 i:Nat
 feet:Feet
 f:Glob→Option Val
 g0:Glob
 g1:Glob
def outVal:Option (Out×Option (Nat×Box)×Option (Nat×Option (Nat×Nat))×Glob)→Option Val
 |some (.val v,_)=>some v
 |_=>none
def readA(R:Caller)(ops:Array Oper)(o:Oper)(st:St):Glob→Option Val:=
 match kindA T R ops o st with
 |some A=>λg=>outVal (A.f none none g)
 |none=>λ_=>none
def sameRead(f:Glob→Option Val)(g0 g1:Glob):Bool:=
 match f g0,f g1 with
 |some a,some b=>a.same b
 |_,_=>false
def Tr.apart(a b:Tr):Bool:=
 (match a.feet.box,b.feet.box with|some (k,w),some (k',w')=>k !=k'||(!w&&!w')|_,_=>true)&&
 (match a.feet.tok,b.feet.tok with|some k,some k'=>k !=k'|_,_=>true)&&
 (match a.feet.glob,b.feet.glob with
  |some true,some true=>false
  |some false,some true=>a.feet.box.isNone&&a.feet.tok.isNone&&sameRead a.f b.g0 b.g1
  |some true,some false=>b.feet.box.isNone&&b.feet.tok.isNone&&sameRead b.f a.g0 a.g1
  |_,_=>true)
def regionA(R:Caller)(ops:Array Oper):List Oper→St→Option (Option Dat×St)
 |[],st=>some (none,st)
 |o::l,st=>match stepA T R ops o st with
  |some (.val _,st')=>regionA R ops l st'
  |some (.panic x,st')=>some (some x,st')
  |none=>none
def runD(R:Caller)(ops:Array Oper)(bf:Array Nat):Nat→List Nat→St→Option (List Tr×Option (Dat×Glob)×St)
 |0,_,_=>none
 |_+1,[],st=>some ([],none,st)
 |n+1,i::l,st=>
  match ops[i]? with
  |none=>none
  |some o=>
   match stepA T R ops o st with
   |none=>none
   |some (.val _,st')=>match runD R ops bf n l st' with
    |some (tr,p,fin)=>some (⟨i,feetA T R ops o st,readA T R ops o st,st.glob,st'.glob⟩::tr,p,fin)
    |none=>none
   |some (.panic x,st')=>match (feetA T R ops o st).glob,runD R ops bf n (l.filter λj=>!(bf.getD j 0).testBit i) st with
    |some true,some (tr,none,fin)=>some (⟨i,feetA T R ops o st,readA T R ops o st,st.glob,st.glob⟩::tr,some (x,st'.glob),fin)
    |_,_=>none
def pairsOk(bf:Array Nat):List Tr→Bool
 |[]=>true
 |a::l=>l.all (λb=>(bf.getD b.i 0).testBit a.i||a.apart b)&&pairsOk bf l
def textOk(ops:Array Oper)(bf:Array Nat):Bool:=
 (List.range ops.size).all λi=>match ops[i]? with
  |some o=>(isDefer o.op).isNone&&o.after.all (λe=>!Region.binds .any e||e.on<i)&&
   (List.range i).all λj=>(bf.getD i 0).testBit j||(match ops[j]? with|some p=>p.apart ops o|none=>false)
  |none=>false
inductive Ex where
 |normal
 |exit (id:Nat)
 |ret
 |panic (x:Dat)
 deriving Inhabited
def exec(R:Caller):Nat→Code→St→Option (Ex×St)
 |0,_,_=>none
 |n+1,c,st=>
  match c with
  |.skip=>some (.normal,st)
  |.label _=>some (.normal,st)
  |.region _ ops draw=>
   if draw then
    if textOk ops (Region.before ops) then
     match runD T R ops (Region.before ops) (ops.size+1) (List.range ops.size) st with
     |some (tr,p,fin)=>if pairsOk (Region.before ops) tr then
      match p with
      |none=>some (.normal,fin)
      |some (x,g)=>some (.panic x,{st with glob:=g})
      else none
     |none=>none
    else none
   else match regionA T R ops ops.toList st with
    |some (none,st')=>some (.normal,st')
    |some (some x,st')=>some (.panic x,st')
    |none=>none
  |.seq a b=>match exec R n a st with
   |some (.normal,st')=>exec R n b st'
   |r=>r
  |.cond x a b=>match ev st.regs x with
   |.d (.bool true)=>exec R n a st
   |.d (.bool false)=>exec R n b st
   |_=>none
  |.block id a=>match exec R n a st with
   |some (.exit i,st')=>if i=id then some (.normal,st') else some (.exit i,st')
   |r=>r
  |.loop a=>match exec R n a st with
   |some (.normal,st')=>exec R n (.loop a) st'
   |r=>r
  |.scope a=>exec R n a st
  |.exit id=>some (.exit id,st)
  |.ret=>some (.ret,st)
  |_=>none
def entry(f:FuncId)(fn:Func)(ds:List Dat)(g:Glob):St:=
 {nt:=max ds.length fn.ntmps,esc:=T.esc f,res:=fn.results.toList,defs:=[],pin:=[],regs:=setRegs 0 ds ⟨[]⟩,boxes:=⟨[]⟩,toks:=⟨[]⟩,glob:=g}
where
 setRegs (i:Nat):List Dat→Mp Val→Mp Val
  |[],m=>m
  |d::l,m=>setRegs (i+1) l (m.set i (.d d))
def resultOne(st:St):ResultVar→Option Val
 |.tmp t=>st.regs.get t
 |.cell a t=>match st.regs.get a with
  |some (.loc k g o)=>(match st.boxes.get k with
   |some (g',.cells cs)=>if g'=g then loadV T t (cs.drop o) else none
   |_=>none)
  |some (.d (.ptr (some (i,o))))=>(match st.glob.boxes[i]? with
   |some (.cells cs)=>loadV T t ((cs.drop o).map GVal.v)
   |_=>none)
  |_=>none
def isOwn(st:St)(k g m n:Nat):Bool:=
 match st.toks.get k with
 |some (g',some (m',n'))=>g'==g&&m'==m&&n'==n
 |_=>false
def outOne(st:St)(uq:Bool):Val→Option Val
 |.own k g m xs=>if uq&&isOwn st k g m xs.length then some (.uq m xs) else some (.d (.sl m xs))
 |v=>v.toD.map .d
def outAll(st:St):Bool→List Val→Option (List Val)
 |_,[]=>some []
 |b,v::l=>match outOne st b v with
  |some u=>match outAll st (b&&!(u matches .uq ..)) l with
   |some r=>some (u::r)
   |none=>none
  |none=>none
def resultA(fn:Func)(st:St):Option Val:=
 match optAll (fn.results.toList.map (resultOne T st)) with
 |some vs=>match outAll st true vs with
  |some [v]=>some v
  |some us=>some (.tuple us)
  |none=>none
 |none=>none
def recovers:Code→Option (Nat×Code)
 |.seq (.region _ ⟨[o]⟩ false) c=>match o.op,o.guard,o.dst with
  |.call ⟨.builtin .recover,⟨[]⟩,_⟩,none,some d=>some (d,c)
  |_,_,_=>none
 |_=>none
def ended(fn:Func):Option (Ex×St)→Option Glob
 |some (.normal,st)|some (.ret,st)=>if st.defs.isEmpty&&(resultA T fn st).isSome then some st.glob else none
 |_=>none
def runDef(R:Caller)(n:Nat)(f:FuncId)(ds:List Dat)(p:Option Dat)(g:Glob):Option (Option Dat×Glob):=
 match T.fn f with
 |none=>none
 |some fn=>match fn.body with
  |none=>none
  |some c=>match recovers c with
   |some (d,c')=>if d<(entry T f fn ds g).nt then
    (ended T fn (exec T R n c' ((entry T f fn ds g).put (some d) (.d (p.getD .nilIface))))).map λg'=>(none,g')
    else none
   |none=>(ended T fn (exec T R n c (entry T f fn ds g))).map λg'=>(p,g')
def leaveA(D:FuncId→List Dat→Option Dat→Glob→Option (Option Dat×Glob)):List (FuncId×List Dat)→Option Dat→Glob→Option (Option Dat×Glob)
 |[],p,g=>some (p,g)
 |(f,ds)::l,p,g=>match D f ds p g with
  |some (p',g')=>leaveA D l p' g'
  |none=>none
def pinned(pin:List (Nat×Nat×Nat))(g:Glob):ResultVar→Option Val
 |.tmp _=>none
 |.cell t ty=>match pin.lookup t with
  |some (i,o)=>(match g.boxes[i]? with
   |some (.cells cs)=>loadV T ty ((cs.drop o).map GVal.v)
   |_=>none)
  |none=>none
def pinnedAll(fn:Func)(pin:List (Nat×Nat×Nat))(g:Glob):Option Val:=
 match optAll (fn.results.toList.map (pinned T pin g)) with
 |some vs=>match optAll (vs.map λv=>v.toD.map .d) with
  |some [v]=>some v
  |some us=>some (.tuple us)
  |none=>none
 |none=>none
def finish(D:FuncId→List Dat→Option Dat→Glob→Option (Option Dat×Glob))(fn:Func):Option (Ex×St)→Option (Out×Glob)
 |some (.normal,st)|some (.ret,st)=>
  match st.defs with
  |[]=>(match resultA T fn st with
   |some v=>some (.val v,st.glob)
   |none=>none)
  |ds=>(match leaveA D ds none st.glob with
   |some (none,g)=>(pinnedAll T fn st.pin g).map λv=>(.val v,g)
   |_=>none)
 |some (.panic x,st)=>
  match st.defs with
  |[]=>some (.panic x,st.glob)
  |ds=>(match leaveA D ds (some x) st.glob with
   |some (none,g)=>(pinnedAll T fn st.pin g).map λv=>(.val v,g)
   |some (some y,g)=>some (.panic y,g)
   |none=>none)
 |_=>none
def run:Nat→Caller
 |0=>λ_ _ _=>none
 |n+1=>λf ds g=>
  match T.ext f with
  |some s=>s ds g
  |none=>
   match T.fn f with
   |none=>none
   |some fn=>match fn.body with
    |none=>none
    |some c=>finish T (runDef T (run n) n) fn (exec T (run n) n c (entry T f fn ds g))
end Go.Proofs.YtgmapdcdmomioaaGreatDoor.Am
namespace Go.Proofs.YtgmapdcdmomioaaGreatDoor.Am
open Go
inductive Owner where
 |glob (i:Nat)
 |gtok (g:Nat)
 |box (k:Nat)
 |tok (k:Nat)
 deriving DecidableEq
structure Em where
 owner:Nat→Option Owner
 imm:Nat→Nat→Prop
 gk:Nat→Option (Nat×Nat)
 ng:Nat
 gb:Nat→Nat
 gt:Nat→Value
 bx:Nat→Nat
 tk:Nat→Value
inductive Rep(E:Em)(w:World):Dat→Value→Prop where
 |bool (b:Bool):Rep E w (.bool b) (.bool b)
 |int (k:IntKind) (n:Int):Rep E w (.int k n) (.int k n)
 |str (s:List UInt8):Rep E w (.str s) (.string ⟨s.toArray⟩)
 |ptrN:Rep E w (.ptr none) (.pointer none)
 |ptr (i o:Nat) (h:i<E.ng):Rep E w (.ptr (some (i,o))) (.pointer (some ⟨E.gb i,o,none⟩))
 |nil (a:Option Addr):Rep E w .nil (.slice a 0 0)
 |emp (m:Nat) (a:Option Addr) (c:Nat):Rep E w (.sl m []) (.slice a 0 c)
 |sl (m:Nat) (xs:List Dat) (b o c:Nat) (vs:Nat→Value) (hc:xs.length≤c) (hm:∀x∈xs,x.cells.length=m)
  (h1:∀(i:Nat) x,xs[i]?=some x→∀(j:Nat) d,x.cells[j]?=some d→d.one=true)
  (h2:∀(i:Nat) x,xs[i]?=some x→∀(j:Nat) d,x.cells[j]?=some d→E.imm b (o+i*m+j))
  (h3:∀(i:Nat) x,xs[i]?=some x→∀(j:Nat) d,x.cells[j]?=some d→w.cell? ⟨b,o+i*m+j,none⟩=some (vs (i*m+j)))
  (h4:∀(i:Nat) x,xs[i]?=some x→∀(j:Nat) d,x.cells[j]?=some d→Rep E w d (vs (i*m+j))):
  Rep E w (.sl m xs) (.slice (some ⟨b,o,none⟩) xs.length c)
 |gsl (t m:Nat) (xs:List Dat) (v:Value) (n:Nat) (h:Rep E w (.sl m xs) v) (hk:E.gk t=some (m,n)) (hn:xs.length≤n) (ht:xs.length=n→v=E.gt t):Rep E w (.gsl t m xs) v
 |mapN:Rep E w (.map none) (.map none)
 |map (i:Nat) (h:i<E.ng):Rep E w (.map (some i)) (.map (some (E.gb i)))
 |clo (f:FuncId) (cap:List Dat) (vs:List Value) (hl:cap.length=vs.length)
  (h:∀(j:Nat) d v,cap[j]?=some d→vs[j]?=some v→Rep E w d v):Rep E w (.clo f cap) (.func (.func f) #[] vs.toArray)
 |bnd (f:FuncId) (r:Dat) (v:Value) (h:Rep E w r v):Rep E w (.bnd f r) (.func (.func f) #[v] #[])
 |nilFn:Rep E w .nilFn .nilFunc
 |iface (t:TypeId) (d:Dat) (v:Value) (h:Rep E w d v):Rep E w (.iface t d) (.iface t v)
 |nilIface:Rep E w .nilIface .nilIface
 |agg (cs:List Dat) (vs:List Value) (hl:cs.length=vs.length) (h1:∀d∈cs,d.one=true)
  (h:∀(j:Nat) d v,cs[j]?=some d→vs[j]?=some v→Rep E w d v):Rep E w (.agg cs) (.agg vs.toArray)
def ReL(E:Em)(w:World)(ds:List Dat)(vs:List Value):Prop:=
 ds.length=vs.length∧∀(j:Nat) d v,ds[j]?=some d→vs[j]?=some v→Rep E w d v
theorem Rep.oneCell{E:Em}{w:World}{d:Dat}{v:Value}(h:Rep E w d v)(h1:d.one=true):v.oneCell'=true:=by
 cases h with
 |gsl t m xs v n h=>cases h<;>rfl
 |_=>first|rfl|simp[Dat.one] at h1
structure Tabs where
 B:Mp (Nat×Box)
 K:Mp (Nat×Option (Nat×Nat))
 G:List (Nat×Nat)
def St.tabs(st:St):Tabs:=⟨st.boxes,st.toks,st.glob.toks⟩
def LocOk(E:Em)(T:Tabs)(k g o:Nat)(v:Value):Prop:=
 ∃b g' bx,v=.pointer (some ⟨b,o,none⟩)∧T.B.get k=some (g',bx)∧g≤g'∧(g=g'→b=E.bx k)
def LmapOk(E:Em)(T:Tabs)(k g:Nat)(v:Value):Prop:=
 ∃b g' bx,v=.map (some b)∧T.B.get k=some (g',bx)∧g≤g'∧(g=g'→b=E.bx k)
def OwnOk(E:Em)(T:Tabs)(k g n:Nat)(v:Value):Prop:=
 ∃g' r,T.K.get k=some (g',r)∧g≤g'∧(g=g'→∀m' n',r=some (m',n')→n≤n'∧(n=n'→v=E.tk k))
def GownOk(E:Em)(T:Tabs)(g n:Nat)(v:Value):Prop:=
 ∃m' n',T.G[g]?=some (m',n')∧n≤n'∧(n=n'→v=E.gt g)
inductive RepV(E:Em)(w:World)(T:Tabs):Val→Value→Prop where
 |d (x:Dat) (v:Value) (h:Rep E w x v):RepV E w T (.d x) v
 |loc (k g o:Nat) (v:Value) (h:LocOk E T k g o v):RepV E w T (.loc k g o) v
 |lmap (k g:Nat) (v:Value) (h:LmapOk E T k g v):RepV E w T (.lmap k g) v
 |imm (cs:List Dat) (b o:Nat) (h1:∀(j:Nat) d,cs[j]?=some d→d.one=true) (h2:∀(j:Nat) d,cs[j]?=some d→E.imm b (o+j))
  (h:∀(j:Nat) d,cs[j]?=some d→∃u,w.cell? ⟨b,o+j,none⟩=some u∧Rep E w d u):RepV E w T (.imm cs) (.pointer (some ⟨b,o,none⟩))
 |own (k g m:Nat) (xs:List Dat) (v:Value) (h:Rep E w (.sl m xs) v) (h':OwnOk E T k g xs.length v):RepV E w T (.own k g m xs) v
 |gown (g m:Nat) (xs:List Dat) (v:Value) (h:Rep E w (.sl m xs) v) (h':GownOk E T g xs.length v):RepV E w T (.gown g m xs) v
 |agg (cs:List Val) (vs:List Value) (hl:cs.length=vs.length) (h1:∀c∈cs,c.one=true)
  (h:∀(j:Nat) c v,cs[j]?=some c→vs[j]?=some v→RepV E w T c v):RepV E w T (.agg cs) (.agg vs.toArray)
 |tuple (cs:List Val) (vs:List Value) (hl:cs.length=vs.length)
  (h:∀(j:Nat) c v,cs[j]?=some c→vs[j]?=some v→RepV E w T c v):RepV E w T (.tuple cs) (.tuple vs.toArray)
 |undef (v:Value):RepV E w T .undef v
structure Up(E:Em)(w:World)(G:List (Nat×Nat))(E':Em)(w':World)(G':List (Nat×Nat)):Prop where
 os:w'.os=w.os
 tape:w'.tape=w.tape
 output:w'.output=w.output
 size:w.heap.size≤w'.heap.size
 ng:E.ng≤E'.ng
 gb:∀i,i<E.ng→E'.gb i=E.gb i
 imm:∀b o,E.imm b o→E'.imm b o
 cell:∀b o,E.imm b o→w'.cell? ⟨b,o,none⟩=w.cell? ⟨b,o,none⟩
 alien:∀b,b<w.heap.size→E.owner b=none→w'.heap[b]?=w.heap[b]?∧E'.owner b=none∧∀o,E'.imm b o→E.imm b o
 gtoks:∀(g:Nat) m n,G[g]?=some (m,n)→∃n',G'[g]?=some (m,n')∧n≤n'∧(n=n'→E'.gt g=E.gt g)
 gk:∀(g:Nat) m n,E.gk g=some (m,n)→∃n',E'.gk g=some (m,n')∧n≤n'∧(n=n'→E'.gt g=E.gt g)
 tok:∀b k,E'.owner b=some (.tok k)→E.owner b=some (.tok k)∨w.heap.size≤b
structure UpL(E:Em)(B:Mp (Nat×Box))(K:Mp (Nat×Option (Nat×Nat)))(E':Em)(B':Mp (Nat×Box))(K':Mp (Nat×Option (Nat×Nat))):Prop where
 boxes:∀k g bx,B.get k=some (g,bx)→∃g' bx',B'.get k=some (g',bx')∧g≤g'∧(g=g'→E'.bx k=E.bx k)
 toks:∀k g r,K.get k=some (g,r)→∃g' r',K'.get k=some (g',r')∧g≤g'∧
  (g=g'→∀m' n',r'=some (m',n')→∃n,r=some (m',n)∧n≤n'∧(n=n'→E'.tk k=E.tk k))
theorem Up.refl(E:Em)(w:World)(G:List (Nat×Nat)):Up E w G E w G:=
 ⟨rfl,rfl,rfl,Nat.le_refl _,Nat.le_refl _,λ_ _=>rfl,λ_ _ h=>h,λ_ _ _=>rfl,λ_ _ h=>⟨rfl,h,λ_ h=>h⟩,λ_ _ n h=>⟨n,h,Nat.le_refl _,λ_=>rfl⟩,λ_ _ n h=>⟨n,h,Nat.le_refl _,λ_=>rfl⟩,λ_ _ h=>.inl h⟩
theorem UpL.refl(E:Em)(B:Mp (Nat×Box))(K:Mp (Nat×Option (Nat×Nat))):UpL E B K E B K:=
 ⟨λ_ g bx h=>⟨g,bx,h,Nat.le_refl _,λ_=>rfl⟩,λ_ g r h=>⟨g,r,h,Nat.le_refl _,λ_ m' n' hr=>⟨n',hr,Nat.le_refl _,λ_=>rfl⟩⟩⟩
theorem Up.trans{E E' E'':Em}{w w' w'':World}{G G' G'':List (Nat×Nat)}(h:Up E w G E' w' G')(k:Up E' w' G' E'' w'' G''):Up E w G E'' w'' G'' where
 os:=k.os.trans h.os
 tape:=k.tape.trans h.tape
 output:=k.output.trans h.output
 size:=Nat.le_trans h.size k.size
 ng:=Nat.le_trans h.ng k.ng
 gb i hi:=(k.gb i (Nat.lt_of_lt_of_le hi h.ng)).trans (h.gb i hi)
 imm b o hi:=k.imm b o (h.imm b o hi)
 cell b o hi:=(k.cell b o (h.imm b o hi)).trans (h.cell b o hi)
 alien b hb ho:=by
  obtain⟨h1,h2,h3⟩:=h.alien b hb ho
  obtain⟨k1,k2,k3⟩:=k.alien b (Nat.lt_of_lt_of_le hb h.size) h2
  exact⟨k1.trans h1,k2,λo ho=>h3 o (k3 o ho)⟩
 gtoks g m n hg:=by
  obtain⟨n',h1,h2,h3⟩:=h.gtoks g m n hg
  obtain⟨n'',k1,k2,k3⟩:=k.gtoks g m n' h1
  exact⟨n'',k1,Nat.le_trans h2 k2,λe=>(k3 (by omega)).trans (h3 (by omega))⟩
 gk g m n hg:=by
  obtain⟨n',h1,h2,h3⟩:=h.gk g m n hg
  obtain⟨n'',k1,k2,k3⟩:=k.gk g m n' h1
  exact⟨n'',k1,Nat.le_trans h2 k2,λe=>(k3 (by omega)).trans (h3 (by omega))⟩
 tok b i hb:=by
  rcases k.tok b i hb with h1|h1
  ·exact h.tok b i h1
  ·exact .inr (Nat.le_trans h.size h1)
theorem UpL.trans{E E' E'':Em}{B B' B'':Mp (Nat×Box)}{K K' K'':Mp (Nat×Option (Nat×Nat))}(h:UpL E B K E' B' K')(k:UpL E' B' K' E'' B'' K''):UpL E B K E'' B'' K'' where
 boxes i g bx hb:=by
  obtain⟨g',bx',h1,h2,h3⟩:=h.boxes i g bx hb
  obtain⟨g'',bx'',k1,k2,k3⟩:=k.boxes i g' bx' h1
  exact⟨g'',bx'',k1,Nat.le_trans h2 k2,λe=>(k3 (by omega)).trans (h3 (by omega))⟩
 toks i g r hb:=by
  obtain⟨g',r',h1,h2,h3⟩:=h.toks i g r hb
  obtain⟨g'',r'',k1,k2,k3⟩:=k.toks i g' r' h1
  refine⟨g'',r'',k1,Nat.le_trans h2 k2,λe m' n' hr=>?_⟩
  obtain⟨n,e1,e2,e3⟩:=k3 (by omega) m' n' hr
  obtain⟨n0,f1,f2,f3⟩:=h3 (by omega) m' n e1
  exact⟨n0,f1,Nat.le_trans f2 e2,λe=>(e3 (by omega)).trans (f3 (by omega))⟩
theorem Rep.up{E E':Em}{w w':World}{G G':List (Nat×Nat)}(u:Up E w G E' w' G'){d:Dat}{v:Value}(h:Rep E w d v):Rep E' w' d v:=by
 induction h with
 |bool b=>exact .bool b
 |int k n=>exact .int k n
 |str s=>exact .str s
 |ptrN=>exact .ptrN
 |ptr i o h=>rw[←u.gb i h];exact .ptr i o (Nat.lt_of_lt_of_le h u.ng)
 |nil a=>exact .nil a
 |emp m a c=>exact .emp m a c
 |sl m xs b o c vs hc hm h1 h2 h3 h4 ih=>
  exact .sl m xs b o c vs hc hm h1 (λi x hx j d hd=>u.imm _ _ (h2 i x hx j d hd))
   (λi x hx j d hd=>(u.cell _ _ (h2 i x hx j d hd)).trans (h3 i x hx j d hd)) ih
 |gsl t m xs v n h hk hn ht ih=>
  obtain⟨n',k1,k2,k3⟩:=u.gk t m n hk
  exact .gsl t m xs v n' ih k1 (Nat.le_trans hn k2) (λe=>by rw[k3 (by omega)];exact ht (by omega))
 |mapN=>exact .mapN
 |map i h=>rw[←u.gb i h];exact .map i (Nat.lt_of_lt_of_le h u.ng)
 |clo f cap vs hl h ih=>exact .clo f cap vs hl ih
 |bnd f r v h ih=>exact .bnd f r v ih
 |nilFn=>exact .nilFn
 |iface t d v h ih=>exact .iface t d v ih
 |nilIface=>exact .nilIface
 |agg cs vs hl h1 h ih=>exact .agg cs vs hl h1 ih
theorem ReL.up{E E':Em}{w w':World}{G G':List (Nat×Nat)}(u:Up E w G E' w' G'){ds:List Dat}{vs:List Value}(h:ReL E w ds vs):ReL E' w' ds vs:=
 ⟨h.1,λj d v hd hv=>(h.2 j d v hd hv).up u⟩
theorem LocOk.up{E E':Em}{B B':Mp (Nat×Box)}{K K':Mp (Nat×Option (Nat×Nat))}{G G':List (Nat×Nat)}(u:UpL E B K E' B' K'){k g o:Nat}{v:Value}
 (h:LocOk E ⟨B,K,G⟩ k g o v):LocOk E' ⟨B',K',G'⟩ k g o v:=by
 obtain⟨b,g1,bx,h0,h1,h2,h3⟩:=h
 obtain⟨g2,bx',k1,k2,k3⟩:=u.boxes k g1 bx h1
 exact⟨b,g2,bx',h0,k1,Nat.le_trans h2 k2,λe=>by rw[k3 (by omega)];exact h3 (by omega)⟩
theorem LmapOk.up{E E':Em}{B B':Mp (Nat×Box)}{K K':Mp (Nat×Option (Nat×Nat))}{G G':List (Nat×Nat)}(u:UpL E B K E' B' K'){k g:Nat}{v:Value}
 (h:LmapOk E ⟨B,K,G⟩ k g v):LmapOk E' ⟨B',K',G'⟩ k g v:=by
 obtain⟨b,g1,bx,h0,h1,h2,h3⟩:=h
 obtain⟨g2,bx',k1,k2,k3⟩:=u.boxes k g1 bx h1
 exact⟨b,g2,bx',h0,k1,Nat.le_trans h2 k2,λe=>by rw[k3 (by omega)];exact h3 (by omega)⟩
theorem OwnOk.up{E E':Em}{B B':Mp (Nat×Box)}{K K':Mp (Nat×Option (Nat×Nat))}{G G':List (Nat×Nat)}(u:UpL E B K E' B' K'){k g n:Nat}{v:Value}
 (h:OwnOk E ⟨B,K,G⟩ k g n v):OwnOk E' ⟨B',K',G'⟩ k g n v:=by
 obtain⟨g1,r,h1,h2,h3⟩:=h
 obtain⟨g2,r',k1,k2,k3⟩:=u.toks k g1 r h1
 refine⟨g2,r',k1,Nat.le_trans h2 k2,λe m' n' hr=>?_⟩
 obtain⟨n0,e1,e2,e3⟩:=k3 (by omega) m' n' hr
 obtain⟨f1,f2⟩:=h3 (by omega) m' n0 e1
 exact⟨Nat.le_trans f1 e2,λe=>by rw[e3 (by omega)];exact f2 (by omega)⟩
theorem GownOk.up{E E':Em}{w w':World}{B B':Mp (Nat×Box)}{K K':Mp (Nat×Option (Nat×Nat))}{G G':List (Nat×Nat)}(u:Up E w G E' w' G'){g n:Nat}{v:Value}
 (h:GownOk E ⟨B,K,G⟩ g n v):GownOk E' ⟨B',K',G'⟩ g n v:=by
 obtain⟨m1,n1,h1,h2,h3⟩:=h
 obtain⟨n2,k1,k2,k3⟩:=u.gtoks g m1 n1 h1
 exact⟨m1,n2,k1,Nat.le_trans h2 k2,λe=>by rw[k3 (by omega)];exact h3 (by omega)⟩
theorem RepV.up{E E':Em}{w w':World}{B B':Mp (Nat×Box)}{K K':Mp (Nat×Option (Nat×Nat))}{G G':List (Nat×Nat)}(u:Up E w G E' w' G')(l:UpL E B K E' B' K')
 {x:Val} {v:Value} (h:RepV E w ⟨B,K,G⟩ x v):RepV E' w' ⟨B',K',G'⟩ x v:=by
 induction h with
 |d x v h=>exact .d x v (h.up u)
 |loc k g o v h=>exact .loc k g o v (h.up l)
 |lmap k g v h=>exact .lmap k g v (h.up l)
 |imm cs b o h1 h2 h=>
  refine .imm cs b o h1 (λj d hd=>u.imm _ _ (h2 j d hd)) (λj d hd=>?_)
  obtain⟨x,hx,hr⟩:=h j d hd
  exact⟨x,(u.cell _ _ (h2 j d hd)).trans hx,hr.up u⟩
 |own k g m xs v h h'=>exact .own k g m xs v (h.up u) (h'.up l)
 |gown g m xs v h h'=>exact .gown g m xs v (h.up u) (h'.up u)
 |agg cs vs hl h1 h ih=>exact .agg cs vs hl h1 ih
 |tuple cs vs hl h ih=>exact .tuple cs vs hl ih
 |undef v=>exact .undef v
def CellsAt(E:Em)(w:World)(T:Tabs)(b:Nat)(cs:List Val):Prop:=
 ∃vs t,w.heap[b]?=some (.cells vs t (0,0))∧vs.size=cs.length∧(∀c∈cs,c.one=true)∧∀(j:Nat) c v,cs[j]?=some c→vs[j]?=some v→RepV E w T c v
def EntsRep(E:Em)(w:World)(es:Entries)(ms:Array MapEntry):Prop:=
 ms.size=es.length∧∀(j:Nat) e m,es[j]?=some e→ms[j]?=some m→Rep E w e.1 m.key∧Rep E w e.2.1 m.val∧m.born=e.2.2
def MapAt(E:Em)(w:World)(b:Nat)(es:Entries)(c:Nat):Prop:=
 ∃ms,w.heap[b]?=some (.map ms c)∧EntsRep E w es ms
def BoxAt(E:Em)(w:World)(T:Tabs)(b:Nat):Box→Prop
 |.cells cs=>CellsAt E w T b cs
 |.iter s pos=>w.heap[b]?=some (.stringIter ⟨s.toArray⟩ pos)
 |.map es c=>MapAt E w b es c
def GBoxAt(E:Em)(w:World)(G:List (Nat×Nat))(b:Nat):GBox→Prop
 |.cells cs=>CellsAt E w ⟨⟨[]⟩,⟨[]⟩,G⟩ b (cs.map GVal.v)
 |.map es c=>MapAt E w b es c
def TokAt(E:Em)(w:World)(ow:Owner)(v:Value)(m n:Nat):Prop:=
 ∃b cap cur t,v=.slice (some ⟨b,0,none⟩) n cap∧w.heap[b]?=some (.cells cur t (0,0))∧n≤cap∧cur.size=cap*m∧0<m∧
  E.owner b=some ow∧∀o,E.imm b o↔o<n*m
structure GRel(E:Em)(w:World)(g:Glob):Prop where
 own_lt:∀b ow,E.owner b=some ow→b<w.heap.size
 own_g:∀b i,E.owner b=some (.gtok i)→i<g.toks.length
 gk:∀i:Nat,E.gk i=g.toks[i]?
 imm_lt:∀b o,E.imm b o→b<w.heap.size
 ng:E.ng=g.boxes.length
 boxes:∀(i:Nat) bx,g.boxes[i]?=some bx→E.owner (E.gb i)=some (.glob i)∧(∀o,¬E.imm (E.gb i) o)∧GBoxAt E w g.toks (E.gb i) bx
 toks:∀(i:Nat) m n,g.toks[i]?=some (m,n)→TokAt E w (.gtok i) (E.gt i) m n
structure MRel(E:Em)(w:World)(st:St):Prop where
 g:GRel E w st.glob
 boxes:∀k g bx,st.boxes.get k=some (g,bx)→E.owner (E.bx k)=some (.box k)∧(∀o,¬E.imm (E.bx k) o)∧BoxAt E w st.tabs (E.bx k) bx
 toks:∀k g m n,st.toks.get k=some (g,some (m,n))→TokAt E w (.tok k) (E.tk k) m n
def DefRep(E:Em)(w:World)(d:Deferred)(x:FuncId×List Dat):Prop:=
 ∃as cs,d=⟨.fn (.func x.1) (cs:List Value).toArray,(as:List Value).toArray⟩∧ReL E w x.2 (as++cs)
def DefsRep(E:Em)(w:World)(l:List Deferred)(ds:List (FuncId×List Dat)):Prop:=
 l.length=ds.length∧∀(j:Nat) d x,l[j]?=some d→ds[j]?=some x→DefRep E w d x
structure LRel(E:Em)(w:World)(st:St)(a:Act):Prop where
 nt:a.tmps.size=st.nt
 regs:∀t,RepV E w st.tabs ((st.regs.get t).getD .undef) (a.tmps.getD t undef)
 pins:∀p∈st.pin,p.2.1<E.ng∧a.tmps.getD p.1 undef=.pointer (some ⟨E.gb p.2.1,p.2.2,none⟩)
 defs:DefsRep E w a.defers st.defs
theorem CellsAt.up{E E':Em}{w w':World}{B B':Mp (Nat×Box)}{K K':Mp (Nat×Option (Nat×Nat))}{G G':List (Nat×Nat)}(u:Up E w G E' w' G')(l:UpL E B K E' B' K')
 {b:Nat} {cs:List Val} (h:CellsAt E w ⟨B,K,G⟩ b cs) (hb:w'.heap[b]?=w.heap[b]?):CellsAt E' w' ⟨B',K',G'⟩ b cs:=by
 obtain⟨vs,t,h1,h2,h3,h4⟩:=h
 exact⟨vs,t,hb.trans h1,h2,h3,λj c v hc hv=>(h4 j c v hc hv).up u l⟩
theorem MapAt.up{E E':Em}{w w':World}{G G':List (Nat×Nat)}(u:Up E w G E' w' G'){b:Nat}{es:Entries}{c:Nat}(h:MapAt E w b es c)(hb:w'.heap[b]?=w.heap[b]?):MapAt E' w' b es c:=by
 obtain⟨ms,h1,h2,h3⟩:=h
 exact⟨ms,hb.trans h1,h2,λj e m he hm=>let ⟨a,b,c⟩:=h3 j e m he hm;⟨a.up u,b.up u,c⟩⟩
theorem BoxAt.up{E E':Em}{w w':World}{B B':Mp (Nat×Box)}{K K':Mp (Nat×Option (Nat×Nat))}{G G':List (Nat×Nat)}(u:Up E w G E' w' G')(l:UpL E B K E' B' K')
 {b:Nat} {bx:Box} (h:BoxAt E w ⟨B,K,G⟩ b bx) (hb:w'.heap[b]?=w.heap[b]?):BoxAt E' w' ⟨B',K',G'⟩ b bx:=by
 cases bx with
 |cells cs=>exact CellsAt.up u l h hb
 |iter s pos=>exact Eq.trans hb h
 |map es c=>exact MapAt.up u h hb
theorem GBoxAt.up{E E':Em}{w w':World}{G G':List (Nat×Nat)}(u:Up E w G E' w' G'){b:Nat}{bx:GBox}(h:GBoxAt E w G b bx)(hb:w'.heap[b]?=w.heap[b]?):GBoxAt E' w' G' b bx:=by
 cases bx with
 |cells cs=>
  refine CellsAt.up u ?_ h hb
  exact⟨λk g bx h=>by simp[Mp.get_empty] at h,λk g r h=>by simp[Mp.get_empty] at h⟩
 |map es c=>exact MapAt.up u h hb
theorem TokAt.up{E E':Em}{w w':World}{ow:Owner}{v:Value}{m n:Nat}(h:TokAt E w ow v m n)
 (hb:∀b,E.owner b=some ow→w'.heap[b]?=w.heap[b]?∧E'.owner b=some ow∧∀o,E'.imm b o↔E.imm b o):TokAt E' w' ow v m n:=by
 obtain⟨b,cap,cur,t,h1,h2,h3,h4,h5,h6,h7⟩:=h
 obtain⟨k1,k2,k3⟩:=hb b h6
 exact⟨b,cap,cur,t,h1,k1.trans h2,h3,h4,h5,k2,λo=>(k3 o).trans (h7 o)⟩
theorem DefsRep.up{E E':Em}{w w':World}{G G':List (Nat×Nat)}(u:Up E w G E' w' G'){l:List Deferred}{ds:List (FuncId×List Dat)}(h:DefsRep E w l ds):DefsRep E' w' l ds:=
 ⟨h.1,λj d x hd hx=>let ⟨as,cs,h1,h2⟩:=h.2 j d x hd hx;⟨as,cs,h1,h2.up u⟩⟩
end Go.Proofs.YtgmapdcdmomioaaGreatDoor.Am
namespace Go.Proofs.YtgmapdcdmomioaaGreatDoor.Am
open Go
def Keep(E:Em)(w:World)(E':Em)(w':World)(ow:Owner):Prop:=
 ∀b,E.owner b=some ow→w'.heap[b]?=w.heap[b]?∧E'.owner b=some ow∧∀o,E'.imm b o↔E.imm b o
theorem MRel.step{E E':Em}{w w':World}{st st':St}(h:MRel E w st)(u:Up E w st.glob.toks E' w' st'.glob.toks)(l:UpL E st.boxes st.toks E' st'.boxes st'.toks)
 (hgk:∀i:Nat,E'.gk i=st'.glob.toks[i]?) (hs:∀b ow,E'.owner b=some ow→b<w'.heap.size) (hi:∀b o,E'.imm b o→b<w'.heap.size) (hn:E'.ng=st'.glob.boxes.length)
 (hg:∀(i:Nat) bx,st'.glob.boxes[i]?=some bx→(st.glob.boxes[i]?=some bx∧Keep E w E' w' (.glob i))∨
  (E'.owner (E'.gb i)=some (.glob i)∧(∀o,¬E'.imm (E'.gb i) o)∧GBoxAt E' w' st'.glob.toks (E'.gb i) bx))
 (hgt:∀(i:Nat) m n,st'.glob.toks[i]?=some (m,n)→(st.glob.toks[i]?=some (m,n)∧Keep E w E' w' (.gtok i)∧E'.gt i=E.gt i)∨TokAt E' w' (.gtok i) (E'.gt i) m n)
 (hb:∀k g bx,st'.boxes.get k=some (g,bx)→(st.boxes.get k=some (g,bx)∧Keep E w E' w' (.box k)∧E'.bx k=E.bx k)∨
  (E'.owner (E'.bx k)=some (.box k)∧(∀o,¬E'.imm (E'.bx k) o)∧BoxAt E' w' st'.tabs (E'.bx k) bx))
 (ht:∀k g m n,st'.toks.get k=some (g,some (m,n))→(st.toks.get k=some (g,some (m,n))∧Keep E w E' w' (.tok k)∧E'.tk k=E.tk k)∨TokAt E' w' (.tok k) (E'.tk k) m n)
 (hog:∀b i,E'.owner b=some (.gtok i)→i<st'.glob.toks.length):
 MRel E' w' st' where
 g:={
  own_lt:=hs
  own_g:=hog
  gk:=hgk
  imm_lt:=hi
  ng:=hn
  boxes:=λi bx hbx=>by
   rcases hg i bx hbx with ⟨h1,h2⟩|h1
   ·obtain⟨k1,k2,k3⟩:=h.g.boxes i bx h1
    obtain⟨e1,e2,e3⟩:=h2 _ k1
    have hlt:i<E.ng:=by rw[h.g.ng];exact(List.getElem?_eq_some_iff.1 h1).1
    rw[u.gb i hlt]
    exact⟨e2,λo ho=>k2 o ((e3 o).1 ho),k3.up u e1⟩
   ·exact h1
  toks:=λi m n hm=>by
   rcases hgt i m n hm with ⟨h1,h2,h3⟩|h1
   ·rw[h3];exact(h.g.toks i m n h1).up h2
   ·exact h1}
 boxes:=λk g bx hbx=>by
  rcases hb k g bx hbx with ⟨h1,h2,h3⟩|h1
  ·obtain⟨k1,k2,k3⟩:=h.boxes k g bx h1
   obtain⟨e1,e2,e3⟩:=h2 _ k1
   rw[h3]
   exact⟨e2,λo ho=>k2 o ((e3 o).1 ho),k3.up u l e1⟩
  ·exact h1
 toks:=λk g m n hm=>by
  rcases ht k g m n hm with ⟨h1,h2,h3⟩|h1
  ·rw[h3];exact(h.toks k g m n h1).up h2
  ·exact h1
structure Pushed(w w':World)(o:Obj):Prop where
 os:w'.os=w.os
 tape:w'.tape=w.tape
 output:w'.output=w.output
 heap:w'.heap=w.heap.push o
theorem pushed_alloc(w:World)(o:Obj):Pushed w (w.alloc o) o:=⟨rfl,rfl,rfl,rfl⟩
theorem pushed_drew(w:World)(o:Obj):Pushed w (w.drew.alloc o) o:=⟨rfl,rfl,rfl,rfl⟩
theorem Pushed.size{w w':World}{o:Obj}(p:Pushed w w' o):w'.heap.size=w.heap.size+1:=by rw[p.heap];simp
theorem Pushed.new{w w':World}{o:Obj}(p:Pushed w w' o):w'.heap[w.heap.size]?=some o:=by rw[p.heap];simp
theorem Pushed.old{w w':World}{o:Obj}(p:Pushed w w' o){b:Nat}(h:b<w.heap.size):w'.heap[b]?=w.heap[b]?:=by
 rw[p.heap,Array.getElem?_push,if_neg (by omega)]
theorem Pushed.cell{w w':World}{o:Obj}(p:Pushed w w' o){b i:Nat}(h:b<w.heap.size):w'.cell? ⟨b,i,none⟩=w.cell? ⟨b,i,none⟩:=
 World.cell?_of_block (w:=w) (p.old h)
structure Wrote(w w':World)(b:Nat)(o:Obj):Prop where
 os:w'.os=w.os
 tape:w'.tape=w.tape
 output:w'.output=w.output
 size:w'.heap.size=w.heap.size
 new:w'.heap[b]?=some o
 old:∀k,k≠b→w'.heap[k]?=w.heap[k]?
theorem Wrote.cell{w w':World}{b:Nat}{o:Obj}(p:Wrote w w' b o){k i:Nat}(h:k≠b):w'.cell? ⟨k,i,none⟩=w.cell? ⟨k,i,none⟩:=
 World.cell?_of_block (w:=w) (p.old k h)
theorem Wrote.lt{w w':World}{b:Nat}{o:Obj}(p:Wrote w w' b o):b<w.heap.size:=by
 have h:=p.new
 rw[←p.size]
 exact(Array.getElem?_eq_some_iff.1 h).1
def upd{β:Type}(f:Nat→β)(a:Nat)(b:β):Nat→β:=λx=>if x=a then b else f x
@[simp] theorem upd_same {β:Type} (f:Nat→β) (a:Nat) (b:β):upd f a b a=b:=by simp[upd]
theorem upd_ne{β:Type}(f:Nat→β){a x:Nat}(b:β)(h:x≠a):upd f a b x=f x:=by simp[upd,h]
def nextGen{β:Type}:Option (Nat×β)→Nat
 |some (g,_)=>g+1
 |none=>0
def Em.newBox(E:Em)(k n:Nat):Em:=
 {E with owner:=λb=>if b=n then some (.box k) else if E.owner b=some (.box k) then none else E.owner b,bx:=upd E.bx k n}
def Em.newGlob(E:Em)(n:Nat):Em:=
 {E with ng:=E.ng+1,gb:=upd E.gb E.ng n,owner:=upd E.owner n (some (.glob E.ng))}
def Em.newImm(E:Em)(n len:Nat):Em:={E with imm:=λb o=>E.imm b o∨(b=n∧o<len)}
def Em.newTok(E:Em)(k n len:Nat)(v:Value):Em:=
 {E with owner:=λb=>if b=n then some (.tok k) else if E.owner b=some (.tok k) then none else E.owner b,tk:=upd E.tk k v,
         imm:=λb o=>E.imm b o∨(b=n∧o<len)}
theorem Em.newBox_tok{E:Em}{k n b k':Nat}(h:(E.newBox k n).owner b=some (.tok k')):E.owner b=some (.tok k')∨n≤b:=by
 simp only[Em.newBox] at h
 split at h
 ·cases h
 ·split at h
  ·cases h
  ·exact .inl h
theorem Em.newGlob_tok{E:Em}{n b k':Nat}(h:(E.newGlob n).owner b=some (.tok k')):E.owner b=some (.tok k')∨n≤b:=by
 simp only[Em.newGlob,upd] at h
 split at h
 ·cases h
 ·exact .inl h
theorem Em.newTok_tok{E:Em}{k n len b k':Nat}{v:Value}(h:(E.newTok k n len v).owner b=some (.tok k')):E.owner b=some (.tok k')∨n≤b:=by
 simp only[Em.newTok] at h
 split at h
 ·rename_i e;right;omega
 ·split at h
  ·cases h
  ·exact .inl h
section
variable{E:Em}{w w':World}{st:St}
theorem MRel.newBox(h:MRel E w st){o:Obj}(p:Pushed w w' o)(k:Nat)(bx:Box)
 (hB:∀E' T',(∀c v,RepV E w st.tabs c v→RepV E' w' T' c v)→(∀d v,Rep E w d v→Rep E' w' d v)→BoxAt E' w' T' w.heap.size bx):
 Up E w st.glob.toks (E.newBox k w.heap.size) w' st.glob.toks∧
 UpL E st.boxes st.toks (E.newBox k w.heap.size) (st.boxes.set k (nextGen (st.boxes.get k),bx)) st.toks∧
 MRel (E.newBox k w.heap.size) w' {st with boxes:=st.boxes.set k (nextGen (st.boxes.get k),bx)}:=by
 have hlt:∀b ow,E.owner b=some ow→b≠w.heap.size:=λb ow hb e=>by have:=h.g.own_lt b ow hb;omega
 have hu:Up E w st.glob.toks (E.newBox k w.heap.size) w' st.glob.toks:=
  ⟨p.os,p.tape,p.output,by rw[p.size];omega,Nat.le_refl _,λ_ _=>rfl,λ_ _ hi=>hi,λb i hi=>p.cell (h.g.imm_lt b i hi),
   λb hb ho=>⟨p.old hb,by have:b≠w.heap.size:=by omega
                          simp[Em.newBox,this,ho],λ_ hi=>hi⟩,
   λ_ _ n hg=>⟨n,hg,Nat.le_refl _,λ_=>rfl⟩,λ_ _ n hg=>⟨n,hg,Nat.le_refl _,λ_=>rfl⟩,λ_ _ h=>Em.newBox_tok h⟩
 have hl:UpL E st.boxes st.toks (E.newBox k w.heap.size) (st.boxes.set k (nextGen (st.boxes.get k),bx)) st.toks:=by
  refine⟨λi g b hb=>?_,λi g r hr=>⟨g,r,hr,Nat.le_refl _,λ_ m' n' e=>⟨n',e,Nat.le_refl _,λ_=>rfl⟩⟩⟩
  by_cases hik:k=i
  ·subst hik
   refine⟨_,_,Mp.get_set_same _ _ _,?_,?_⟩
   ·rw[hb];simp[nextGen]
   ·rw[hb];intro e;simp[nextGen] at e
  ·refine⟨g,b,by rw[Mp.get_set_ne _ _ hik];exact hb,Nat.le_refl _,λ_=>?_⟩
   simp only[Em.newBox]
   exact upd_ne _ _ (λe=>hik e.symm)
 refine⟨hu,hl,?_⟩
 have keep:∀ow,ow≠.box k→Keep E w (E.newBox k w.heap.size) w' ow:=λow how b hb=>by
  have h1:=hlt b ow hb
  have h2:=h.g.own_lt b ow hb
  refine⟨p.old h2,?_,λ_=>Iff.rfl⟩
  have:¬ow=.box k:=how
  simp[Em.newBox,h1,hb,this]
 refine h.step hu hl h.g.gk ?_ ?_ h.g.ng ?_ ?_ ?_ ?_ ?_
 ·intro b ow hb
  rw[p.size]
  by_cases e:b=w.heap.size
  ·omega
  ·simp only[Em.newBox,e,if_false] at hb
   split at hb
   ·cases hb
   ·have:=h.g.own_lt b ow hb;omega
 ·intro b i hi;rw[p.size];have:=h.g.imm_lt b i hi;omega
 ·exact λi b hb=>.inl ⟨hb,keep _ (by simp)⟩
 ·exact λi m n hm=>.inl ⟨hm,keep _ (by simp),rfl⟩
 ·intro i g b hb
  by_cases hik:k=i
  ·subst hik
   right
   rw[Mp.get_set_same] at hb
   cases hb
   have e:(E.newBox k w.heap.size).bx k=w.heap.size:=by simp[Em.newBox]
   rw[e]
   refine⟨by simp[Em.newBox],λo ho=>?_,hB _ _ (λc v hc=>RepV.up hu hl hc) (λd v hd=>hd.up hu)⟩
   have:=h.g.imm_lt _ _ ho
   omega
  ·left
   rw[Mp.get_set_ne _ _ hik] at hb
   refine⟨hb,keep _ (λe=>hik (by cases e;rfl)),?_⟩
   simp only[Em.newBox]
   exact upd_ne _ _ (λe=>hik e.symm)
 ·exact λi g m n hm=>.inl ⟨hm,keep _ (by simp),rfl⟩
 ·intro b i hb
  first
   |exact h.g.own_g b i hb
   |(simp only[Em.newBox,Em.newTok,Em.newGlob,Em.newImm,upd] at hb
     repeat' (split at hb)
     all_goals first|(cases hb;done)|exact h.g.own_g b i hb)
theorem MRel.newGlob(h:MRel E w st){o:Obj}(p:Pushed w w' o)(bx:GBox)
 (hB:∀E',(∀d v,Rep E w d v→Rep E' w' d v)→GBoxAt E' w' st.glob.toks w.heap.size bx):
 Up E w st.glob.toks (E.newGlob w.heap.size) w' st.glob.toks∧
 UpL E st.boxes st.toks (E.newGlob w.heap.size) st.boxes st.toks∧
 MRel (E.newGlob w.heap.size) w' {st with glob:={st.glob with boxes:=st.glob.boxes++[bx]}}:=by
 have hlt:∀b ow,E.owner b=some ow→b≠w.heap.size:=λb ow hb e=>by have:=h.g.own_lt b ow hb;omega
 have hu:Up E w st.glob.toks (E.newGlob w.heap.size) w' st.glob.toks:=
  ⟨p.os,p.tape,p.output,by rw[p.size];omega,Nat.le_succ _,λi hi=>upd_ne _ _ (by omega),λ_ _ hi=>hi,λb i hi=>p.cell (h.g.imm_lt b i hi),
   λb hb ho=>⟨p.old hb,by have:b≠w.heap.size:=by omega
                          simp[Em.newGlob,upd,this,ho],λ_ hi=>hi⟩,
   λ_ _ n hg=>⟨n,hg,Nat.le_refl _,λ_=>rfl⟩,λ_ _ n hg=>⟨n,hg,Nat.le_refl _,λ_=>rfl⟩,λ_ _ h=>Em.newGlob_tok h⟩
 have hl:UpL E st.boxes st.toks (E.newGlob w.heap.size) st.boxes st.toks:=
  ⟨λ_ g bx h=>⟨g,bx,h,Nat.le_refl _,λ_=>rfl⟩,λ_ g r h=>⟨g,r,h,Nat.le_refl _,λ_ m' n' hr=>⟨n',hr,Nat.le_refl _,λ_=>rfl⟩⟩⟩
 refine⟨hu,hl,?_⟩
 have keep:∀ow,Keep E w (E.newGlob w.heap.size) w' ow:=λow b hb=>by
  have h1:=hlt b ow hb
  have h2:=h.g.own_lt b ow hb
  exact⟨p.old h2,by simp[Em.newGlob,upd,h1,hb],λ_=>Iff.rfl⟩
 refine h.step hu hl h.g.gk ?_ ?_ ?_ ?_ ?_ ?_ ?_ ?_
 ·intro b ow hb
  rw[p.size]
  by_cases e:b=w.heap.size
  ·omega
  ·simp only[Em.newGlob,upd,e,if_false] at hb
   have:=h.g.own_lt b ow hb;omega
 ·intro b i hi;rw[p.size];have:=h.g.imm_lt b i hi;omega
 ·simp[Em.newGlob,h.g.ng]
 ·intro i b hb
  rw[List.getElem?_append] at hb
  split at hb
  ·exact .inl ⟨hb,keep _⟩
  ·right
   have hi:i=st.glob.boxes.length:=by
    have:=(List.getElem?_eq_some_iff.1 hb).1
    simp at this
    omega
   subst hi
   simp at hb
   subst hb
   rw[←h.g.ng]
   have e:(E.newGlob w.heap.size).gb E.ng=w.heap.size:=by simp[Em.newGlob]
   rw[e]
   refine⟨by simp[Em.newGlob],λo ho=>?_,hB _ (λd v hd=>hd.up hu)⟩
   have:=h.g.imm_lt _ _ ho
   omega
 ·exact λi m n hm=>.inl ⟨hm,keep _,rfl⟩
 ·exact λi g b hb=>.inl ⟨hb,keep _,rfl⟩
 ·exact λi g m n hm=>.inl ⟨hm,keep _,rfl⟩
 ·intro b i hb
  first
   |exact h.g.own_g b i hb
   |(simp only[Em.newBox,Em.newTok,Em.newGlob,Em.newImm,upd] at hb
     repeat' (split at hb)
     all_goals first|(cases hb;done)|exact h.g.own_g b i hb)
theorem MRel.newImm(h:MRel E w st){o:Obj}(p:Pushed w w' o)(len:Nat):
 Up E w st.glob.toks (E.newImm w.heap.size len) w' st.glob.toks∧UpL E st.boxes st.toks (E.newImm w.heap.size len) st.boxes st.toks∧
 MRel (E.newImm w.heap.size len) w' st:=by
 have hu:Up E w st.glob.toks (E.newImm w.heap.size len) w' st.glob.toks:=
  ⟨p.os,p.tape,p.output,by rw[p.size];omega,Nat.le_refl _,λi hi=>rfl,λ_ _ hi=>.inl hi,λb i hi=>p.cell (h.g.imm_lt b i hi),
   λb hb ho=>⟨p.old hb,ho,λi hi=>hi.resolve_right (λe=>by omega)⟩,λ_ _ n hg=>⟨n,hg,Nat.le_refl _,λ_=>rfl⟩,λ_ _ n hg=>⟨n,hg,Nat.le_refl _,λ_=>rfl⟩,λ_ _ h=>.inl h⟩
 have hl:UpL E st.boxes st.toks (E.newImm w.heap.size len) st.boxes st.toks:=
  ⟨λ_ g bx h=>⟨g,bx,h,Nat.le_refl _,λ_=>rfl⟩,λ_ g r h=>⟨g,r,h,Nat.le_refl _,λ_ m' n' hr=>⟨n',hr,Nat.le_refl _,λ_=>rfl⟩⟩⟩
 have keep:∀ow,Keep E w (E.newImm w.heap.size len) w' ow:=λow b hb=>by
  have h2:=h.g.own_lt b ow hb
  exact⟨p.old h2,hb,λi=>⟨λhi=>hi.resolve_right (λe=>by omega),.inl⟩⟩
 refine⟨hu,hl,h.step hu hl h.g.gk ?_ ?_ h.g.ng ?_ ?_ ?_ ?_ ?_⟩
 ·intro b ow hb;rw[p.size];have:=h.g.own_lt b ow hb;omega
 ·intro b i hi
  rw[p.size]
  rcases hi with hi|⟨rfl,_⟩
  ·have:=h.g.imm_lt b i hi;omega
  ·omega
 ·exact λi b hb=>.inl ⟨hb,keep _⟩
 ·exact λi m n hm=>.inl ⟨hm,keep _,rfl⟩
 ·exact λi g b hb=>.inl ⟨hb,keep _,rfl⟩
 ·exact λi g m n hm=>.inl ⟨hm,keep _,rfl⟩
 ·intro b i hb
  first
   |exact h.g.own_g b i hb
   |(simp only[Em.newBox,Em.newTok,Em.newGlob,Em.newImm,upd] at hb
     repeat' (split at hb)
     all_goals first|(cases hb;done)|exact h.g.own_g b i hb)
theorem MRel.newTok(h:MRel E w st){cur:Array Value}{t:TypeId}(p:Pushed w w' (.cells cur t (0,0)))(k m n cap:Nat)(hnc:n≤cap)(hcur:cur.size=cap*m)(hm:0<m):
 Up E w st.glob.toks (E.newTok k w.heap.size (n*m) (.slice (some ⟨w.heap.size,0,none⟩) n cap)) w' st.glob.toks∧
 UpL E st.boxes st.toks (E.newTok k w.heap.size (n*m) (.slice (some ⟨w.heap.size,0,none⟩) n cap)) st.boxes (st.toks.set k (nextGen (st.toks.get k),some (m,n)))∧
 MRel (E.newTok k w.heap.size (n*m) (.slice (some ⟨w.heap.size,0,none⟩) n cap)) w' {st with toks:=st.toks.set k (nextGen (st.toks.get k),some (m,n))}:=by
 have hlt:∀b ow,E.owner b=some ow→b≠w.heap.size:=λb ow hb e=>by have:=h.g.own_lt b ow hb;omega
 generalize hv:Value.slice (some ⟨w.heap.size,0,none⟩) n cap=v
 have hu:Up E w st.glob.toks (E.newTok k w.heap.size (n*m) v) w' st.glob.toks:=
  ⟨p.os,p.tape,p.output,by rw[p.size];omega,Nat.le_refl _,λi hi=>rfl,λ_ _ hi=>.inl hi,λb i hi=>p.cell (h.g.imm_lt b i hi),
   λb hb ho=>⟨p.old hb,by have:b≠w.heap.size:=by omega
                          simp[Em.newTok,this,ho],λi hi=>hi.resolve_right (λe=>by omega)⟩,λ_ _ n hg=>⟨n,hg,Nat.le_refl _,λ_=>rfl⟩,λ_ _ n hg=>⟨n,hg,Nat.le_refl _,λ_=>rfl⟩,λ_ _ h=>Em.newTok_tok h⟩
 have hl:UpL E st.boxes st.toks (E.newTok k w.heap.size (n*m) v) st.boxes (st.toks.set k (nextGen (st.toks.get k),some (m,n))):=by
  refine⟨λ_ g bx h=>⟨g,bx,h,Nat.le_refl _,λ_=>rfl⟩,λi g r hr=>?_⟩
  by_cases hik:k=i
  ·subst hik
   refine⟨_,_,Mp.get_set_same _ _ _,?_,?_⟩
   ·rw[hr];simp[nextGen]
   ·rw[hr];intro e;simp[nextGen] at e
  ·refine⟨g,r,by rw[Mp.get_set_ne _ _ hik];exact hr,Nat.le_refl _,λ_ m' n' e=>⟨n',e,Nat.le_refl _,λ_=>?_⟩⟩
   simp only[Em.newTok]
   exact upd_ne _ _ (λe=>hik e.symm)
 have keep:∀ow,ow≠.tok k→Keep E w (E.newTok k w.heap.size (n*m) v) w' ow:=λow how b hb=>by
  have h1:=hlt b ow hb
  have h2:=h.g.own_lt b ow hb
  refine⟨p.old h2,?_,λi=>⟨λhi=>hi.resolve_right (λe=>by omega),.inl⟩⟩
  have:¬ow=.tok k:=how
  simp[Em.newTok,h1,hb,this]
 refine⟨hu,hl,h.step hu hl h.g.gk ?_ ?_ h.g.ng ?_ ?_ ?_ ?_ ?_⟩
 ·intro b ow hb
  rw[p.size]
  by_cases e:b=w.heap.size
  ·omega
  ·simp only[Em.newTok,e,if_false] at hb
   split at hb
   ·cases hb
   ·have:=h.g.own_lt b ow hb;omega
 ·intro b i hi
  rw[p.size]
  rcases hi with hi|⟨rfl,_⟩
  ·have:=h.g.imm_lt b i hi;omega
  ·omega
 ·exact λi b hb=>.inl ⟨hb,keep _ (by simp)⟩
 ·exact λi m n hm=>.inl ⟨hm,keep _ (by simp),rfl⟩
 ·exact λi g b hb=>.inl ⟨hb,keep _ (by simp),rfl⟩
 ·intro i g m' n' hm'
  by_cases hik:k=i
  ·subst hik
   right
   rw[Mp.get_set_same] at hm'
   cases hm'
   have e:(E.newTok k w.heap.size (n*m) v).tk k=v:=by simp[Em.newTok]
   rw[e,←hv]
   refine⟨w.heap.size,cap,cur,t,rfl,p.new,hnc,hcur,hm,by simp[Em.newTok],λo=>⟨λho=>?_,λho=>.inr ⟨rfl,ho⟩⟩⟩
   rcases ho with ho|⟨_,ho⟩
   ·have:=h.g.imm_lt _ _ ho;omega
   ·exact ho
  ·left
   rw[Mp.get_set_ne _ _ hik] at hm'
   refine⟨hm',keep _ (λe=>hik (by cases e;rfl)),?_⟩
   simp only[Em.newTok]
   exact upd_ne _ _ (λe=>hik e.symm)
 ·intro b i hb
  first
   |exact h.g.own_g b i hb
   |(simp only[Em.newBox,Em.newTok,Em.newGlob,Em.newImm,upd] at hb
     repeat' (split at hb)
     all_goals first|(cases hb;done)|exact h.g.own_g b i hb)
theorem MRel.setBox(h:MRel E w st){k g:Nat}{bx bx':Box}(hk:st.boxes.get k=some (g,bx)){o:Obj}(p:Wrote w w' (E.bx k) o)
 (hB:∀E' T',(∀c v,RepV E w st.tabs c v→RepV E' w' T' c v)→(∀d v,Rep E w d v→Rep E' w' d v)→BoxAt E' w' T' (E.bx k) bx'):
 Up E w st.glob.toks E w' st.glob.toks∧UpL E st.boxes st.toks E (st.boxes.set k (g,bx')) st.toks∧
 MRel E w' {st with boxes:=st.boxes.set k (g,bx')}:=by
 obtain⟨q1,q2,q3⟩:=h.boxes k g bx hk
 have hu:Up E w st.glob.toks E w' st.glob.toks:=
  ⟨p.os,p.tape,p.output,by rw[p.size];exact Nat.le_refl _,Nat.le_refl _,λi hi=>rfl,λ_ _ hi=>hi,
   λb i hi=>p.cell (λe=>q2 i (e▸hi)),
   λb hb ho=>⟨p.old b (λe=>by rw[e,q1] at ho;cases ho),ho,λi hi=>hi⟩,λ_ _ n hg=>⟨n,hg,Nat.le_refl _,λ_=>rfl⟩,λ_ _ n hg=>⟨n,hg,Nat.le_refl _,λ_=>rfl⟩,λ_ _ h=>.inl h⟩
 have hl:UpL E st.boxes st.toks E (st.boxes.set k (g,bx')) st.toks:=by
  refine⟨λi g' b hb=>?_,λi g r hr=>⟨g,r,hr,Nat.le_refl _,λ_ m' n' e=>⟨n',e,Nat.le_refl _,λ_=>rfl⟩⟩⟩
  by_cases hik:k=i
  ·subst hik
   rw[hk] at hb
   cases hb
   exact⟨_,_,Mp.get_set_same _ _ _,Nat.le_refl _,λ_=>rfl⟩
  ·exact⟨g',b,by rw[Mp.get_set_ne _ _ hik];exact hb,Nat.le_refl _,λ_=>rfl⟩
 have keep:∀ow,ow≠.box k→Keep E w E w' ow:=λow how b hb=>
  ⟨p.old b (λe=>how (by rw[e,q1] at hb;cases hb;rfl)),hb,λ_=>Iff.rfl⟩
 refine⟨hu,hl,h.step hu hl h.g.gk ?_ ?_ h.g.ng ?_ ?_ ?_ ?_ ?_⟩
 ·intro b ow hb;rw[p.size];exact h.g.own_lt b ow hb
 ·intro b i hi;rw[p.size];exact h.g.imm_lt b i hi
 ·exact λi b hb=>.inl ⟨hb,keep _ (by simp)⟩
 ·exact λi m n hm=>.inl ⟨hm,keep _ (by simp),rfl⟩
 ·intro i g' b hb
  by_cases hik:k=i
  ·subst hik
   right
   rw[Mp.get_set_same] at hb
   cases hb
   exact⟨q1,q2,hB _ _ (λc v hc=>RepV.up hu hl hc) (λd v hd=>hd.up hu)⟩
  ·left
   rw[Mp.get_set_ne _ _ hik] at hb
   exact⟨hb,keep _ (λe=>hik (by cases e;rfl)),rfl⟩
 ·exact λi g m n hm=>.inl ⟨hm,keep _ (by simp),rfl⟩
 ·intro b i hb
  first
   |exact h.g.own_g b i hb
   |(simp only[Em.newBox,Em.newTok,Em.newGlob,Em.newImm,upd] at hb
     repeat' (split at hb)
     all_goals first|(cases hb;done)|exact h.g.own_g b i hb)
theorem MRel.setGlob(h:MRel E w st){i:Nat}{bx bx':GBox}(hk:st.glob.boxes[i]?=some bx){o:Obj}(p:Wrote w w' (E.gb i) o)
 (hB:∀E',(∀c v,RepV E w ⟨⟨[]⟩,⟨[]⟩,st.glob.toks⟩ c v→RepV E' w' ⟨⟨[]⟩,⟨[]⟩,st.glob.toks⟩ c v)→(∀d v,Rep E w d v→Rep E' w' d v)→GBoxAt E' w' st.glob.toks (E.gb i) bx'):
 Up E w st.glob.toks E w' st.glob.toks∧UpL E st.boxes st.toks E st.boxes st.toks∧
 MRel E w' {st with glob:={st.glob with boxes:=st.glob.boxes.set i bx'}}:=by
 obtain⟨q1,q2,q3⟩:=h.g.boxes i bx hk
 have hlt:i<st.glob.boxes.length:=(List.getElem?_eq_some_iff.1 hk).1
 have hu:Up E w st.glob.toks E w' st.glob.toks:=
  ⟨p.os,p.tape,p.output,by rw[p.size];exact Nat.le_refl _,Nat.le_refl _,λi hi=>rfl,λ_ _ hi=>hi,
   λb i hi=>p.cell (λe=>q2 i (e▸hi)),
   λb hb ho=>⟨p.old b (λe=>by rw[e,q1] at ho;cases ho),ho,λi hi=>hi⟩,λ_ _ n hg=>⟨n,hg,Nat.le_refl _,λ_=>rfl⟩,λ_ _ n hg=>⟨n,hg,Nat.le_refl _,λ_=>rfl⟩,λ_ _ h=>.inl h⟩
 have hl:UpL E st.boxes st.toks E st.boxes st.toks:=UpL.refl _ _ _
 have keep:∀ow,ow≠.glob i→Keep E w E w' ow:=λow how b hb=>
  ⟨p.old b (λe=>how (by rw[e,q1] at hb;cases hb;rfl)),hb,λ_=>Iff.rfl⟩
 refine⟨hu,hl,h.step hu hl h.g.gk ?_ ?_ ?_ ?_ ?_ ?_ ?_ ?_⟩
 ·intro b ow hb;rw[p.size];exact h.g.own_lt b ow hb
 ·intro b i hi;rw[p.size];exact h.g.imm_lt b i hi
 ·simp[h.g.ng]
 ·intro j b hb
  by_cases hij:i=j
  ·subst hij
   right
   rw[List.getElem?_set_self hlt] at hb
   cases hb
   exact⟨q1,q2,hB _ (λc v hc=>RepV.up hu (UpL.refl _ _ _) hc) (λd v hd=>hd.up hu)⟩
  ·left
   rw[List.getElem?_set_ne hij] at hb
   exact⟨hb,keep _ (λe=>hij (by cases e;rfl))⟩
 ·exact λi m n hm=>.inl ⟨hm,keep _ (by simp),rfl⟩
 ·exact λi g b hb=>.inl ⟨hb,keep _ (by simp),rfl⟩
 ·exact λi g m n hm=>.inl ⟨hm,keep _ (by simp),rfl⟩
 ·intro b i hb
  first
   |exact h.g.own_g b i hb
   |(simp only[Em.newBox,Em.newTok,Em.newGlob,Em.newImm,upd] at hb
     repeat' (split at hb)
     all_goals first|(cases hb;done)|exact h.g.own_g b i hb)
end
end Go.Proofs.YtgmapdcdmomioaaGreatDoor.Am
namespace Go.Proofs.YtgmapdcdmomioaaGreatDoor.Am
open Go
def Em.longer(E:Em)(b len:Nat):Em:={E with imm:=λb' o=>E.imm b' o∨(b'=b∧o<len)}
def Em.newGtok(E:Em)(g n len:Nat)(kk:Nat×Nat)(v:Value):Em:=
 {E with owner:=λb=>if b=n then some (.gtok g) else if E.owner b=some (.gtok g) then none else E.owner b,gt:=upd E.gt g v,gk:=upd E.gk g (some kk),
         imm:=λb o=>E.imm b o∨(b=n∧o<len)}
def Em.hand(E:Em)(k j:Nat)(kk:Nat×Nat):Em:=
 {E with owner:=λb=>if E.owner b=some (.tok k) then some (.gtok j) else E.owner b,gt:=upd E.gt j (E.tk k),gk:=upd E.gk j (some kk)}
theorem Em.newGtok_tok{E:Em}{g n len b k':Nat}{kk:Nat×Nat}{v:Value}(h:(E.newGtok g n len kk v).owner b=some (.tok k')):E.owner b=some (.tok k')∨n≤b:=by
 simp only[Em.newGtok] at h
 split at h
 ·cases h
 ·split at h
  ·cases h
  ·exact .inl h
theorem Em.hand_tok{E:Em}{k j b k':Nat}{kk:Nat×Nat}(h:(E.hand k j kk).owner b=some (.tok k')):E.owner b=some (.tok k'):=by
 simp only[Em.hand] at h
 split at h
 ·cases h
 ·exact h
section
variable{E:Em}{w w':World}{st:St}
theorem MRel.roomTok(h:MRel E w st){k g m n a b cap:Nat}{cur cur':Array Value}{t:TypeId}(hk:st.toks.get k=some (g,some (m,n)))(hv:E.tk k=.slice (some ⟨b,0,none⟩) n cap)
 (hb:w.heap[b]?=some (.cells cur t (0,0))) (p:Wrote w w' b (.cells cur' t (0,0))) (hs:cur'.size=cur.size) (hpre:∀o,o<n*m→cur'[o]?=cur[o]?) (ha:0<a) (hroom:n+a≤cap):
 Up E w st.glob.toks {E.longer b ((n+a)*m) with tk:=upd E.tk k (.slice (some ⟨b,0,none⟩) (n+a) cap)} w' st.glob.toks∧
 UpL E st.boxes st.toks {E.longer b ((n+a)*m) with tk:=upd E.tk k (.slice (some ⟨b,0,none⟩) (n+a) cap)} st.boxes (st.toks.set k (g,some (m,n+a)))∧
 MRel {E.longer b ((n+a)*m) with tk:=upd E.tk k (.slice (some ⟨b,0,none⟩) (n+a) cap)} w' {st with toks:=st.toks.set k (g,some (m,n+a))}:=by
 obtain⟨b',cap',cur0,t',e1,e2,e3,e4,e5,e6,e7⟩:=h.toks k g m n hk
 rw[hv] at e1
 cases e1
 rw[hb] at e2
 cases e2
 have himm:∀b' o,E.imm b' o→w'.cell? ⟨b',o,none⟩=w.cell? ⟨b',o,none⟩:=λb' o ho=>by
  by_cases e:b'=b
  ·subst e
   have:=hpre o ((e7 o).1 ho)
   simp[World.cell?,hb,p.new,this]
  ·exact p.cell e
 have hu:Up E w st.glob.toks {E.longer b ((n+a)*m) with tk:=upd E.tk k (.slice (some ⟨b,0,none⟩) (n+a) cap)} w' st.glob.toks:=
  ⟨p.os,p.tape,p.output,by rw[p.size];exact Nat.le_refl _,Nat.le_refl _,λi hi=>rfl,λ_ _ hi=>.inl hi,himm,
   λb' hb' ho=>⟨p.old b' (λe=>by rw[e,e6] at ho;cases ho),ho,λi hi=>hi.resolve_right (λe=>by rw[e.1,e6] at ho;cases ho)⟩,
   λ_ _ n hg=>⟨n,hg,Nat.le_refl _,λ_=>rfl⟩,λ_ _ n hg=>⟨n,hg,Nat.le_refl _,λ_=>rfl⟩,λ_ _ h=>.inl h⟩
 have hl:UpL E st.boxes st.toks {E.longer b ((n+a)*m) with tk:=upd E.tk k (.slice (some ⟨b,0,none⟩) (n+a) cap)} st.boxes (st.toks.set k (g,some (m,n+a))):=by
  refine⟨λ_ g bx h=>⟨g,bx,h,Nat.le_refl _,λ_=>rfl⟩,λi g' r hr=>?_⟩
  by_cases hik:k=i
  ·subst hik
   rw[hk] at hr
   cases hr
   refine⟨_,_,Mp.get_set_same _ _ _,Nat.le_refl _,λ_ m' n' e=>?_⟩
   cases e
   exact⟨n,rfl,by omega,λe=>by omega⟩
  ·refine⟨g',r,by rw[Mp.get_set_ne _ _ hik];exact hr,Nat.le_refl _,λ_ m' n' e=>⟨n',e,Nat.le_refl _,λ_=>?_⟩⟩
   exact upd_ne _ _ (λe=>hik e.symm)
 have keep:∀ow,ow≠.tok k→Keep E w {E.longer b ((n+a)*m) with tk:=upd E.tk k (.slice (some ⟨b,0,none⟩) (n+a) cap)} w' ow:=λow how b' hb'=>by
  have hne:b'≠b:=λe=>how (by rw[e,e6] at hb';cases hb';rfl)
  exact⟨p.old b' hne,hb',λi=>⟨λhi=>hi.resolve_right (λe=>hne e.1),.inl⟩⟩
 refine⟨hu,hl,h.step hu hl h.g.gk ?_ ?_ h.g.ng ?_ ?_ ?_ ?_ ?_⟩
 ·intro b ow hb;rw[p.size];exact h.g.own_lt b ow hb
 ·intro b' i hi
  rw[p.size]
  rcases hi with hi|⟨rfl,_⟩
  ·exact h.g.imm_lt b' i hi
  ·exact p.lt
 ·exact λi b hb=>.inl ⟨hb,keep _ (by simp)⟩
 ·exact λi m n hm=>.inl ⟨hm,keep _ (by simp),rfl⟩
 ·exact λi g b hb=>.inl ⟨hb,keep _ (by simp),rfl⟩
 ·intro i g' m' n' hm'
  by_cases hik:k=i
  ·subst hik
   right
   rw[Mp.get_set_same] at hm'
   cases hm'
   show TokAt _ _ _ (upd E.tk k _ k) _ _
   rw[upd_same]
   refine⟨b,cap,cur',t,rfl,p.new,hroom,by rw[hs];exact e4,e5,e6,λo=>⟨λho=>?_,λho=>.inr ⟨rfl,ho⟩⟩⟩
   rcases ho with ho|⟨_,ho⟩
   ·have:=(e7 o).1 ho
    exact Nat.lt_of_lt_of_le this (Nat.mul_le_mul_right _ (by omega))
   ·exact ho
  ·left
   rw[Mp.get_set_ne _ _ hik] at hm'
   exact⟨hm',keep _ (λe=>hik (by cases e;rfl)),upd_ne _ _ (λe=>hik e.symm)⟩
 ·intro b i hb
  first
   |exact h.g.own_g b i hb
   |(simp only[Em.newBox,Em.newTok,Em.newGlob,Em.newGtok,Em.hand,Em.longer,Em.newImm,upd] at hb
     repeat' (split at hb)
     all_goals first
      |(cases hb;done)
      |exact h.g.own_g b i hb
      |(have:=h.g.own_g b i hb;simp;omega)
      |(cases hb;simp;done)
      |(cases hb;simpa using hgl))
   |(have:=h.g.own_g b i hb;simp;omega)
theorem MRel.growTok(h:MRel E w st){k g m n a cap:Nat}{cur:Array Value}{t:TypeId}(hk:st.toks.get k=some (g,some (m,n)))
 (p:Pushed w w' (.cells cur t (0,0))) (ha:0<a) (hroom:n+a≤cap) (hcur:cur.size=cap*m) (hm:0<m):
 Up E w st.glob.toks (E.newTok k w.heap.size ((n+a)*m) (.slice (some ⟨w.heap.size,0,none⟩) (n+a) cap)) w' st.glob.toks∧
 UpL E st.boxes st.toks (E.newTok k w.heap.size ((n+a)*m) (.slice (some ⟨w.heap.size,0,none⟩) (n+a) cap)) st.boxes (st.toks.set k (g,some (m,n+a)))∧
 MRel (E.newTok k w.heap.size ((n+a)*m) (.slice (some ⟨w.heap.size,0,none⟩) (n+a) cap)) w' {st with toks:=st.toks.set k (g,some (m,n+a))}:=by
 have hlt:∀b ow,E.owner b=some ow→b≠w.heap.size:=λb ow hb e=>by have:=h.g.own_lt b ow hb;omega
 generalize hv:Value.slice (some ⟨w.heap.size,0,none⟩) (n+a) cap=v
 have hu:Up E w st.glob.toks (E.newTok k w.heap.size ((n+a)*m) v) w' st.glob.toks:=
  ⟨p.os,p.tape,p.output,by rw[p.size];omega,Nat.le_refl _,λi hi=>rfl,λ_ _ hi=>.inl hi,λb i hi=>p.cell (h.g.imm_lt b i hi),
   λb hb ho=>⟨p.old hb,by have:b≠w.heap.size:=by omega
                          simp[Em.newTok,this,ho],λi hi=>hi.resolve_right (λe=>by omega)⟩,λ_ _ n hg=>⟨n,hg,Nat.le_refl _,λ_=>rfl⟩,λ_ _ n hg=>⟨n,hg,Nat.le_refl _,λ_=>rfl⟩,λ_ _ h=>Em.newTok_tok h⟩
 have hl:UpL E st.boxes st.toks (E.newTok k w.heap.size ((n+a)*m) v) st.boxes (st.toks.set k (g,some (m,n+a))):=by
  refine⟨λ_ g bx h=>⟨g,bx,h,Nat.le_refl _,λ_=>rfl⟩,λi g' r hr=>?_⟩
  by_cases hik:k=i
  ·subst hik
   rw[hk] at hr
   cases hr
   refine⟨_,_,Mp.get_set_same _ _ _,Nat.le_refl _,λ_ m' n' e=>?_⟩
   cases e
   exact⟨n,rfl,by omega,λe=>by omega⟩
  ·refine⟨g',r,by rw[Mp.get_set_ne _ _ hik];exact hr,Nat.le_refl _,λ_ m' n' e=>⟨n',e,Nat.le_refl _,λ_=>?_⟩⟩
   simp only[Em.newTok]
   exact upd_ne _ _ (λe=>hik e.symm)
 have keep:∀ow,ow≠.tok k→Keep E w (E.newTok k w.heap.size ((n+a)*m) v) w' ow:=λow how b hb=>by
  have h1:=hlt b ow hb
  have h2:=h.g.own_lt b ow hb
  refine⟨p.old h2,?_,λi=>⟨λhi=>hi.resolve_right (λe=>by omega),.inl⟩⟩
  have:¬ow=.tok k:=how
  simp[Em.newTok,h1,hb,this]
 refine⟨hu,hl,h.step hu hl h.g.gk ?_ ?_ h.g.ng ?_ ?_ ?_ ?_ ?_⟩
 ·intro b ow hb
  rw[p.size]
  by_cases e:b=w.heap.size
  ·omega
  ·simp only[Em.newTok,e,if_false] at hb
   split at hb
   ·cases hb
   ·have:=h.g.own_lt b ow hb;omega
 ·intro b i hi
  rw[p.size]
  rcases hi with hi|⟨rfl,_⟩
  ·have:=h.g.imm_lt b i hi;omega
  ·omega
 ·exact λi b hb=>.inl ⟨hb,keep _ (by simp)⟩
 ·exact λi m n hm=>.inl ⟨hm,keep _ (by simp),rfl⟩
 ·exact λi g b hb=>.inl ⟨hb,keep _ (by simp),rfl⟩
 ·intro i g' m' n' hm'
  by_cases hik:k=i
  ·subst hik
   right
   rw[Mp.get_set_same] at hm'
   cases hm'
   have e:(E.newTok k w.heap.size ((n+a)*m) v).tk k=v:=by simp[Em.newTok]
   rw[e,←hv]
   refine⟨w.heap.size,cap,cur,t,rfl,p.new,hroom,hcur,hm,by simp[Em.newTok],λo=>⟨λho=>?_,λho=>.inr ⟨rfl,ho⟩⟩⟩
   rcases ho with ho|⟨_,ho⟩
   ·have:=h.g.imm_lt _ _ ho;omega
   ·exact ho
  ·left
   rw[Mp.get_set_ne _ _ hik] at hm'
   refine⟨hm',keep _ (λe=>hik (by cases e;rfl)),?_⟩
   simp only[Em.newTok]
   exact upd_ne _ _ (λe=>hik e.symm)
 ·intro b i hb
  first
   |exact h.g.own_g b i hb
   |(simp only[Em.newBox,Em.newTok,Em.newGlob,Em.newGtok,Em.hand,Em.longer,Em.newImm,upd] at hb
     repeat' (split at hb)
     all_goals first
      |(cases hb;done)
      |exact h.g.own_g b i hb
      |(have:=h.g.own_g b i hb;simp;omega)
      |(cases hb;simp;done)
      |(cases hb;simpa using hgl))
   |(have:=h.g.own_g b i hb;simp;omega)
theorem MRel.roomGtok(h:MRel E w st){g m n a b cap:Nat}{cur cur':Array Value}{t:TypeId}(hk:st.glob.toks[g]?=some (m,n))(hv:E.gt g=.slice (some ⟨b,0,none⟩) n cap)
 (hb:w.heap[b]?=some (.cells cur t (0,0))) (p:Wrote w w' b (.cells cur' t (0,0))) (hs:cur'.size=cur.size) (hpre:∀o,o<n*m→cur'[o]?=cur[o]?) (ha:0<a) (hroom:n+a≤cap):
 Up E w st.glob.toks {E.longer b ((n+a)*m) with gt:=upd E.gt g (.slice (some ⟨b,0,none⟩) (n+a) cap),gk:=upd E.gk g (some (m,n+a))} w' (st.glob.toks.set g (m,n+a))∧
 UpL E st.boxes st.toks {E.longer b ((n+a)*m) with gt:=upd E.gt g (.slice (some ⟨b,0,none⟩) (n+a) cap),gk:=upd E.gk g (some (m,n+a))} st.boxes st.toks∧
 MRel {E.longer b ((n+a)*m) with gt:=upd E.gt g (.slice (some ⟨b,0,none⟩) (n+a) cap),gk:=upd E.gk g (some (m,n+a))} w' {st with glob:={st.glob with toks:=st.glob.toks.set g (m,n+a)}}:=by
 obtain⟨b',cap',cur0,t',e1,e2,e3,e4,e5,e6,e7⟩:=h.g.toks g m n hk
 rw[hv] at e1
 cases e1
 rw[hb] at e2
 cases e2
 have hlt:g<st.glob.toks.length:=(List.getElem?_eq_some_iff.1 hk).1
 have himm:∀b' o,E.imm b' o→w'.cell? ⟨b',o,none⟩=w.cell? ⟨b',o,none⟩:=λb' o ho=>by
  by_cases e:b'=b
  ·subst e
   have:=hpre o ((e7 o).1 ho)
   simp[World.cell?,hb,p.new,this]
  ·exact p.cell e
 have hu:Up E w st.glob.toks {E.longer b ((n+a)*m) with gt:=upd E.gt g (.slice (some ⟨b,0,none⟩) (n+a) cap),gk:=upd E.gk g (some (m,n+a))} w' (st.glob.toks.set g (m,n+a)):=by
  refine⟨p.os,p.tape,p.output,by rw[p.size];exact Nat.le_refl _,Nat.le_refl _,λi hi=>rfl,λ_ _ hi=>.inl hi,himm,
   λb' hb' ho=>⟨p.old b' (λe=>by rw[e,e6] at ho;cases ho),ho,λi hi=>hi.resolve_right (λe=>by rw[e.1,e6] at ho;cases ho)⟩,λi m' n' hg=>?_,?_,λ_ _ h=>.inl h⟩
  ·by_cases hik:g=i
   ·subst hik
    rw[hk] at hg
    cases hg
    exact⟨n+a,by rw[List.getElem?_set_self hlt],by omega,λe=>by omega⟩
   ·exact⟨n',by rw[List.getElem?_set_ne hik];exact hg,Nat.le_refl _,λ_=>upd_ne _ _ (λe=>hik e.symm)⟩
  ·intro i m' n' hg
   rw[h.g.gk] at hg
   by_cases hik:g=i
   ·subst hik
    rw[hk] at hg
    cases hg
    exact⟨n+a,upd_same _ _ _,by omega,λe=>by omega⟩
   ·refine⟨n',(upd_ne _ _ (λe=>hik e.symm)).trans ?_,Nat.le_refl _,λ_=>upd_ne _ _ (λe=>hik e.symm)⟩
    rw[h.g.gk];exact hg
 have hl:UpL E st.boxes st.toks {E.longer b ((n+a)*m) with gt:=upd E.gt g (.slice (some ⟨b,0,none⟩) (n+a) cap),gk:=upd E.gk g (some (m,n+a))} st.boxes st.toks:=
  ⟨λ_ g bx h=>⟨g,bx,h,Nat.le_refl _,λ_=>rfl⟩,λ_ g r h=>⟨g,r,h,Nat.le_refl _,λ_ m' n' hr=>⟨n',hr,Nat.le_refl _,λ_=>rfl⟩⟩⟩
 have hgk:∀i:Nat,(upd E.gk g (some (m,n+a))) i=(st.glob.toks.set g (m,n+a))[i]?:=λi=>by
  by_cases hik:g=i
  ·subst hik;rw[upd_same,List.getElem?_set_self hlt]
  ·rw[upd_ne _ _ (λe=>hik e.symm),List.getElem?_set_ne hik];exact h.g.gk i
 have keep:∀ow,ow≠.gtok g→Keep E w {E.longer b ((n+a)*m) with gt:=upd E.gt g (.slice (some ⟨b,0,none⟩) (n+a) cap),gk:=upd E.gk g (some (m,n+a))} w' ow:=λow how b' hb'=>by
  have hne:b'≠b:=λe=>how (by rw[e,e6] at hb';cases hb';rfl)
  exact⟨p.old b' hne,hb',λi=>⟨λhi=>hi.resolve_right (λe=>hne e.1),.inl⟩⟩
 refine⟨hu,hl,h.step hu hl hgk ?_ ?_ h.g.ng ?_ ?_ ?_ ?_ ?_⟩
 ·intro b ow hb;rw[p.size];exact h.g.own_lt b ow hb
 ·intro b' i hi
  rw[p.size]
  rcases hi with hi|⟨rfl,_⟩
  ·exact h.g.imm_lt b' i hi
  ·exact p.lt
 ·exact λi b hb=>.inl ⟨hb,keep _ (by simp)⟩
 ·intro i m' n' hm'
  by_cases hik:g=i
  ·subst hik
   right
   rw[List.getElem?_set_self hlt] at hm'
   cases hm'
   show TokAt _ _ _ (upd E.gt g _ g) _ _
   rw[upd_same]
   refine⟨b,cap,cur',t,rfl,p.new,hroom,by rw[hs];exact e4,e5,e6,λo=>⟨λho=>?_,λho=>.inr ⟨rfl,ho⟩⟩⟩
   rcases ho with ho|⟨_,ho⟩
   ·have:=(e7 o).1 ho
    exact Nat.lt_of_lt_of_le this (Nat.mul_le_mul_right _ (by omega))
   ·exact ho
  ·left
   rw[List.getElem?_set_ne hik] at hm'
   exact⟨hm',keep _ (λe=>hik (by cases e;rfl)),upd_ne _ _ (λe=>hik e.symm)⟩
 ·exact λi g b hb=>.inl ⟨hb,keep _ (by simp),rfl⟩
 ·exact λi g m n hm=>.inl ⟨hm,keep _ (by simp),rfl⟩
 ·intro b i hb
  first
   |exact h.g.own_g b i hb
   |(simp only[Em.newBox,Em.newTok,Em.newGlob,Em.newGtok,Em.hand,Em.longer,Em.newImm,upd] at hb
     repeat' (split at hb)
     all_goals first
      |(cases hb;done)
      |exact h.g.own_g b i hb
      |(have:=h.g.own_g b i hb;simp;omega)
      |(cases hb;simp;done)
      |(cases hb;simpa using hgl))
   |(have:=h.g.own_g b i hb;simp;omega)
theorem MRel.growGtok(h:MRel E w st){g m n a cap:Nat}{cur:Array Value}{t:TypeId}(hk:st.glob.toks[g]?=some (m,n))
 (p:Pushed w w' (.cells cur t (0,0))) (ha:0<a) (hroom:n+a≤cap) (hcur:cur.size=cap*m) (hm:0<m):
 Up E w st.glob.toks (E.newGtok g w.heap.size ((n+a)*m) (m,n+a) (.slice (some ⟨w.heap.size,0,none⟩) (n+a) cap)) w' (st.glob.toks.set g (m,n+a))∧
 UpL E st.boxes st.toks (E.newGtok g w.heap.size ((n+a)*m) (m,n+a) (.slice (some ⟨w.heap.size,0,none⟩) (n+a) cap)) st.boxes st.toks∧
 MRel (E.newGtok g w.heap.size ((n+a)*m) (m,n+a) (.slice (some ⟨w.heap.size,0,none⟩) (n+a) cap)) w' {st with glob:={st.glob with toks:=st.glob.toks.set g (m,n+a)}}:=by
 have hlt:∀b ow,E.owner b=some ow→b≠w.heap.size:=λb ow hb e=>by have:=h.g.own_lt b ow hb;omega
 have hgl:g<st.glob.toks.length:=(List.getElem?_eq_some_iff.1 hk).1
 generalize hv:Value.slice (some ⟨w.heap.size,0,none⟩) (n+a) cap=v
 have hu:Up E w st.glob.toks (E.newGtok g w.heap.size ((n+a)*m) (m,n+a) v) w' (st.glob.toks.set g (m,n+a)):=by
  refine⟨p.os,p.tape,p.output,by rw[p.size];omega,Nat.le_refl _,λi hi=>rfl,λ_ _ hi=>.inl hi,λb i hi=>p.cell (h.g.imm_lt b i hi),
   λb hb ho=>⟨p.old hb,by have:b≠w.heap.size:=by omega
                          simp[Em.newGtok,this,ho],λi hi=>hi.resolve_right (λe=>by omega)⟩,λi m' n' hg=>?_,?_,λ_ _ h=>Em.newGtok_tok h⟩
  ·by_cases hik:g=i
   ·subst hik
    rw[hk] at hg
    cases hg
    exact⟨n+a,by rw[List.getElem?_set_self hgl],by omega,λe=>by omega⟩
   ·exact⟨n',by rw[List.getElem?_set_ne hik];exact hg,Nat.le_refl _,λ_=>upd_ne _ _ (λe=>hik e.symm)⟩
  ·intro i m' n' hg
   rw[h.g.gk] at hg
   by_cases hik:g=i
   ·subst hik
    rw[hk] at hg
    cases hg
    exact⟨n+a,upd_same _ _ _,by omega,λe=>by omega⟩
   ·refine⟨n',(upd_ne _ _ (λe=>hik e.symm)).trans ?_,Nat.le_refl _,λ_=>upd_ne _ _ (λe=>hik e.symm)⟩
    rw[h.g.gk];exact hg
 have hl:UpL E st.boxes st.toks (E.newGtok g w.heap.size ((n+a)*m) (m,n+a) v) st.boxes st.toks:=
  ⟨λ_ g bx h=>⟨g,bx,h,Nat.le_refl _,λ_=>rfl⟩,λ_ g r h=>⟨g,r,h,Nat.le_refl _,λ_ m' n' hr=>⟨n',hr,Nat.le_refl _,λ_=>rfl⟩⟩⟩
 have hgk:∀i:Nat,(upd E.gk g (some (m,n+a))) i=(st.glob.toks.set g (m,n+a))[i]?:=λi=>by
  by_cases hik:g=i
  ·subst hik;rw[upd_same,List.getElem?_set_self hgl]
  ·rw[upd_ne _ _ (λe=>hik e.symm),List.getElem?_set_ne hik];exact h.g.gk i
 have keep:∀ow,ow≠.gtok g→Keep E w (E.newGtok g w.heap.size ((n+a)*m) (m,n+a) v) w' ow:=λow how b hb=>by
  have h1:=hlt b ow hb
  have h2:=h.g.own_lt b ow hb
  refine⟨p.old h2,?_,λi=>⟨λhi=>hi.resolve_right (λe=>by omega),.inl⟩⟩
  have:¬ow=.gtok g:=how
  simp[Em.newGtok,h1,hb,this]
 refine⟨hu,hl,h.step hu hl hgk ?_ ?_ h.g.ng ?_ ?_ ?_ ?_ ?_⟩
 ·intro b ow hb
  rw[p.size]
  by_cases e:b=w.heap.size
  ·omega
  ·simp only[Em.newGtok,e,if_false] at hb
   split at hb
   ·cases hb
   ·have:=h.g.own_lt b ow hb;omega
 ·intro b i hi
  rw[p.size]
  rcases hi with hi|⟨rfl,_⟩
  ·have:=h.g.imm_lt b i hi;omega
  ·omega
 ·exact λi b hb=>.inl ⟨hb,keep _ (by simp)⟩
 ·intro i m' n' hm'
  by_cases hik:g=i
  ·subst hik
   right
   rw[List.getElem?_set_self hgl] at hm'
   cases hm'
   have e:(E.newGtok g w.heap.size ((n+a)*m) (m,n+a) v).gt g=v:=by simp[Em.newGtok]
   rw[e,←hv]
   refine⟨w.heap.size,cap,cur,t,rfl,p.new,hroom,hcur,hm,by simp[Em.newGtok],λo=>⟨λho=>?_,λho=>.inr ⟨rfl,ho⟩⟩⟩
   rcases ho with ho|⟨_,ho⟩
   ·have:=h.g.imm_lt _ _ ho;omega
   ·exact ho
  ·left
   rw[List.getElem?_set_ne hik] at hm'
   refine⟨hm',keep _ (λe=>hik (by cases e;rfl)),?_⟩
   simp only[Em.newGtok]
   exact upd_ne _ _ (λe=>hik e.symm)
 ·exact λi g b hb=>.inl ⟨hb,keep _ (by simp),rfl⟩
 ·exact λi g m n hm=>.inl ⟨hm,keep _ (by simp),rfl⟩
 ·intro b i hb
  first
   |exact h.g.own_g b i hb
   |(simp only[Em.newBox,Em.newTok,Em.newGlob,Em.newGtok,Em.hand,Em.longer,Em.newImm,upd] at hb
     repeat' (split at hb)
     all_goals first
      |(cases hb;done)
      |exact h.g.own_g b i hb
      |(have:=h.g.own_g b i hb;simp;omega)
      |(cases hb;simp;done)
      |(cases hb;simpa using hgl))
   |(have:=h.g.own_g b i hb;simp;omega)
theorem MRel.pushGtok(h:MRel E w st){m n cap:Nat}{cur:Array Value}{t:TypeId}(p:Pushed w w' (.cells cur t (0,0)))(hroom:n≤cap)(hcur:cur.size=cap*m)(hm:0<m):
 Up E w st.glob.toks (E.newGtok st.glob.toks.length w.heap.size (n*m) (m,n) (.slice (some ⟨w.heap.size,0,none⟩) n cap)) w' (st.glob.toks++[(m,n)])∧
 UpL E st.boxes st.toks (E.newGtok st.glob.toks.length w.heap.size (n*m) (m,n) (.slice (some ⟨w.heap.size,0,none⟩) n cap)) st.boxes st.toks∧
 MRel (E.newGtok st.glob.toks.length w.heap.size (n*m) (m,n) (.slice (some ⟨w.heap.size,0,none⟩) n cap)) w' {st with glob:={st.glob with toks:=st.glob.toks++[(m,n)]}}:=by
 have hlt:∀b ow,E.owner b=some ow→b≠w.heap.size:=λb ow hb e=>by have:=h.g.own_lt b ow hb;omega
 generalize hv:Value.slice (some ⟨w.heap.size,0,none⟩) n cap=v
 have hu:Up E w st.glob.toks (E.newGtok st.glob.toks.length w.heap.size (n*m) (m,n) v) w' (st.glob.toks++[(m,n)]):=by
  refine⟨p.os,p.tape,p.output,by rw[p.size];omega,Nat.le_refl _,λi hi=>rfl,λ_ _ hi=>.inl hi,λb i hi=>p.cell (h.g.imm_lt b i hi),
   λb hb ho=>⟨p.old hb,by have:b≠w.heap.size:=by omega
                          simp[Em.newGtok,this,ho],λi hi=>hi.resolve_right (λe=>by omega)⟩,λi m' n' hg=>?_,?_,λ_ _ h=>Em.newGtok_tok h⟩
  ·have hlt:i<st.glob.toks.length:=(List.getElem?_eq_some_iff.1 hg).1
   exact⟨n',by rw[List.getElem?_append_left hlt];exact hg,Nat.le_refl _,λ_=>upd_ne _ _ (by omega)⟩
  ·intro i m' n' hg
   rw[h.g.gk] at hg
   have hlt:i<st.glob.toks.length:=(List.getElem?_eq_some_iff.1 hg).1
   refine⟨n',(upd_ne _ _ (by omega)).trans ?_,Nat.le_refl _,λ_=>upd_ne _ _ (by omega)⟩
   rw[h.g.gk];exact hg
 have hgk:∀i:Nat,(upd E.gk st.glob.toks.length (some (m,n))) i=(st.glob.toks++[(m,n)])[i]?:=λi=>by
  by_cases hik:i=st.glob.toks.length
  ·subst hik;rw[upd_same];simp
  ·rw[upd_ne _ _ hik,h.g.gk,List.getElem?_append]
   split
   ·rfl
   ·rw[List.getElem?_eq_none (by omega),List.getElem?_eq_none (by simp;omega)]
 have hl:UpL E st.boxes st.toks (E.newGtok st.glob.toks.length w.heap.size (n*m) (m,n) v) st.boxes st.toks:=
  ⟨λ_ g bx h=>⟨g,bx,h,Nat.le_refl _,λ_=>rfl⟩,λ_ g r h=>⟨g,r,h,Nat.le_refl _,λ_ m' n' hr=>⟨n',hr,Nat.le_refl _,λ_=>rfl⟩⟩⟩
 have keep:∀ow,ow≠.gtok st.glob.toks.length→Keep E w (E.newGtok st.glob.toks.length w.heap.size (n*m) (m,n) v) w' ow:=λow how b hb=>by
  have h1:=hlt b ow hb
  have h2:=h.g.own_lt b ow hb
  refine⟨p.old h2,?_,λi=>⟨λhi=>hi.resolve_right (λe=>by omega),.inl⟩⟩
  have:¬ow=.gtok st.glob.toks.length:=how
  simp[Em.newGtok,h1,hb,this]
 refine⟨hu,hl,h.step hu hl hgk ?_ ?_ h.g.ng ?_ ?_ ?_ ?_ ?_⟩
 ·intro b ow hb
  rw[p.size]
  by_cases e:b=w.heap.size
  ·omega
  ·simp only[Em.newGtok,e,if_false] at hb
   split at hb
   ·cases hb
   ·have:=h.g.own_lt b ow hb;omega
 ·intro b i hi
  rw[p.size]
  rcases hi with hi|⟨rfl,_⟩
  ·have:=h.g.imm_lt b i hi;omega
  ·omega
 ·exact λi b hb=>.inl ⟨hb,keep _ (by simp)⟩
 ·intro i m' n' hm'
  rw[List.getElem?_append] at hm'
  split at hm'
  ·rename_i hlt
   refine .inl ⟨hm',keep _ (by simp;omega),?_⟩
   simp only[Em.newGtok]
   exact upd_ne _ _ (by omega)
  ·right
   have hi:i=st.glob.toks.length:=by
    have:=(List.getElem?_eq_some_iff.1 hm').1
    simp at this
    omega
   subst hi
   simp at hm'
   obtain⟨rfl,rfl⟩:=hm'
   have e:(E.newGtok st.glob.toks.length w.heap.size (n*m) (m,n) v).gt st.glob.toks.length=v:=by simp[Em.newGtok]
   rw[e,←hv]
   refine⟨w.heap.size,cap,cur,t,rfl,p.new,hroom,hcur,hm,by simp[Em.newGtok],λo=>⟨λho=>?_,λho=>.inr ⟨rfl,ho⟩⟩⟩
   rcases ho with ho|⟨_,ho⟩
   ·have:=h.g.imm_lt _ _ ho;omega
   ·exact ho
 ·exact λi g b hb=>.inl ⟨hb,keep _ (by simp),rfl⟩
 ·exact λi g m n hm=>.inl ⟨hm,keep _ (by simp),rfl⟩
 ·intro b i hb
  simp only[Em.newGtok] at hb
  split at hb
  ·cases hb;simp
  ·split at hb
   ·cases hb
   ·have:=h.g.own_g b i hb;simp;omega
theorem MRel.hand(h:MRel E w st){k g m n:Nat}(hk:st.toks.get k=some (g,some (m,n)))(hj:∀b,E.owner b≠some (.gtok st.glob.toks.length)):
 Up E w st.glob.toks (E.hand k st.glob.toks.length (m,n)) w (st.glob.toks++[(m,n)])∧
 UpL E st.boxes st.toks (E.hand k st.glob.toks.length (m,n)) st.boxes (st.toks.set k (g,none))∧
 MRel (E.hand k st.glob.toks.length (m,n)) w {st with toks:=st.toks.set k (g,none),glob:={st.glob with toks:=st.glob.toks++[(m,n)]}}:=by
 have hu:Up E w st.glob.toks (E.hand k st.glob.toks.length (m,n)) w (st.glob.toks++[(m,n)]):=by
  refine⟨rfl,rfl,rfl,Nat.le_refl _,Nat.le_refl _,λi hi=>rfl,λ_ _ hi=>hi,λb i hi=>rfl,λb hb ho=>⟨rfl,by simp[Em.hand,ho],λi hi=>hi⟩,λi m' n' hg=>?_,?_,λ_ _ h=>.inl (Em.hand_tok h)⟩
  ·have hlt:i<st.glob.toks.length:=(List.getElem?_eq_some_iff.1 hg).1
   exact⟨n',by rw[List.getElem?_append_left hlt];exact hg,Nat.le_refl _,λ_=>upd_ne _ _ (by omega)⟩
  ·intro i m' n' hg
   rw[h.g.gk] at hg
   have hlt:i<st.glob.toks.length:=(List.getElem?_eq_some_iff.1 hg).1
   refine⟨n',(upd_ne _ _ (by omega)).trans ?_,Nat.le_refl _,λ_=>upd_ne _ _ (by omega)⟩
   rw[h.g.gk];exact hg
 have hgk:∀i:Nat,(upd E.gk st.glob.toks.length (some (m,n))) i=(st.glob.toks++[(m,n)])[i]?:=λi=>by
  by_cases hik:i=st.glob.toks.length
  ·subst hik;rw[upd_same];simp
  ·rw[upd_ne _ _ hik,h.g.gk,List.getElem?_append]
   split
   ·rfl
   ·rw[List.getElem?_eq_none (by omega),List.getElem?_eq_none (by simp;omega)]
 have hl:UpL E st.boxes st.toks (E.hand k st.glob.toks.length (m,n)) st.boxes (st.toks.set k (g,none)):=by
  refine⟨λ_ g bx h=>⟨g,bx,h,Nat.le_refl _,λ_=>rfl⟩,λi g' r hr=>?_⟩
  by_cases hik:k=i
  ·subst hik
   rw[hk] at hr
   cases hr
   exact⟨_,_,Mp.get_set_same _ _ _,Nat.le_refl _,λ_ m' n' e=>by cases e⟩
  ·exact⟨g',r,by rw[Mp.get_set_ne _ _ hik];exact hr,Nat.le_refl _,λ_ m' n' e=>⟨n',e,Nat.le_refl _,λ_=>rfl⟩⟩
 have keep:∀ow,ow≠.tok k→Keep E w (E.hand k st.glob.toks.length (m,n)) w ow:=λow how b hb=>by
  refine⟨rfl,?_,λi=>Iff.rfl⟩
  have:¬ow=.tok k:=how
  simp[Em.hand,hb,this]
 refine⟨hu,hl,h.step hu hl hgk ?_ ?_ h.g.ng ?_ ?_ ?_ ?_ ?_⟩
 ·intro b ow hb
  by_cases e:E.owner b=some (.tok k)
  ·exact h.g.own_lt b _ e
  ·simp only[Em.hand,e,if_false] at hb
   exact h.g.own_lt b ow hb
 ·exact λb i hi=>h.g.imm_lt b i hi
 ·exact λi b hb=>.inl ⟨hb,keep _ (by simp)⟩
 ·intro i m' n' hm'
  rw[List.getElem?_append] at hm'
  split at hm'
  ·rename_i hlt
   exact .inl ⟨hm',keep _ (by simp),upd_ne _ _ (by omega)⟩
  ·right
   have hi:i=st.glob.toks.length:=by
    have:=(List.getElem?_eq_some_iff.1 hm').1
    simp at this
    omega
   subst hi
   simp at hm'
   obtain⟨rfl,rfl⟩:=hm'
   obtain⟨b,cap,cur,t,e1,e2,e3,e4,e5,e6,e7⟩:=h.toks k g m n hk
   have e:(E.hand k st.glob.toks.length (m,n)).gt st.glob.toks.length=E.tk k:=by simp[Em.hand]
   rw[e]
   exact⟨b,cap,cur,t,e1,e2,e3,e4,e5,by simp[Em.hand,e6],e7⟩
 ·exact λi g b hb=>.inl ⟨hb,keep _ (by simp),rfl⟩
 ·intro i g' m' n' hm'
  by_cases hik:k=i
  ·subst hik
   rw[Mp.get_set_same] at hm'
   cases hm'
  ·left
   rw[Mp.get_set_ne _ _ hik] at hm'
   exact⟨hm',keep _ (λe=>hik (by cases e;rfl)),rfl⟩
 ·intro b i hb
  first
   |exact h.g.own_g b i hb
   |(simp only[Em.newBox,Em.newTok,Em.newGlob,Em.newGtok,Em.hand,Em.longer,Em.newImm,upd] at hb
     repeat' (split at hb)
     all_goals first
      |(cases hb;done)
      |exact h.g.own_g b i hb
      |(have:=h.g.own_g b i hb;simp;omega)
      |(cases hb;simp;done)
      |(cases hb;simpa using hgl))
   |(have:=h.g.own_g b i hb;simp;omega)
end
theorem Rep.sl_inv{E:Em}{w:World}{m:Nat}{xs:List Dat}{v:Value}(h:Rep E w (.sl m xs) v):
 ∃a c,v=.slice a xs.length c∧xs.length≤c∧(∀x∈xs,x.cells.length=m)∧
  (xs=[]∨∃b o,a=some ⟨b,o,none⟩∧∀(i:Nat) x,xs[i]?=some x→∀(j:Nat) d,x.cells[j]?=some d→
   d.one=true∧E.imm b (o+i*m+j)∧∃u,w.cell? ⟨b,o+i*m+j,none⟩=some u∧Rep E w d u):=by
 cases h with
 |emp m a c=>exact⟨a,c,rfl,Nat.zero_le _,by simp,.inl rfl⟩
 |sl m xs b o c vs hc hm h1 h2 h3 h4=>
  exact⟨_,c,rfl,hc,hm,.inr ⟨b,o,rfl,λi x hx j d hd=>⟨h1 i x hx j d hd,h2 i x hx j d hd,_,h3 i x hx j d hd,h4 i x hx j d hd⟩⟩⟩
theorem Rep.sl_of{E:Em}{w:World}{m:Nat}{xs:List Dat}{b o c:Nat}(hc:xs.length≤c)(hm:∀x∈xs,x.cells.length=m)
 (h:∀(i:Nat) x,xs[i]?=some x→∀(j:Nat) d,x.cells[j]?=some d→
  d.one=true∧E.imm b (o+i*m+j)∧∃u,w.cell? ⟨b,o+i*m+j,none⟩=some u∧Rep E w d u):Rep E w (.sl m xs) (.slice (some ⟨b,o,none⟩) xs.length c):=by
 refine .sl m xs b o c (λk=>(w.cell? ⟨b,o+k,none⟩).getD undef) hc hm (λi x hx j d hd=>(h i x hx j d hd).1) (λi x hx j d hd=>(h i x hx j d hd).2.1) (λi x hx j d hd=>?_) (λi x hx j d hd=>?_)
 ·obtain⟨_,_,u,hu,_⟩:=h i x hx j d hd
  rw[←Nat.add_assoc,hu]
  rfl
 ·obtain⟨_,_,u,hu,hr⟩:=h i x hx j d hd
  rw[←Nat.add_assoc,hu]
  exact hr
theorem Rep.sl_news{E:Em}{w:World}{m:Nat}{xs:List Dat}{v:Value}(h:Rep E w (.sl m xs) v):
 ∃news:List Value,news.length=xs.length*m∧(∀u∈news,u.oneCell'=true)∧
  (∀(i:Nat) x,xs[i]?=some x→∀(j:Nat) d,x.cells[j]?=some d→∃u,news[i*m+j]?=some u∧Rep E w d u)∧
  (xs=[]∨∃b o c,v=.slice (some ⟨b,o,none⟩) xs.length c∧∀(j:Nat) u,news[j]?=some u→w.cell? ((⟨b,o,none⟩:Addr).add j)=some u):=by
 obtain⟨a,c,rfl,hc,hm,h0⟩:=h.sl_inv
 rcases h0 with rfl|⟨b,o,rfl,h0⟩
 ·exact⟨[],by simp,by simp,by simp,.inl rfl⟩
 ·have key:∀k,k<xs.length*m→∃(i:Nat) (x:Dat) (j:Nat) (d:Dat),xs[i]?=some x∧x.cells[j]?=some d∧i*m+j=k:=λk hk=>by
   have hm0:0<m:=by
    rcases Nat.eq_zero_or_pos m with e|e
    ·subst e;simp at hk
    ·exact e
   have hi:k/m<xs.length:=Nat.div_lt_of_lt_mul (by rw[Nat.mul_comm];exact hk)
   have hj:k%m<(xs[k/m]).cells.length:=by rw[hm _ (List.getElem_mem hi)];exact Nat.mod_lt _ hm0
   exact⟨k/m,xs[k/m],k%m,_,List.getElem?_eq_getElem hi,List.getElem?_eq_getElem hj,by rw[Nat.mul_comm];exact Nat.div_add_mod k m⟩
  have hadd:∀k,(⟨b,o,none⟩:Addr).add k=⟨b,o+k,none⟩:=λk=>by unfold Addr.add;split<;>simp_all
  refine⟨(List.range (xs.length*m)).map λk=>(w.cell? ⟨b,o+k,none⟩).getD undef,by simp,?_,?_,.inr ⟨b,o,c,rfl,?_⟩⟩
  ·intro u hu
   obtain⟨k,hk,rfl⟩:=List.mem_map.1 hu
   obtain⟨i,x,j,d,hx,hd,e⟩:=key k (List.mem_range.1 hk)
   obtain⟨h1,_,u,hu,hr⟩:=h0 i x hx j d hd
   rw[←e,←Nat.add_assoc,hu]
   exact hr.oneCell h1
  ·intro i x hx j d hd
   obtain⟨h1,_,u,hu,hr⟩:=h0 i x hx j d hd
   have hi:i<xs.length:=(List.getElem?_eq_some_iff.1 hx).1
   have hj:j<x.cells.length:=(List.getElem?_eq_some_iff.1 hd).1
   have hxm:x∈xs:=List.mem_of_getElem? hx
   rw[hm x hxm] at hj
   have hlt:i*m+j<xs.length*m:=by
    have:(i+1)*m≤xs.length*m:=Nat.mul_le_mul_right _ hi
    rw[Nat.add_mul] at this
    omega
   refine⟨u,?_,hr⟩
   rw[List.getElem?_map,List.getElem?_range hlt]
   simp[←Nat.add_assoc,hu]
  ·intro j u hu
   have hlt:j<xs.length*m:=by
    have:=(List.getElem?_eq_some_iff.1 hu).1
    simpa using this
   rw[List.getElem?_map,List.getElem?_range hlt] at hu
   simp at hu
   obtain⟨i,x,j',d,hx,hd,e⟩:=key j hlt
   obtain⟨h1,_,u',hu',hr⟩:=h0 i x hx j' d hd
   rw[hadd,←hu,←e,←Nat.add_assoc,hu']
   rfl
abbrev OGP:=Out→Glob→Prop
end Go.Proofs.YtgmapdcdmomioaaGreatDoor.Am
