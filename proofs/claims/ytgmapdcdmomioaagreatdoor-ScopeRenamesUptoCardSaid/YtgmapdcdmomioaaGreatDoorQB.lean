/- What the plain machine's operations do is what the model's do: those that leave memory alone. What the plain machine's operations do is what the model's do: loads, fields, addresses, slices. What the plain machine's operations do is what the model's do: those that make a value of values. What the plain machine's operations do is what the model's do: operators, conversions, slices of slices, structs. What the plain machine's operations do is what the model's do: binary operators, conversions, slices of slices, structs. What the plain machine's operations do is what the model's do: slices of slices, structs, lengths, the greatest. What the plain machine's operations do is what the model's do: structs, conversions, lengths, the greatest. What the plain machine's operations do is what the model's do: structs, conversions, lengths, the greatest. What the plain machine's operations do is what the model's do: loads, stores, new boxes. -/
import Derived.Test.YtgmapdcdmomioaaGreatDoorQA
import Derived.WalkLawsBesides
import Derived.Lib.Strings
import Derived.Laws.StructEq
set_option linter.all false
set_option autoImplicit false
namespace Go.Proofs.YtgmapdcdmomioaaGreatDoor.Am
open Go
structure Tb.Ok(T:Tb)(P:Program):Prop where
 und:∀t d,T.und t=some d→P.underlying t=some d
 zero:∀t z,T.zero t=some z→∃i zv,P.info? t=some i∧i.zero=some zv∧∀E w,Rep E w z zv
 size:∀t n,T.size t=some n→∃i,P.info? t=some i∧i.size=n
 bytes:∀t n,T.bytes t=some n→∃i,P.info? t=some i∧i.bytes=n
 plain:∀t,T.plain t=true→P.stoodInHeld t=false∧P.eqGuardType P.depth t=false
 fn:∀f fn,T.fn f=some fn→P.funcs[f]?=some fn
 name:∀f fn,T.fn f=some fn→(fn.name== "runtime.NumGoroutine")=false
 mixed:P.follows .mixedOrders=true
 meth:∀t m f,T.meth t m=some f→∀v w,(Go.method (P.types.size+Made.depth) t v m).run P w=.ok (f,v) w
theorem optAll_map{α:Type}{l:List (Option α)}{r:List α}(h:optAll l=some r):l=r.map some:=by
 induction l generalizing r with
 |nil=>simp[optAll] at h;subst h;rfl
 |cons x l ih=>
  cases x with
  |none=>simp[optAll] at h
  |some x=>
   simp only[optAll] at h
   split at h
   ·rename_i r' hr
    cases h
    simp[ih hr]
   ·cases h
theorem optAll_of_map{α:Type}(r:List α):optAll (r.map some)=some r:=by
 induction r with
 |nil=>rfl
 |cons x r ih=>simp[optAll,ih]
theorem optAll_get{α β:Type}{l:List α}{f:α→Option β}{r:List β}(h:optAll (l.map f)=some r):
 l.length=r.length∧∀(j:Nat) x y,l[j]?=some x→r[j]?=some y→f x=some y:=by
 have h1:=optAll_map h
 have hl:l.length=r.length:=by have:=congrArg List.length h1;simpa using this
 refine⟨hl,λj x y hx hy=>?_⟩
 have:=congrArg (λl=>l[j]?) h1
 simp[hx,hy] at this
 exact this
section
variable{P:Program}{E:Em}{w:World}{Tt:Tabs}
theorem scal_rep{v:Value}{d:Dat}(h:scal v=some d):Rep E w d v∧d.one=true:=by
 unfold scal at h
 split at h<;>first
  |(cases h;exact⟨.bool _,rfl⟩)
  |(cases h;exact⟨.int _ _,rfl⟩)
  |(cases h;exact⟨.str _,rfl⟩)
  |(cases h;exact⟨.ptrN,rfl⟩)
  |(cases h;exact⟨.nil _,rfl⟩)
  |(cases h;exact⟨.mapN,rfl⟩)
  |(cases h;exact⟨.nilFn,rfl⟩)
  |(cases h;exact⟨.nilIface,rfl⟩)
  |(cases h;exact⟨.clo _ [] [] rfl (by simp),rfl⟩)
  |cases h
theorem scals_rep{cs:Array Value}{ds:List Dat}(h:optAll (cs.toList.map scal)=some ds):Rep E w (.agg ds) (.agg cs):=by
 obtain⟨hl,h1⟩:=optAll_get h
 have key:∀(j:Nat) d v,ds[j]?=some d→cs.toList[j]?=some v→Rep E w d v∧d.one=true:=λj d v hd hv=>scal_rep (h1 j v d hv hd)
 have:cs=cs.toList.toArray:=by simp
 rw[this]
 refine .agg ds cs.toList hl.symm (λd hd=>?_) (λj d v hd hv=>(key j d v hd hv).1)
 obtain⟨j,hj⟩:=List.mem_iff_getElem?.1 hd
 have hlt:j<cs.toList.length:=by rw[hl];exact(List.getElem?_eq_some_iff.1 hj).1
 exact(key j d _ hj (List.getElem?_eq_getElem hlt)).2
theorem ofV_rep{v:Value}{d:Dat}(h:ofV v=some d):Rep E w d v:=by
 unfold ofV at h
 split at h
 ·rename_i cs
  cases ho:optAll (cs.toList.map scal) with
  |none=>rw[ho] at h;cases h
  |some ds=>rw[ho] at h;cases h;exact scals_rep ho
 ·rename_i t cs
  cases ho:optAll (cs.toList.map scal) with
  |none=>rw[ho] at h;cases h
  |some ds=>rw[ho] at h;cases h;exact .iface _ _ _ (scals_rep ho)
 ·rename_i t v _
  cases ho:scal v with
  |none=>rw[ho] at h;cases h
  |some x=>rw[ho] at h;cases h;exact .iface _ _ _ (scal_rep ho).1
 ·exact(scal_rep h).1
theorem ev_rep{regs:Mp Val}{a:Act}(h:∀t,RepV E w Tt ((regs.get t).getD .undef) (a.tmps.getD t undef))(x:Operand):RepV E w Tt (ev regs x) (a.eval x):=by
 cases x with
 |tmp t=>exact h t
 |const v=>
  simp only[ev,Act.eval]
  split
  ·rename_i x hx;exact .d _ _ (ofV_rep hx)
  ·exact .undef _
 |func f=>exact .d _ _ (.clo f [] [] rfl (by simp))
 |global g=>exact .undef _
theorem RepV.dat{x:Val}{v:Value}{d:Dat}(h:RepV E w Tt x v)(hd:x.dat?=some d):Rep E w d v∧d.one=true:=by
 cases h with
 |d x v h=>
  simp only[Val.dat?] at hd
  split at hd
  ·cases hd;rename_i h1;exact⟨h,h1⟩
  ·cases hd
 |own k g m xs v h h'=>cases hd;exact⟨h,rfl⟩
 |gown g m xs v h h'=>cases hd;exact⟨h,rfl⟩
 |_=>cases hd
theorem RepV.toD{x:Val}{v:Value}{d:Dat}(h:RepV E w Tt x v)(hd:x.toD=some d):Rep E w d v:=by
 cases h with
 |d x v h=>cases hd;exact h
 |agg cs vs hl h1 h=>
  simp only[Val.toD] at hd
  cases ho:optAll (cs.map Val.dat?) with
  |none=>rw[ho] at hd;cases hd
  |some ds=>
   rw[ho] at hd
   cases hd
   obtain⟨hl',hg⟩:=optAll_get ho
   have key:∀(j:Nat) d v,ds[j]?=some d→vs[j]?=some v→Rep E w d v∧d.one=true:=λj d v hd hv=>by
    have hj:j<cs.length:=by rw[hl'];exact(List.getElem?_eq_some_iff.1 hd).1
    exact(h j _ v (List.getElem?_eq_getElem hj) hv).dat (hg j _ d (List.getElem?_eq_getElem hj) hd)
   refine .agg ds vs (hl'.symm.trans hl) (λd hd=>?_) (λj d v hd hv=>(key j d v hd hv).1)
   obtain⟨j,hj⟩:=List.mem_iff_getElem?.1 hd
   have hlt:j<vs.length:=by rw[←hl,hl'];exact(List.getElem?_eq_some_iff.1 hj).1
   exact(key j d _ hj (List.getElem?_eq_getElem hlt)).2
 |own k g m xs v h h'=>cases hd;exact h
 |gown g m xs v h h'=>cases hd;exact h
 |loc=>cases hd
 |lmap=>cases hd
 |imm=>cases hd
 |tuple=>cases hd
 |undef=>cases hd
theorem RepV.oneCell{x:Val}{v:Value}(h:RepV E w Tt x v)(h1:x.one=true):v.oneCell'=true:=by
 cases h with
 |d x v h=>exact h.oneCell h1
 |loc k g o v h=>
  obtain⟨b,_,_,rfl,_⟩:=h
  rfl
 |lmap k g v h=>
  obtain⟨b,_,_,rfl,_⟩:=h
  rfl
 |imm=>rfl
 |own k g m xs v h h'=>exact h.oneCell rfl
 |gown g m xs v h h'=>exact h.oneCell rfl
 |agg=>cases h1
 |tuple=>cases h1
 |undef=>cases h1
end
end Go.Proofs.YtgmapdcdmomioaaGreatDoor.Am
namespace Go.Proofs.YtgmapdcdmomioaaGreatDoor.Am
open Go
section
variable{P:Program}{E:Em}{w:World}{Tt:Tabs}{T:Tb}
theorem cells_of_one{v:Value}(h:v.oneCell'=true):v.cells=#[v]:=by cases v<;>first|rfl|cases h
theorem RepV.cells{x:Val}{v:Value}(h:RepV E w Tt x v)(h1:x.cells.all Val.one=true):
 ∃vs:List Value,v.cells=vs.toArray∧vs.length=x.cells.length∧(∀u∈vs,u.oneCell'=true)∧∀(j:Nat) c u,x.cells[j]?=some c→vs[j]?=some u→RepV E w Tt c u:=by
 have single:x.cells=[x]→x.one=true→∃vs:List Value,v.cells=vs.toArray∧vs.length=x.cells.length∧(∀u∈vs,u.oneCell'=true)∧
  ∀(j:Nat) c u,x.cells[j]?=some c→vs[j]?=some u→RepV E w Tt c u:=λhc ho=>by
  have hv:=h.oneCell ho
  refine⟨[v],cells_of_one hv,by rw[hc];rfl,by simpa using hv,λj c u hcj hu=>?_⟩
  rw[hc] at hcj
  cases j with
  |zero=>simp at hcj hu;subst hcj;subst hu;exact h
  |succ j=>simp at hcj
 cases h with
 |d x v h'=>
  cases h' with
  |agg cs vs hl ho h'=>
   refine⟨vs,rfl,by simp[Val.cells,hl],λu hu=>?_,λj c u hc hu=>?_⟩
   ·obtain⟨j,hj⟩:=List.mem_iff_getElem?.1 hu
    have hlt:j<cs.length:=by rw[hl];exact(List.getElem?_eq_some_iff.1 hj).1
    exact(h' j _ u (List.getElem?_eq_getElem hlt) hj).oneCell (ho _ (List.getElem_mem hlt))
   ·simp only[Val.cells,List.getElem?_map,Option.map_eq_some_iff] at hc
    obtain⟨d,hd,rfl⟩:=hc
    exact .d _ _ (h' j d u hd hu)
  |_=>exact single rfl rfl
 |agg cs vs hl ho h'=>
  refine⟨vs,rfl,by simp[Val.cells,hl],λu hu=>?_,λj c u hc hu=>h' j c u hc hu⟩
  obtain⟨j,hj⟩:=List.mem_iff_getElem?.1 hu
  have hlt:j<cs.length:=by rw[hl];exact(List.getElem?_eq_some_iff.1 hj).1
  exact(h' j _ u (List.getElem?_eq_getElem hlt) hj).oneCell (ho _ (List.getElem_mem hlt))
 |tuple=>simp[Val.cells,Val.one] at h1
 |undef=>simp[Val.cells,Val.one] at h1
 |loc=>exact single rfl rfl
 |lmap=>exact single rfl rfl
 |imm=>exact single rfl rfl
 |own=>exact single rfl rfl
 |gown=>exact single rfl rfl
theorem mkAgg_rep{cs:List Val}{vs:List Value}(hl:cs.length=vs.length)(h1:∀c∈cs,c.one=true)(h:∀(j:Nat) c v,cs[j]?=some c→vs[j]?=some v→RepV E w Tt c v):
 RepV E w Tt (mkAgg cs) (.agg vs.toArray):=by
 unfold mkAgg
 split
 ·rename_i ds hd
  obtain⟨hl',hg⟩:=optAll_get hd
  have key:∀(j:Nat) d v,ds[j]?=some d→vs[j]?=some v→Rep E w d v∧d.one=true:=λj d v hd hv=>by
   have hj:j<cs.length:=by rw[hl'];exact(List.getElem?_eq_some_iff.1 hd).1
   have hc:=List.getElem?_eq_getElem hj
   have e:=hg j _ d hc hd
   have r:=h j _ v hc hv
   have o:=h1 _ (List.getElem_mem hj)
   cases hcc:cs[j]<;>rw[hcc] at e r o<;>cases e
   cases r with
   |d _ _ r=>exact⟨r,o⟩
  refine .d _ _ (.agg ds vs (hl'.symm.trans hl) (λd hd=>?_) (λj d v hd hv=>(key j d v hd hv).1))
  obtain⟨j,hj⟩:=List.mem_iff_getElem?.1 hd
  have hlt:j<vs.length:=by rw[←hl,hl'];exact(List.getElem?_eq_some_iff.1 hj).1
  exact(key j d _ hj (List.getElem?_eq_getElem hlt)).2
 ·exact .agg cs vs hl h1 h
theorem isAgg_run{t:TypeId}{d:TypeDesc}(h:P.underlying t=some d):(isAgg t).run P w=.ok (isAggD d) w:=by
 unfold isAgg
 rw[Sem.run_bind,run_underlying h w]
 cases d<;>rfl
theorem sizeOf_run{t:TypeId}{n:Nat}(h:∃i,P.info? t=some i∧i.size=n):(sizeOf t).run P w=.ok n w:=by
 obtain⟨i,h,rfl⟩:=h
 simp[sizeOf,typeInfo,h]
theorem zeroValue_run{t:TypeId}{zv:Value}{i:TypeInfo}(h:P.info? t=some i)(hz:i.zero=some zv):(zeroValue t).run P w=.ok zv w:=by
 simp[zeroValue,typeInfo,h,hz]
theorem loadV_run(hT:T.Ok P){t:TypeId}{cs:List Val}{v:Val}{b o:Nat}(hl:loadV T t cs=some v)
 (hc:∀(j:Nat) c,cs[j]?=some c→c.one=true∧∃u,w.cell? ⟨b,o+j,none⟩=some u∧RepV E w Tt c u):
 ∃u,(Instr.loadAt t (.pointer (some ⟨b,o,none⟩))).run P w=.ok u w∧RepV E w Tt v u:=by
 unfold loadV at hl
 split at hl
 ·rename_i d n hd hn
  have hu:=hT.und t d hd
  obtain⟨i,hi,hs⟩:=hT.size t n hn
  cases ha:isAggD d with
  |true=>
   simp only[ha,if_true] at hl
   split at hl
   ·rename_i hle
    cases hl
    let us:List Value:=(List.range n).map λj=>(w.cell? ⟨b,o+j,none⟩).getD undef
    have hus:us.length=n:=by simp[us]
    have hget:∀(j:Nat) u,us[j]?=some u→w.cell? ⟨b,o+j,none⟩=some u∧∃c,cs[j]?=some c∧c.one=true∧RepV E w Tt c u:=λj u hu=>by
     have hj:j<n:=by rw[←hus];exact(List.getElem?_eq_some_iff.1 hu).1
     have hc':=List.getElem?_eq_getElem (l:=cs) (i:=j) (by omega)
     obtain⟨h1,u',h2,h3⟩:=hc j _ hc'
     simp only[us,List.getElem?_map,List.getElem?_range hj,Option.map_some,h2,Option.getD_some,Option.some.injEq] at hu
     subst hu
     exact⟨h2,_,hc',h1,h3⟩
    refine⟨.agg us.toArray,?_,mkAgg_rep (by simp[hus];omega) (λc hc'=>?_) (λj c u hcj hu=>?_)⟩
    ·exact run_loadAt_mid w b o t us d (λj u hu=>(hget j u hu).1) hu (by cases d<;>simp_all[isAggD,TypeDesc.isRow]) (by simp[hi,hs,hus])
    ·obtain⟨j,hj⟩:=List.mem_iff_getElem?.1 hc'
     rw[List.getElem?_take] at hj
     split at hj
     ·exact(hc j c hj).1
     ·cases hj
    ·rw[List.getElem?_take] at hcj
     split at hcj
     ·obtain⟨_,c',hc1,_,hr⟩:=hget j u hu
      rw[hcj] at hc1
      cases hc1
      exact hr
     ·cases hcj
   ·cases hl
  |false=>
   simp only[ha,Bool.false_eq_true,if_false] at hl
   have h0:cs[0]?=some v:=by cases cs with
    |nil=>cases hl
    |cons c l=>simpa using hl
   obtain⟨h1,u,h2,h3⟩:=hc 0 v h0
   refine⟨u,?_,h3⟩
   have h2':w.cell? ⟨b,o,none⟩=some u:=h2
   simp[Instr.loadAt,Instr.sureAddr,loadVar,isAgg_run hu,ha,h2']
 ·cases hl
theorem loadD_run(hT:T.Ok P){t:TypeId}{cs:List Dat}{x:Dat}{b o:Nat}(hl:loadD T t cs=some x)
 (hc:∀(j:Nat) c,cs[j]?=some c→c.one=true∧∃u,w.cell? ⟨b,o+j,none⟩=some u∧Rep E w c u):
 ∃u,(Instr.loadAt t (.pointer (some ⟨b,o,none⟩))).run P w=.ok u w∧Rep E w x u:=by
 have hv:loadV T t (cs.map Val.d)=some (.d x):=by
  cases hd:T.und t with
  |none=>simp[loadD,hd] at hl
  |some d=>
   cases hn:T.size t with
   |none=>simp[loadD,hd,hn] at hl
   |some n=>
    simp only[loadD,hd,hn] at hl
    simp only[loadV,hd,hn]
    cases ha:isAggD d with
    |true=>
     simp only[ha,if_true] at hl⊢
     by_cases hle:n≤cs.length
     ·rw[if_pos hle] at hl
      cases hl
      rw[if_pos (by simpa using hle)]
      congr 1
      unfold mkAgg
      have:((cs.map Val.d).take n).map Val.isD=(cs.take n).map some:=by rw[←List.map_take,List.map_map];rfl
      rw[this,optAll_of_map]
     ·rw[if_neg hle] at hl
      cases hl
    |false=>
     simp only[ha,Bool.false_eq_true,if_false] at hl⊢
     cases cs with
     |nil=>cases hl
     |cons c l=>simp at hl⊢;exact hl
 obtain⟨u,h1,h2⟩:=loadV_run (Tt:=⟨⟨[]⟩,⟨[]⟩,[]⟩) (E:=E) (b:=b) (o:=o) hT hv (λj c hcj=>by
  simp only[List.getElem?_map,Option.map_eq_some_iff] at hcj
  obtain⟨d,hd,rfl⟩:=hcj
  obtain⟨h1,u,h2,h3⟩:=hc j d hd
  exact⟨h1,u,h2,.d _ _ h3⟩)
 cases h2 with
 |d _ _ h2=>exact⟨u,h1,h2⟩
theorem part_run(hT:T.Ok P){t:TypeId}{cs:List Val}{vs:List Value}{v:Val}{off:Nat}(hl:loadV T t (cs.drop off)=some v)(hlen:cs.length=vs.length)
 (h1:∀c∈cs,c.one=true) (h:∀(j:Nat) c u,cs[j]?=some c→vs[j]?=some u→RepV E w Tt c u):∃u,(part t vs.toArray off).run P w=.ok u w∧RepV E w Tt v u:=by
 unfold loadV at hl
 split at hl
 ·rename_i d n hd hn
  have hu:=hT.und t d hd
  have hs:=sizeOf_run (P:=P) (w:=w) (hT.size t n hn)
  cases ha:isAggD d with
  |true=>
   simp only[ha,if_true] at hl
   split at hl
   ·rename_i hle
    cases hl
    refine⟨.agg ((vs.drop off).take n).toArray,?_,mkAgg_rep (by simp[hlen]) (λc hc=>h1 c (List.mem_of_mem_drop (List.mem_of_mem_take hc))) (λj c u hc hu=>?_)⟩
    ·simp only[part,Sem.run_bind,isAgg_run hu,ha,Result.andThen_ok,if_true,hs,Sem.run_pure]
     congr 2
     apply Array.ext'
     simp
    ·rw[List.getElem?_take] at hc hu
     split at hc
     ·rename_i hj
      simp only[hj,if_true,List.getElem?_drop] at hc hu
      exact h _ c u hc hu
     ·cases hc
   ·cases hl
  |false=>
   simp only[ha,Bool.false_eq_true,if_false] at hl
   have h0:cs[off]?=some v:=by
    rw[List.head?_drop] at hl
    exact hl
   have hlt:off<vs.length:=by rw[←hlen];exact(List.getElem?_eq_some_iff.1 h0).1
   refine⟨vs[off],?_,h off v _ h0 (List.getElem?_eq_getElem hlt)⟩
   simp[part,isAgg_run hu,ha,hlt]
 ·cases hl
end
end Go.Proofs.YtgmapdcdmomioaaGreatDoor.Am
namespace Go.Proofs.YtgmapdcdmomioaaGreatDoor.Am
open Go
def PureS(P:Program)(E:Em)(w:World)(Tt:Tabs)(s:Sem Value)(A:Doing):Prop:=
 ∃v u,A=.ret v∧s.run P w=.ok u w∧RepV E w Tt v u
section
variable{P:Program}{E:Em}{w:World}{Tt:Tabs}{T:Tb}
theorem drop_imm{cs:List Dat}{b o:Nat}(n:Nat)(h1:∀(j:Nat) d,cs[j]?=some d→d.one=true)(h2:∀(j:Nat) d,cs[j]?=some d→E.imm b (o+j))
 (h:∀(j:Nat) d,cs[j]?=some d→∃u,w.cell? ⟨b,o+j,none⟩=some u∧Rep E w d u):RepV E w Tt (.imm (cs.drop n)) (.pointer (some ⟨b,o+n,none⟩)):=by
 refine .imm _ b (o+n) (λj d hd=>?_) (λj d hd=>?_) (λj d hd=>?_)<;>rw[List.getElem?_drop] at hd
 ·exact h1 _ d hd
 ·have:=h2 _ d hd;rw[Nat.add_assoc];exact this
 ·have:=h _ d hd;rw[Nat.add_assoc];exact this
theorem LocOk.add{k g o:Nat}{v:Value}(h:LocOk E Tt k g o v)(n:Nat):∃b,v=.pointer (some ⟨b,o,none⟩)∧LocOk E Tt k g (o+n) (.pointer (some ⟨b,o+n,none⟩)):=by
 obtain⟨b,g',bx,rfl,h1,h2,h3⟩:=h
 exact⟨b,rfl,b,g',bx,rfl,h1,h2,h3⟩
theorem fieldAddr_run(hT:T.Ok P){s:TypeId}{f:Nat}{x:Val}{vx:Value}(hx:RepV E w Tt x vx){A:Doing}(h:doFieldAddr T s x f=some A):
 PureS P E w Tt (Instr.fieldAt s vx f) A:=by
 unfold doFieldAddr at h
 split at h
 ·rename_i fd hfd
  unfold fieldOf at hfd
  split at hfd
  ·rename_i fs hfs
   have hu:=hT.und _ _ hfs
   split at h
   ·rename_i n hn
    have hs:=sizeOf_run (P:=P) (w:=w) (hT.size _ _ hn)
    have run:∀b o,(Instr.fieldAt s (.pointer (some ⟨b,o,none⟩)) f).run P w=if n=0 then(((partAt ⟨b,o,none⟩ fd.offset fd.byteOffset).run P w).andThen λa w'=>.ok (.pointer (some a)) w') else .ok (.pointer (some ⟨b,o+fd.offset,none⟩)) w:=λb o=>by
     have hadd:(⟨b,o,none⟩:Addr).add fd.offset=⟨b,o+fd.offset,none⟩:=Addr.add_mid b o _
     simp only[Instr.fieldAt,Sem.run_bind,run_underlying hu w,Result.andThen_ok,hfd,Instr.sureAddr,Sem.run_pure,fieldPlace,hs]
     split<;>simp[hadd]
    split at h
    ·cases h
    ·rename_i h0
     split at h
     ·rename_i k g o
      cases h
      cases hx with
      |loc _ _ _ _ hx=>
       obtain⟨b,rfl,hx'⟩:=hx.add fd.offset
       exact⟨_,_,rfl,by rw[run,if_neg h0],.loc _ _ _ _ hx'⟩
     ·rename_i cs
      cases h
      cases hx with
      |imm _ b o h1 h2 h3=>exact⟨_,_,rfl,by rw[run,if_neg h0],drop_imm _ h1 h2 h3⟩
     ·rename_i b o
      cases h
      cases hx with
      |d _ _ hx=>
       cases hx with
       |ptr i o hi=>exact⟨_,_,rfl,by rw[run,if_neg h0],.d _ _ (.ptr _ _ hi)⟩
     ·cases h
   ·cases h
  ·cases hfd
 ·cases h
theorem elems_inv{x:Val}{vx:Value}(hx:RepV E w Tt x vx){m:Nat}{xs:List Dat}(h:x.elems=some (m,xs)):
 Rep E w (.sl m xs) vx∧∃a c,vx=.slice a xs.length c∧xs.length≤c:=by
 have key:Rep E w (.sl m xs) vx:=by
  unfold Val.elems at h
  split at h
  ·cases h
   cases hx with
   |d _ _ hx=>cases hx with
    |nil a=>exact .emp 0 a 0
  ·cases h
   cases hx with
   |d _ _ hx=>exact hx
  ·cases h
   cases hx with
   |d _ _ hx=>cases hx with
    |gsl _ _ _ _ _ hx=>exact hx
  ·cases h
   cases hx with
   |own _ _ _ _ _ hx _=>exact hx
  ·cases h
   cases hx with
   |gown _ _ _ _ hx _=>exact hx
  ·cases h
 obtain⟨a,c,e1,e2,_⟩:=key.sl_inv
 exact⟨key,a,c,e1,e2⟩
theorem indexAddr_run(hT:T.Ok P){t:TypeId}{x i:Val}{vx vi:Value}(hx:RepV E w Tt x vx)(hi:RepV E w Tt i vi){A:Doing}(h:doIndexAddr T t x i=some A):
 PureS P E w Tt (Instr.indexAt t vx vi) A:=by
 unfold doIndexAddr at h
 split at h
 ·rename_i e k i hu
  have hu:=hT.und _ _ hu
  cases hi with
  |d _ _ hi=>
   cases hi
   split at h
   ·rename_i m xs m' he hm
    split at h
    ·rename_i hc
     obtain⟨rfl,h0⟩:=hc
     split at h
     ·rename_i y hy
      cases h
      obtain⟨hr,_⟩:=elems_inv hx he
      obtain⟨a,c,rfl,hc,hmm,hcell⟩:=hr.sl_inv
      have hlt:i.toNat<xs.length:=(List.getElem?_eq_some_iff.1 hy).1
      have hs:=sizeOf_run (P:=P) (w:=w) (hT.size _ _ hm)
      rcases hcell with rfl|⟨b,o,rfl,hcell⟩
      ·simp at hlt
      ·have hif:(0≤i∧i<(xs.length:Int)):=⟨h0,by omega⟩
       refine⟨_,.pointer (some ⟨b,o+i.toNat*m,none⟩),rfl,?_,?_⟩
       ·have hadd:(⟨b,o,none⟩:Addr).add (i.toNat*m)=⟨b,o+i.toNat*m,none⟩:=Addr.add_mid b o _
        simp only[Instr.indexAt,asIntOf,Sem.run_bind,Sem.run_pure,Result.andThen_ok,run_underlying hu w,hif,and_self,if_true,hs,hadd]
       ·refine .imm _ b (o+i.toNat*m) (λj d hd=>(hcell _ _ hy j d hd).1) (λj d hd=>(hcell _ _ hy j d hd).2.1) (λj d hd=>?_)
        exact(hcell _ _ hy j d hd).2.2
     ·cases h
    ·cases h
   ·cases h
 ·rename_i n e k i hu
  have hu:=hT.und _ _ hu
  cases hi with
  |d _ _ hi=>
   cases hi
   split at h
   ·rename_i m hm
    have hs:=sizeOf_run (P:=P) (w:=w) (hT.size _ _ hm)
    split at h
    ·rename_i hc
     obtain⟨h0,hi0,hin⟩:=hc
     have hif:(0≤i∧i<(n:Int)):=⟨hi0,hin⟩
     have run:∀b o,(Instr.indexAt t (.pointer (some ⟨b,o,none⟩)) (.int k i)).run P w=.ok (.pointer (some ⟨b,o+i.toNat*m,none⟩)) w:=λb o=>by
      have hadd:(⟨b,o,none⟩:Addr).add (i.toNat*m)=⟨b,o+i.toNat*m,none⟩:=Addr.add_mid b o _
      simp only[Instr.indexAt,Instr.sureAddr,asIntOf,Sem.run_bind,Sem.run_pure,Result.andThen_ok,run_underlying hu w,hif,and_self,if_true,hs,hadd]
     split at h
     ·cases h
      cases hx with
      |loc _ _ _ _ hx=>
       obtain⟨b,rfl,hx'⟩:=hx.add (i.toNat*m)
       exact⟨_,_,rfl,run _ _,.loc _ _ _ _ hx'⟩
     ·cases h
      cases hx with
      |imm _ b o h1 h2 h3=>exact⟨_,_,rfl,run _ _,drop_imm _ h1 h2 h3⟩
     ·cases h
      cases hx with
      |d _ _ hx=>
       cases hx with
       |ptr _ _ hi=>exact⟨_,_,rfl,run _ _,.d _ _ (.ptr _ _ hi)⟩
     ·cases h
    ·cases h
   ·cases h
 ·cases h
theorem loadD_loadV{T:Tb}{t:TypeId}{cs:List Dat}{y:Dat}(hl:loadD T t cs=some y):loadV T t (cs.map Val.d)=some (.d y):=by
 cases hd:T.und t with
 |none=>simp[loadD,hd] at hl
 |some d=>
  cases hn:T.size t with
  |none=>simp[loadD,hd,hn] at hl
  |some n=>
   simp only[loadD,hd,hn] at hl
   simp only[loadV,hd,hn]
   cases ha:isAggD d with
   |true=>
    simp only[ha,if_true] at hl⊢
    by_cases hle:n≤cs.length
    ·rw[if_pos hle] at hl
     cases hl
     rw[if_pos (by simpa using hle)]
     congr 1
     unfold mkAgg
     have:((cs.map Val.d).take n).map Val.isD=(cs.take n).map some:=by rw[←List.map_take,List.map_map];rfl
     rw[this,optAll_of_map]
    ·rw[if_neg hle] at hl
     cases hl
   |false=>
    simp only[ha,Bool.false_eq_true,if_false] at hl⊢
    rw[List.head?_map,hl]
    rfl
theorem index_run(hT:T.Ok P){t:TypeId}{x i:Val}{vx vi:Value}(hx:RepV E w Tt x vx)(hi:RepV E w Tt i vi){A:Doing}(h:doIndex T t x i=some A):
 PureS P E w Tt (Instr.index t vx vi) A:=by
 unfold doIndex at h
 split at h
 ·rename_i s k i hu
  have hu:=hT.und _ _ hu
  cases hi with
  |d _ _ hi=>
   cases hi
   cases hx with
   |d _ _ hx=>
    cases hx
    split at h
    ·rename_i h0
     split at h
     ·rename_i b hb
      cases h
      refine⟨_,_,rfl,?_,.d _ _ (.int _ _)⟩
      have hlt:i.toNat<s.length:=(List.getElem?_eq_some_iff.1 hb).1
      have hget:(⟨s.toArray⟩:ByteArray)[i.toNat]?=some b:=by
       have h1:i.toNat<(⟨s.toArray⟩:ByteArray).size:=by simpa[ByteArray.size] using hlt
       rw[getElem?_pos (⟨s.toArray⟩:ByteArray) i.toNat h1]
       congr 1
       have:=(List.getElem?_eq_some_iff.1 hb).2
       rw[←this]
       rfl
      simp only[Instr.index,asIntOf,Sem.run_bind,Sem.run_pure,Result.andThen_ok,run_underlying hu w,h0,if_true,hget]
     ·cases h
    ·cases h
 ·rename_i n e cs k i hu
  have hu:=hT.und _ _ hu
  cases hi with
  |d _ _ hi=>
   cases hi
   split at h
   ·rename_i m hm
    have hs:=sizeOf_run (P:=P) (w:=w) (hT.size _ _ hm)
    split at h
    ·rename_i hb
     cases hl:loadD T e (cs.drop (i.toNat*m)) with
     |none=>rw[hl] at h;cases h
     |some y=>
      rw[hl] at h
      cases h
      cases hx with
      |d _ _ hx=>
       cases hx with
       |agg _ vs hlen h1 hr=>
        have hv:=loadD_loadV hl
        rw[List.map_drop] at hv
        obtain⟨u,h2,h3⟩:=part_run (w:=w) (Tt:=Tt) hT hv (by simpa using hlen) (λc hc=>by
         obtain⟨d,hd,rfl⟩:=List.mem_map.1 hc
         exact h1 d hd) (λj c u hc hu=>by
         simp only[List.getElem?_map,Option.map_eq_some_iff] at hc
         obtain⟨d,hd,rfl⟩:=hc
         exact .d _ _ (hr j d u hd hu))
        exact⟨_,u,rfl,by simp only[Instr.index,asIntOf,Sem.run_bind,Sem.run_pure,Result.andThen_ok,run_underlying hu w,hb,and_self,if_true,hs,h2],h3⟩
    ·cases h
   ·cases h
 ·rename_i n e cs k i hu
  have hu:=hT.und _ _ hu
  cases hi with
  |d _ _ hi=>
   cases hi
   split at h
   ·rename_i m hm
    have hs:=sizeOf_run (P:=P) (w:=w) (hT.size _ _ hm)
    split at h
    ·rename_i hb
     cases hl:loadV T e (cs.drop (i.toNat*m)) with
     |none=>rw[hl] at h;cases h
     |some y=>
      rw[hl] at h
      cases h
      cases hx with
      |agg _ vs hlen h1 hr=>
       obtain⟨u,h2,h3⟩:=part_run (w:=w) hT hl hlen h1 hr
       exact⟨_,u,rfl,by simp only[Instr.index,asIntOf,Sem.run_bind,Sem.run_pure,Result.andThen_ok,run_underlying hu w,hb,and_self,if_true,hs,h2],h3⟩
    ·cases h
   ·cases h
 ·cases h
theorem field_run(hT:T.Ok P){s:TypeId}{x:Val}{f:Nat}{vx:Value}(hx:RepV E w Tt x vx){A:Doing}(h:doField T s x f=some A):
 PureS P E w Tt (Instr.field s vx f) A:=by
 have key:∀(fd:Field) (cs:List Val) (vs:List Value) (v:Val),fieldOf T s f=some fd→loadV T fd.type (cs.drop fd.offset)=some v→cs.length=vs.length→(∀c∈cs,c.one=true)→
  (∀(j:Nat) c u,cs[j]?=some c→vs[j]?=some u→RepV E w Tt c u)→∃u,(Instr.field s (.agg vs.toArray) f).run P w=.ok u w∧RepV E w Tt v u:=λfd cs vs v hfd hl hlen h1 hr=>by
  unfold fieldOf at hfd
  split at hfd
  ·rename_i fs hfs
   have hu:=hT.und _ _ hfs
   obtain⟨u,h2,h3⟩:=part_run (w:=w) hT hl hlen h1 hr
   refine⟨u,?_,h3⟩
   simp only[Instr.field,Sem.run_bind,run_underlying hu w,Result.andThen_ok,hfd,asAgg,Sem.run_pure,h2]
  ·cases hfd
 unfold doField at h
 split at h
 ·rename_i fd cs hfd
  cases hl:loadD T fd.type (cs.drop fd.offset) with
  |none=>rw[hl] at h;cases h
  |some y=>
   rw[hl] at h
   cases h
   cases hx with
   |d _ _ hx=>
    cases hx with
    |agg _ vs hlen h1 hr=>
     have hv:loadV T fd.type ((cs.map Val.d).drop fd.offset)=some (.d y):=by
      rw[←List.map_drop]
      cases hd:T.und fd.type with
      |none=>simp[loadD,hd] at hl
      |some d=>
       cases hn:T.size fd.type with
       |none=>simp[loadD,hd,hn] at hl
       |some n=>
        simp only[loadD,hd,hn] at hl
        simp only[loadV,hd,hn]
        cases ha:isAggD d with
        |true=>
         simp only[ha,if_true] at hl⊢
         by_cases hle:n≤(cs.drop fd.offset).length
         ·rw[if_pos hle] at hl
          cases hl
          rw[if_pos (by simpa using hle)]
          congr 1
          unfold mkAgg
          have:(((cs.drop fd.offset).map Val.d).take n).map Val.isD=((cs.drop fd.offset).take n).map some:=by rw[←List.map_take,List.map_map];rfl
          rw[this,optAll_of_map]
         ·rw[if_neg hle] at hl
          cases hl
        |false=>
         simp only[ha,Bool.false_eq_true,if_false] at hl⊢
         rw[List.head?_map,hl]
         rfl
     obtain⟨u,h2,h3⟩:=key fd (cs.map Val.d) vs (.d y) hfd hv (by simpa using hlen) (λc hc=>by
      obtain⟨d,hd,rfl⟩:=List.mem_map.1 hc
      exact h1 d hd) (λj c u hc hu=>by
      simp only[List.getElem?_map,Option.map_eq_some_iff] at hc
      obtain⟨d,hd,rfl⟩:=hc
      exact .d _ _ (hr j d u hd hu))
     exact⟨_,u,rfl,h2,h3⟩
 ·rename_i fd cs hfd
  cases hl:loadV T fd.type (cs.drop fd.offset) with
  |none=>rw[hl] at h;cases h
  |some y=>
   rw[hl] at h
   cases h
   cases hx with
   |agg _ vs hlen h1 hr=>
    obtain⟨u,h2,h3⟩:=key fd cs vs y hfd hl hlen h1 hr
    exact⟨_,u,rfl,h2,h3⟩
 ·cases h
theorem nilCheck_run{x:Val}{vx:Value}(hx:RepV E w Tt x vx){A:Doing}(h:doNilCheck x=some A)(o:Oper)(e:Operand→Value)(y:Operand)(ho:o.op=.nilCheck y)(hy:e y=vx):
 ∃v,A=.ret v∧(execOp e o).run P w=.ok (.value vx) w∧RepV E w Tt v vx:=by
 unfold doNilCheck at h
 split at h<;>first|(cases h;refine⟨_,rfl,?_,hx⟩)|cases h
 ·cases hx with
  |loc _ _ _ _ hx=>
   obtain⟨b,_,_,rfl,_⟩:=hx
   simp[execOp,ho,hy]
 ·cases hx with
  |imm=>simp[execOp,ho,hy]
 ·cases hx with
  |d _ _ hx=>cases hx with
   |ptr=>simp[execOp,ho,hy]
 ·cases hx with
  |d _ _ hx=>cases hx with
   |clo=>simp[execOp,ho,hy]
 ·cases hx with
  |d _ _ hx=>cases hx with
   |bnd=>simp[execOp,ho,hy]
 ·cases hx with
  |d _ _ hx=>cases hx with
   |iface=>simp[execOp,ho,hy]
theorem un_run{op:UnOp}{x:Val}{vx:Value}(hx:RepV E w Tt x vx){A:Doing}(h:doUn op x=some A):PureS P E w Tt (Op.unary op vx) A:=by
 unfold doUn at h
 split at h
 ·split at h
  ·cases h
   cases hx with
   |d _ _ hx=>cases hx;exact⟨_,_,rfl,rfl,.d _ _ (.bool _)⟩
  ·cases h
 ·cases hx with
  |d _ _ hx=>
   cases hx
   split at h<;>cases h
   ·exact⟨_,_,rfl,rfl,.d _ _ (.int _ _)⟩
   ·exact⟨_,_,rfl,rfl,.d _ _ (.int _ _)⟩
 ·cases h
theorem iface_run(hT:T.Ok P){t:TypeId}{x:Val}{vx:Value}(hx:RepV E w Tt x vx){A:Doing}(h:doIface T t x=some A):PureS P E w Tt (Instr.makeInterface t vx) A:=by
 unfold doIface at h
 split at h
 ·cases h
 ·rename_i d y hn hu hy
  cases h
  have hu:=hT.und _ _ hu
  refine⟨_,.iface t vx,rfl,?_,.d _ _ (.iface _ _ _ (hx.toD hy))⟩
  simp only[Instr.makeInterface,Sem.run_bind,run_underlying hu w,Result.andThen_ok]
  cases d<;>first|rfl|(rename_i ms;exact absurd rfl (hn ms))
 ·cases h
theorem func_run{fn:Fn}{first cap:List Val}{vf vc:List Value}(hl1:first.length=vf.length)(hl:cap.length=vc.length)(hf:∀(j:Nat) c v,first[j]?=some c→vf[j]?=some v→RepV E w Tt c v)
 (hc:∀(j:Nat) c v,cap[j]?=some c→vc[j]?=some v→RepV E w Tt c v) {A:Doing} (h:doFunc fn first cap=some A):PureS P E w Tt (Instr.makeFunc fn vf.toArray vc.toArray) A:=by
 unfold doFunc at h
 split at h
 ·rename_i f cs ho
  cases h
  have:vf=[]:=List.eq_nil_of_length_eq_zero (by simpa using hl1.symm)
  subst this
  obtain⟨hl',hg⟩:=optAll_get ho
  refine⟨_,_,rfl,rfl,.d _ _ (.clo f cs vc (hl'.symm.trans hl) (λj d v hd hv=>?_))⟩
  have hj:j<cap.length:=by rw[hl'];exact(List.getElem?_eq_some_iff.1 hd).1
  exact(hc j _ v (List.getElem?_eq_getElem hj) hv).toD (hg j _ d (List.getElem?_eq_getElem hj) hd)
 ·rename_i f r ho
  cases hr:r.toD with
  |none=>rw[hr] at h;cases h
  |some d=>
   rw[hr] at h
   cases h
   obtain⟨v,rfl⟩:∃v,vf=[v]:=by
    match vf,hl1 with
    |[v],_=>exact⟨v,rfl⟩
   obtain⟨hl',_⟩:=optAll_get ho
   have:vc=[]:=List.eq_nil_of_length_eq_zero (by rw[←hl,hl'];rfl)
   subst this
   exact⟨_,_,rfl,rfl,.d _ _ (.bnd f d v ((hf 0 r v rfl rfl).toD hr))⟩
 ·cases h
theorem assert_run(hT:T.Ok P){x:Val}{vx:Value}(hx:RepV E w Tt x vx){xt t:TypeId}{ok:Bool}{A:Doing}(h:doAssert T x t ok=some A):PureS P E w Tt (Instr.typeAssert vx xt t ok) A:=by
 have fails:∀z,T.zero t=some z→∃zv,(zeroValue t).run P w=.ok zv w∧RepV E w Tt (.tuple [.d z,.d (.bool false)]) (.tuple #[zv,.bool false]):=λz hz=>by
  obtain⟨i,zv,h1,h2,h3⟩:=hT.zero t z hz
  refine⟨zv,zeroValue_run h1 h2,.tuple [.d z,.d (.bool false)] [zv,.bool false] rfl (λj c v hc hv=>?_)⟩
  match j with
  |0=>simp at hc hv;subst hc;subst hv;exact .d _ _ (h3 E w)
  |1=>simp at hc hv;subst hc;subst hv;exact .d _ _ (.bool _)
  |j+2=>simp at hc
 have holds:∀y vy,Rep E w y vy→RepV E w Tt (.tuple [.d y,.d (.bool true)]) (.tuple #[vy,.bool true]):=λy vy hy=>by
  refine .tuple [.d y,.d (.bool true)] [vy,.bool true] rfl (λj c v hc hv=>?_)
  match j with
  |0=>simp at hc hv;subst hc;subst hv;exact .d _ _ hy
  |1=>simp at hc hv;subst hc;subst hv;exact .d _ _ (.bool _)
  |j+2=>simp at hc
 unfold doAssert at h
 split at h
 ·cases h
 ·rename_i d hn hu
  have hu:=hT.und _ _ hu
  cases hx with
  |d _ _ hx=>
   cases hx
   split at h
   ·rename_i hok
    split at h
    ·rename_i z hz
     cases h
     obtain⟨zv,h1,h2⟩:=fails z hz
     refine⟨_,_,rfl,?_,h2⟩
     simp only[Instr.typeAssert,Sem.run_bind,run_underlying hu w,Result.andThen_ok]
     cases d<;>first|(rename_i ms;exact absurd rfl (hn ms _))|simp[hok,h1]
    ·cases h
   ·cases h
 ·rename_i d t' y hn hu
  have hu:=hT.und _ _ hu
  cases hx with
  |d _ _ hx=>
   cases hx with
   |iface _ _ vy hy=>
    split at h
    ·rename_i he
     subst he
     cases h
     by_cases hok:ok=true
     ·refine⟨_,_,rfl,?_,by rw[if_pos hok];exact holds y vy hy⟩
      simp only[Instr.typeAssert,Sem.run_bind,run_underlying hu w,Result.andThen_ok]
      cases d<;>first|(rename_i ms;exact absurd rfl (hn ms _))|simp[hok]
     ·refine⟨_,vy,rfl,?_,by rw[if_neg hok];exact .d _ _ hy⟩
      simp only[Instr.typeAssert,Sem.run_bind,run_underlying hu w,Result.andThen_ok]
      cases d<;>first|(rename_i ms;exact absurd rfl (hn ms _))|simp[hok]
    ·rename_i he
     split at h
     ·rename_i hok
      split at h
      ·rename_i z hz
       cases h
       obtain⟨zv,h1,h2⟩:=fails z hz
       refine⟨_,_,rfl,?_,h2⟩
       simp only[Instr.typeAssert,Sem.run_bind,run_underlying hu w,Result.andThen_ok]
       cases d<;>first|(rename_i ms;exact absurd rfl (hn ms _))|simp[hok,h1,he]
      ·cases h
     ·cases h
 ·cases h
end
end Go.Proofs.YtgmapdcdmomioaaGreatDoor.Am
namespace Go.Proofs.YtgmapdcdmomioaaGreatDoor.Am
open Go
theorem ba_beq(a b:List UInt8):((⟨a.toArray⟩:ByteArray)==⟨b.toArray⟩)=(a==b):=by
 show(a.toArray==b.toArray)=_
 simp
theorem ba_list(a:List UInt8):(⟨a.toArray⟩:ByteArray).toList=a:=by rw[ByteArray.toList_eq]
theorem ba_size(a:List UInt8):(⟨a.toArray⟩:ByteArray).size=a.length:=by simp[ByteArray.size]
theorem ba_ext{x y:ByteArray}(h:x.data.toList=y.data.toList):x=y:=by
 cases x;cases y;congr 1;exact Array.ext' h
section
variable{P:Program}{E:Em}{w:World}{Tt:Tabs}{T:Tb}
theorem shift_run{op:BinOp}{k k':IntKind}{m n:Int}{y:Dat}(hs:isShift op=true)(h:shiftBin op k m n=some y):
 ∃u,(Op.shift op k m k' n).run P w=.ok u w∧Rep E w y u:=by
 unfold shiftBin at h
 split at h
 ·cases h
 ·rename_i hn
  have hn':¬n<0:=hn
  split at h<;>cases h
  ·exact⟨_,by simp only[Op.shift,hn',if_false];rfl,.int _ _⟩
  ·exact⟨_,by simp only[Op.shift,hn',if_false];rfl,.int _ _⟩
theorem int_run{op:BinOp}{t:TypeId}{k:IntKind}{m n:Int}{y:Dat}(hs:isShift op=false)(h:intBin op k m n=some y):
 ∃u,(binOp op t (.int k m) (.int k n)).run P w=.ok u w∧Rep E w y u:=by
 unfold intBin at h
 split at h<;>first
  |(cases h;exact⟨_,by simp[binOp,Op.intArith,Op.intBits,Op.intCmp];rfl,by constructor⟩)
  |(split at h
    ·cases h
    ·rename_i h0
     cases h
     exact⟨_,by simp[binOp,Op.intDiv,h0];rfl,by constructor⟩)
  |cases h
theorem str_run{op:BinOp}{a b:List UInt8}{y:Dat}(h:strBin op a b=some y):
 ∃u,(Op.stringOp op ⟨a.toArray⟩ ⟨b.toArray⟩).run P w=.ok u w∧Rep E w y u:=by
 by_cases ho:op=.add
 ·subst ho
  simp only[strBin] at h
  split at h
  ·rename_i hl
   cases h
   refine⟨.string ⟨(a++b).toArray⟩,?_,.str _⟩
   have hle:¬((((⟨a.toArray⟩:ByteArray).size+(⟨b.toArray⟩:ByteArray).size:Nat):Int)>9223372036854775807):=by rw[ba_size,ba_size];omega
   simp only[Op.stringOp,IntKind.max_i64]
   rw[if_neg hle]
   simp only[Sem.run_pure]
   congr 2
  ·cases h
 ·unfold strBin at h
  split at h<;>first
   |exact absurd rfl ho
   |(cases h;exact⟨_,by simp only[Op.stringOp,ba_list];rfl,.bool _⟩)
   |cases h
theorem ptrNil_inv{x:Val}{v:Value}(hx:RepV E w Tt x v){n:Bool}(h:ptrNil x=some n):(n=true∧v=.pointer none)∨(n=false∧∃a,v=.pointer (some a)):=by
 unfold ptrNil at h
 split at h<;>cases h
 ·cases hx with
  |loc _ _ _ _ hx=>obtain⟨b,_,_,rfl,_⟩:=hx;exact .inr ⟨rfl,_,rfl⟩
 ·cases hx with
  |imm=>exact .inr ⟨rfl,_,rfl⟩
 ·cases hx with
  |d _ _ hx=>cases hx;exact .inr ⟨rfl,_,rfl⟩
 ·cases hx with
  |d _ _ hx=>cases hx;exact .inl ⟨rfl,rfl⟩
theorem eql_run{op:BinOp}{t:TypeId}{x y:Operand}{a b:Value}{e:Bool}{z:Dat}(h:eqlBin op e=some z)(hg:eqGuard op t x y a b=pure ())
 (hb:∀op',op'=.eql∨op'=.neq→binOp op' t a b=if op'=.eql then(do pure (.bool (←Op.equal t a b))) else(do pure (.bool (!(←Op.equal t a b)))))
 (he:(Op.equal t a b).run P w=.ok e w):∃u,(do eqGuard op t x y a b;binOp op t a b).run P w=.ok u w∧Rep E w z u:=by
 unfold eqlBin at h
 split at h<;>cases h
 ·refine⟨.bool e,?_,.bool _⟩
  simp only[hg,Sem.run_bind,Sem.run_pure,Result.andThen_ok,hb .eql (.inl rfl),if_true,he]
 ·refine⟨.bool !e,?_,.bool _⟩
  simp only[hg,Sem.run_bind,Sem.run_pure,Result.andThen_ok,hb .neq (.inr rfl)]
  simp[he]
theorem keyEq_equal(hT:T.Ok P){t:TypeId}{a b:Dat}{va vb:Value}{e:Bool}(ha:keyOk T t a=true)(hb:keyOk T t b=true)(h:keyEq a b=some e)(ra:Rep E w a va)(rb:Rep E w b vb)
 (d:Nat):(Op.equalIn (d+1) t va vb).run P w=.ok e w:=by
 unfold keyOk at ha
 split at ha
 ·rename_i k k' m hu
  have hu:=hT.und _ _ hu
  cases ra
  cases b<;>simp[keyEq] at h
  rename_i k'' n
  obtain⟨hk,rfl⟩:=h
  cases rb
  simp[Op.equalIn,run_underlying hu,hk]
 ·rename_i s hu
  have hu:=hT.und _ _ hu
  cases ra
  cases b<;>simp[keyEq] at h
  subst h
  cases rb
  simp[Op.equalIn,run_underlying hu,ba_beq]
 ·rename_i s hu
  have hu:=hT.und _ _ hu
  cases ra
  cases b<;>simp[keyEq] at h
  subst h
  cases rb
  simp[Op.equalIn,run_underlying hu]
 ·cases ha
end
end Go.Proofs.YtgmapdcdmomioaaGreatDoor.Am
namespace Go.Proofs.YtgmapdcdmomioaaGreatDoor.Am
open Go
section
variable{P:Program}{E:Em}{w:World}{Tt:Tabs}{T:Tb}
theorem isB_of{d:Option TypeDesc}(h:isB d=true):d=some .bool:=by
 unfold isB at h;split at h<;>first|rfl|cases h
theorem isI_of{d:Option TypeDesc}(h:isI d=true):∃ms,d=some (.interface ms):=by
 unfold isI at h;split at h<;>first|exact⟨_,rfl⟩|cases h
theorem isF_of{d:Option TypeDesc}(h:isF d=true):∃p q r,d=some (.func p q r):=by
 unfold isF at h;split at h<;>first|exact⟨_,_,_,rfl⟩|cases h
theorem isP_of{d:Option TypeDesc}(h:isP d=true):∃e,d=some (.pointer e):=by
 unfold isP at h;split at h<;>first|exact⟨_,rfl⟩|cases h
theorem isS_of{d:Option TypeDesc}(h:isS d=true):d=some .string:=by
 unfold isS at h;split at h<;>first|rfl|cases h
theorem isL_of{d:Option TypeDesc}(h:isL d=true):∃e,d=some (.slice e):=by
 unfold isL at h;split at h<;>first|exact⟨_,rfl⟩|cases h
theorem isU8_of{d:Option TypeDesc}(h:isU8 d=true):d=some (.int .u8):=by
 unfold isU8 at h;split at h<;>first|rfl|cases h
theorem equal_of_in{t:TypeId}{a b:Value}{e:Bool}(h:∀d,(Op.equalIn (d+1) t a b).run P w=.ok e w):(Op.equal t a b).run P w=.ok e w:=h 9999
theorem keyOk_one{T:Tb}{t:TypeId}{a:Dat}(h:keyOk T t a=true):isAggD ((T.und t).getD .invalid)=false∧∃d,T.und t=some d:=by
 unfold keyOk at h
 split at h<;>first|(rename_i hu;simp[hu,isAggD];done)|cases h
theorem eqFields_run(hT:T.Ok P){a b:List Dat}{va vb:List Value}(hla:a.length=va.length)(hlb:b.length=vb.length)
 (ha:∀(j:Nat) d v,a[j]?=some d→va[j]?=some v→Rep E w d v) (hb:∀(j:Nat) d v,b[j]?=some d→vb[j]?=some v→Rep E w d v) (d:Nat):
 ∀(fs:List Field) (e:Bool),eqFields T a b fs=some e→(Op.eqFields (d+1) va.toArray vb.toArray fs).run P w=.ok e w
 |[],e,h=>by cases h;rfl
 |f::fs,e,h=>by
  simp only[eqFields] at h
  split at h
  ·cases h
  ·rename_i hn
   split at h
   ·rename_i x y hx hy
    split at h
    ·rename_i hk
     simp only[Bool.and_eq_true] at hk
     obtain⟨hk1,hk2⟩:=hk
     obtain⟨hagg,dd,hd⟩:=keyOk_one hk1
     have hu:=hT.und _ _ hd
     rw[hd] at hagg
     simp only[Option.getD_some] at hagg
     have part1:∀(l:List Dat) (vl:List Value),l.length=vl.length→(∀(j:Nat) d v,l[j]?=some d→vl[j]?=some v→Rep E w d v)→∀z,l[f.offset]?=some z→
      ∃vz,(part f.type vl.toArray f.offset).run P w=.ok vz w∧Rep E w z vz:=λl vl hl hr z hz=>by
      have hlt:f.offset<vl.length:=by rw[←hl];exact(List.getElem?_eq_some_iff.1 hz).1
      exact⟨vl[f.offset],by simp[part,isAgg_run hu,hagg,hlt],hr _ z _ hz (List.getElem?_eq_getElem hlt)⟩
     obtain⟨vx,p1,r1⟩:=part1 a va hla ha x hx
     obtain⟨vy,p2,r2⟩:=part1 b vb hlb hb y hy
     cases hq:keyEq x y with
     |none=>rw[hq] at h;cases h
     |some q=>
      have he:=keyEq_equal hT hk1 hk2 hq r1 r2 d
      rw[hq] at h
      have hn':f.name≠ "_" :=hn
      simp only[Op.eqFields,hn',ne_eq,not_false_eq_true,if_true,Sem.run_bind,p1,Result.andThen_ok,p2,he]
      cases q
      ·cases h;rfl
      ·simp only[Bool.not_true,Bool.false_eq_true,if_false]
       exact eqFields_run hT hla hlb ha hb d fs e h
    ·cases h
   ·cases h
theorem bin_run(hT:T.Ok P){op:BinOp}{t:TypeId}{x y:Operand}{a b:Val}{va vb:Value}(ha:RepV E w Tt a va)(hb:RepV E w Tt b vb)
 (hx:∀c,x=.const c→va=c) (hy:∀c,y=.const c→vb=c) {A:Doing} (h:doBin T op t x y a b=some A):
 PureS P E w Tt (do eqGuard op t x y va vb;binOp op t va vb) A:=by
 have fin:∀{r:Option Dat} {s:Sem Value},(r.map λx=>Doing.ret (.d x))=some A→(∀z,r=some z→∃u,s.run P w=.ok u w∧Rep E w z u)→PureS P E w Tt s A:=λ{r s} h1 h2=>by
  cases r with
  |none=>cases h1
  |some z=>
   cases h1
   obtain⟨u,h3,h4⟩:=h2 z rfl
   exact⟨_,u,rfl,h3,.d _ _ h4⟩
 unfold doBin at h
 split at h
 ·rename_i k m k' n
  cases ha with
  |d _ _ ha=>
  cases hb with
  |d _ _ hb=>
  cases ha
  cases hb
  have hg:eqGuard op t x y (.int k m) (.int k' n)=pure ():=eqGuard_at_int op t x y _ k m
  simp only[hg]
  split at h
  ·rename_i hs
   refine fin h (λz hz=>?_)
   obtain⟨u,h1,h2⟩:=shift_run (E:=E) (w:=w) (P:=P) (k':=k') hs hz
   refine⟨u,?_,h2⟩
   have:binOp op t (.int k m) (.int k' n)=Op.shift op k m k' n:=by cases op<;>first|rfl|cases hs
   simp only[Sem.run_bind,Sem.run_pure,Result.andThen_ok,this,h1]
  ·rename_i hs
   split at h
   ·rename_i hk
    subst hk
    refine fin h (λz hz=>?_)
    obtain⟨u,h1,h2⟩:=int_run (E:=E) (w:=w) (P:=P) (t:=t) (by simpa using hs) hz
    exact⟨u,by simp only[Sem.run_bind,Sem.run_pure,Result.andThen_ok,h1],h2⟩
   ·cases h
 ·rename_i m n
  cases ha with
  |d _ _ ha=>
  cases hb with
  |d _ _ hb=>
  cases ha
  cases hb
  have hg:eqGuard op t x y (.string ⟨m.toArray⟩) (.string ⟨n.toArray⟩)=pure ():=eqGuard_at_string op t x y _ _
  refine fin h (λz hz=>?_)
  obtain⟨u,h1,h2⟩:=str_run (E:=E) (w:=w) (P:=P) hz
  refine⟨u,?_,h2⟩
  have:binOp op t (.string ⟨m.toArray⟩) (.string ⟨n.toArray⟩)=Op.stringOp op ⟨m.toArray⟩ ⟨n.toArray⟩:=by cases op<;>rfl
  simp only[hg,Sem.run_bind,Sem.run_pure,Result.andThen_ok,this,h1]
 ·rename_i m n
  cases ha with
  |d _ _ ha=>
  cases hb with
  |d _ _ hb=>
  cases ha with
  |agg _ va hla h1a ha=>
  cases hb with
  |agg _ vb hlb h1b hb=>
  split at h
  ·rename_i fs hu
   have hu:=hT.und _ _ hu
   split at h
   ·rename_i hp
    obtain⟨hp1,hp2⟩:=hT.plain _ hp
    split at h
    ·rename_i e he
     refine fin h (λz hz=>?_)
     have hf:P.fieldsOf t=fs:=by unfold Program.fieldsOf;rw[hu]
     have hr:(Op.equalIn 10000 t (.agg va.toArray) (.agg vb.toArray)).run P w=.ok e w:=by
      rw[run_equalIn_struct w 9999 t _ _ (by rw[hf];exact hu) hp1,hf]
      exact eqFields_run hT hla hlb ha hb 9998 fs.toList e he
     have hg:=run_eqGuard_agg (P:=P) w op t x y va.toArray vb.toArray hp2
     unfold eqlBin at hz
     split at hz<;>cases hz
     ·exact⟨_,by simp only[Sem.run_bind,hg,Result.andThen_ok,run_eql_struct,hr],.bool _⟩
     ·exact⟨_,by simp only[Sem.run_bind,hg,Result.andThen_ok,run_neq_struct,hr],.bool _⟩
    ·cases h
   ·cases h
  ·cases h
 ·rename_i m n
  cases ha with
  |d _ _ ha=>
  cases hb with
  |d _ _ hb=>
  cases ha
  cases hb
  split at h
  ·rename_i hu
   have hu:=isB_of hu
   have hu:=hT.und _ _ hu
   refine fin h (λz hz=>?_)
   refine eql_run hz (eqGuard_at_bool op t x y _ _) (λop' ho=>?_) (equal_of_in λd=>by simp[Op.equalIn,run_underlying hu])
   rcases ho with rfl|rfl<;>rfl
  ·cases h
 ·cases ha with
  |d _ _ ha=>
  cases hb with
  |d _ _ hb=>
  cases ha
  cases hb
  split at h
  ·rename_i hc
   simp only[Bool.and_eq_true,Bool.or_eq_true] at hc
   obtain⟨hu,hc⟩:=hc
   obtain⟨ms,hu⟩:=isI_of hu
   have hu:=hT.und _ _ hu
   refine fin h (λz hz=>?_)
   have hg:eqGuard op t x y .nilIface .nilIface=pure ():=by
    rcases hc with hc|hc
    ·cases x<;>first|exact eqGuard_nil_constL op t y _|cases hc
    ·cases y<;>first|exact eqGuard_nil_constR op t x _|cases hc
   refine eql_run hz hg (λop' ho=>?_) (equal_of_in λd=>by simp[Op.equalIn,run_underlying hu])
   rcases ho with rfl|rfl<;>rfl
  ·cases h
 ·rename_i tt v
  cases ha with
  |d _ _ ha=>
  cases hb with
  |d _ _ hb=>
  cases ha
  cases hb
  split at h
  ·rename_i hu
   obtain⟨ms,hu⟩:=isI_of hu
   have hu:=hT.und _ _ hu
   refine fin h (λz hz=>?_)
   refine eql_run hz (eqGuard_at_iface op t x y _ _ _) (λop' ho=>?_) (equal_of_in λd=>by simp[Op.equalIn,run_underlying hu])
   rcases ho with rfl|rfl<;>rfl
  ·cases h
 ·rename_i tt v
  cases ha with
  |d _ _ ha=>
  cases hb with
  |d _ _ hb=>
  cases ha
  cases hb
  split at h
  ·rename_i hu
   obtain⟨ms,hu⟩:=isI_of hu
   have hu:=hT.und _ _ hu
   refine fin h (λz hz=>?_)
   refine eql_run hz (eqGuard_nil_iface op t x y _ _) (λop' ho=>?_) (equal_of_in λd=>by simp[Op.equalIn,run_underlying hu])
   rcases ho with rfl|rfl<;>rfl
  ·cases h
 ·cases ha with
  |d _ _ ha=>
  cases hb with
  |d _ _ hb=>
  cases ha
  cases hb
  split at h
  ·rename_i hu
   obtain⟨p,q,r,hu⟩:=isF_of hu
   have hu:=hT.und _ _ hu
   refine fin h (λz hz=>?_)
   refine eql_run hz (eqGuard_at_nilFunc op t x y _) (λop' ho=>?_) (equal_of_in λd=>by simp[Op.equalIn,run_underlying hu])
   rcases ho with rfl|rfl<;>rfl
  ·cases h
 ·cases ha with
  |d _ _ ha=>
  cases hb with
  |d _ _ hb=>
  cases ha
  cases hb
  split at h
  ·rename_i hu
   obtain⟨p,q,r,hu⟩:=isF_of hu
   have hu:=hT.und _ _ hu
   refine fin h (λz hz=>?_)
   refine eql_run hz (eqGuard_at_func op t x y _ _ _ _) (λop' ho=>?_) (equal_of_in λd=>by simp[Op.equalIn,run_underlying hu])
   rcases ho with rfl|rfl<;>rfl
  ·cases h
 ·cases ha with
  |d _ _ ha=>
  cases hb with
  |d _ _ hb=>
  cases ha
  cases hb
  split at h
  ·rename_i hu
   obtain⟨p,q,r,hu⟩:=isF_of hu
   have hu:=hT.und _ _ hu
   refine fin h (λz hz=>?_)
   refine eql_run hz (eqGuard_at_nilFunc op t x y _) (λop' ho=>?_) (equal_of_in λd=>by simp[Op.equalIn,run_underlying hu])
   rcases ho with rfl|rfl<;>rfl
  ·cases h
 ·cases ha with
  |d _ _ ha=>
  cases hb with
  |d _ _ hb=>
  cases ha
  cases hb
  split at h
  ·rename_i hu
   obtain⟨p,q,r,hu⟩:=isF_of hu
   have hu:=hT.und _ _ hu
   refine fin h (λz hz=>?_)
   refine eql_run hz (eqGuard_at_func op t x y _ _ _ _) (λop' ho=>?_) (equal_of_in λd=>by simp[Op.equalIn,run_underlying hu])
   rcases ho with rfl|rfl<;>rfl
  ·cases h
 ·cases ha with
  |d _ _ ha=>
  cases hb with
  |d _ _ hb=>
  cases ha
  cases hb
  split at h
  ·rename_i hu
   obtain⟨p,q,r,hu⟩:=isF_of hu
   have hu:=hT.und _ _ hu
   refine fin h (λz hz=>?_)
   refine eql_run hz (eqGuard_at_nilFunc op t x y _) (λop' ho=>?_) (equal_of_in λd=>by simp[Op.equalIn,run_underlying hu])
   rcases ho with rfl|rfl<;>rfl
  ·cases h
 ·have ptr:∀(n:Bool) {p:Bool},ptrNil a=some p→ptrNil b=some n→(p=true∨n=true)→(if isP (T.und t) then(eqlBin op (p&&n)).map λx=>Doing.ret (.d x) else none)=some A→
    PureS P E w Tt (do eqGuard op t x y va vb;binOp op t va vb) A:=λn p h1 h2 h3 h=>by
   split at h
   ·rename_i hu
    obtain⟨e,hu⟩:=isP_of hu
    have hu:=hT.und _ _ hu
    refine fin h (λz hz=>?_)
    rcases ptrNil_inv ha h1 with ⟨rfl,rfl⟩|⟨rfl,a1,rfl⟩<;>rcases ptrNil_inv hb h2 with ⟨rfl,rfl⟩|⟨rfl,b1,rfl⟩<;>simp at h3<;>
     (refine eql_run hz (eqGuard_at_pointer op t x y _ _) (λop' ho=>?_) (equal_of_in λd=>by simp[Op.equalIn,run_underlying hu]);rcases ho with rfl|rfl<;>rfl)
   ·cases h
  split at h
  ·rename_i n h1 h2
   exact ptr n h1 h2 (.inl rfl) (by simpa using h)
  ·rename_i n h3 h1 h2
   exact ptr true h1 h2 (.inr rfl) (by simpa using h)
  ·cases h
end
end Go.Proofs.YtgmapdcdmomioaaGreatDoor.Am
namespace Go.Proofs.YtgmapdcdmomioaaGreatDoor.Am
open Go
section
variable{P:Program}{E:Em}{w:World}{Tt:Tabs}{T:Tb}
theorem Rep.sub{m:Nat}{xs:List Dat}{v:Value}(h:Rep E w (.sl m xs) v){l k:Nat}(hlk:l≤k)(hk:k≤xs.length)(m':Nat)(hm:m=m'∨xs=[])(c':Nat):
 ∀a c,v=.slice a xs.length c→k-l≤c'→Rep E w (.sl m' ((xs.take k).drop l)) (.slice (a.map (·.add (l*m'))) (k-l) c'):=by
 intro a c hv hc'
 have hlen:((xs.take k).drop l).length=k-l:=by simp;omega
 rcases hm with rfl|rfl
 ·obtain⟨a',c'',e,h1,h2,h3⟩:=h.sl_inv
  rw[hv] at e
  cases e
  rcases h3 with rfl|⟨b,o,rfl,h3⟩
  ·have:k-l=0:=by simp at hk;omega
   rw[this]
   simp
   exact .emp _ _ _
  ·have hadd:(⟨b,o,none⟩:Addr).add (l*m)=⟨b,o+l*m,none⟩:=Addr.add_mid b o _
   simp only[Option.map_some,hadd]
   rw[←hlen]
   refine Rep.sl_of (by rw[hlen];exact hc') (λx hx=>h2 x (List.mem_of_mem_take (List.mem_of_mem_drop hx))) (λi x hx j d hd=>?_)
   rw[List.getElem?_drop,List.getElem?_take] at hx
   split at hx
   ·have:=h3 (l+i) x hx j d hd
    rw[Nat.add_mul,←Nat.add_assoc] at this
    exact this
   ·cases hx
 ·have:k-l=0:=by simp at hk;omega
  rw[this]
  simp
  exact .emp _ _ _
theorem bound_inv{x:Option Val}{vx:Option Value}{dflt n:Nat}(hx:∀v u,x=some v→vx=some u→RepV E w Tt v u)(hn:x.isSome=vx.isSome)(h:bound x dflt=some n):
 (vx=none∧n=dflt)∨∃k,vx=some (.int k (n:Int)):=by
 cases x with
 |none=>cases vx with
  |none=>cases h;exact .inl ⟨rfl,rfl⟩
  |some _=>cases hn
 |some v=>cases vx with
  |none=>cases hn
  |some u=>
   right
   have hr:=hx v u rfl rfl
   simp only[bound] at h
   split at h
   ·rename_i i hi
    split at h
    ·rename_i h0
     cases h
     unfold intOf? at hi
     split at hi
     ·cases hi
      cases hr with
      |d _ _ hr=>
       cases hr
       exact⟨_,by rw[Int.toNat_of_nonneg h0]⟩
     ·cases hi
    ·cases h
   ·cases h
theorem sliceBound_run{k:IntKind}{n:Nat}{y:Nat}(h:n≤y)(code:BoundsCode):(Instr.sliceBound (.int k (n:Int)) y code).run P w=.ok n w:=by
 have h':(0:Int)≤(n:Int)∧(n:Int)≤(y:Int):=by omega
 simp only[Instr.sliceBound,asIntOf,Sem.run_bind,Sem.run_pure,Result.andThen_ok,h',and_self,if_true,Int.toNat_natCast]
theorem slice_run(hT:T.Ok P){t:TypeId}{x:Val}{lo hi mx:Option Val}{vx:Value}{vlo vhi vmx:Option Value}(hx:RepV E w Tt x vx)
 (hlo:∀v u,lo=some v→vlo=some u→RepV E w Tt v u) (hlo':lo.isSome=vlo.isSome)
 (hhi:∀v u,hi=some v→vhi=some u→RepV E w Tt v u) (hhi':hi.isSome=vhi.isSome)
 (hmx:∀v u,mx=some v→vmx=some u→RepV E w Tt v u) (hmx':mx.isSome=vmx.isSome) {A:Doing} (h:doSlice T t x lo hi mx=some A):
 PureS P E w Tt (Instr.sliceAt t vx vlo vhi vmx) A:=by
 unfold doSlice at h
 split at h
 ·rename_i s hu
  have hu:=hT.und _ _ hu
  cases hx with
  |d _ _ hx=>
  cases hx
  split at h
  ·rename_i l k hl hk
   split at h
   ·rename_i hc
    obtain⟨h1,h2⟩:=hc
    cases h
    have hm:vmx=none:=by cases vmx with
     |none=>rfl
     |some _=>cases hmx'
    subst hm
    refine⟨_,.string ⟨((s.take k).drop l).toArray⟩,rfl,?_,.d _ _ (.str _)⟩
    have hb:(Instr.sliceBounds false (⟨s.toArray⟩:ByteArray).size (⟨s.toArray⟩:ByteArray).size vlo vhi none).run P w=.ok (l,k,s.length) w:=by
     rw[ba_size]
     rcases bound_inv hlo hlo' hl with ⟨rfl,rfl⟩|⟨k1,rfl⟩<;>rcases bound_inv hhi hhi' hk with ⟨rfl,rfl⟩|⟨k2,rfl⟩<;>
      simp[Instr.sliceBounds,sliceBound_run h2,sliceBound_run h1]
    simp only[Instr.sliceAt,Instr.slice,Sem.run_bind,run_underlying hu w,Result.andThen_ok,Option.isSome_none,Bool.false_eq_true,if_false,hb,Sem.run_pure]
    congr 2
    apply ba_ext
    rw[Lib.extract_data]
    simp[List.drop_take]
   ·cases h
  ·cases h
 ·rename_i x' e hu
  have hu:=hT.und _ _ hu
  split at h
  ·rename_i m xs m' he hm'
   obtain⟨hr,a,c,rfl,hlc⟩:=elems_inv hx he
   have hs:=sizeOf_run (P:=P) (w:=w) (hT.size _ _ hm')
   split at h
   ·cases h
   ·rename_i hmm
    have hmm':m=m'∨xs=[]:=by
     by_cases e:m=m'
     ·exact .inl e
     ·exact .inr (Classical.byContradiction λe'=>hmm (.inl ⟨e,by simpa using e'⟩))
    split at h
    ·rename_i l k q hl hk hq
     split at h
     ·rename_i hc
      obtain⟨h1,h2,h3⟩:=hc
      have hkc:k≤c:=by omega
      have hlx:l≤xs.length:=by omega
      have hqc:q≤c:=by omega
      have hb:(Instr.sliceBounds true xs.length c vlo vhi vmx).run P w=.ok (l,k,if mx.isSome then q else c) w:=by
       rcases bound_inv hmx hmx' hq with ⟨rfl,rfl⟩|⟨k3,rfl⟩
       ·have e:mx.isSome=false:=by simpa using hmx'
        rw[e]
        rcases bound_inv hlo hlo' hl with ⟨rfl,rfl⟩|⟨k1,rfl⟩<;>rcases bound_inv hhi hhi' hk with ⟨rfl,rfl⟩|⟨k2,rfl⟩<;>
         simp[Instr.sliceBounds,sliceBound_run h1,sliceBound_run hkc,sliceBound_run hlx]
       ·have e:mx.isSome=true:=by simpa using hmx'
        rw[e]
        rcases bound_inv hhi hhi' hk with ⟨rfl,rfl⟩|⟨k2,rfl⟩
        ·exact absurd (.inr ⟨e,by simpa using hhi'⟩) hmm
        ·rcases bound_inv hlo hlo' hl with ⟨rfl,rfl⟩|⟨k1,rfl⟩<;>
         simp[Instr.sliceBounds,sliceBound_run h1,sliceBound_run h2,sliceBound_run hqc]
      have run:(Instr.sliceAt t (.slice a xs.length c) vlo vhi vmx).run P w=
        .ok (.slice (if (if mx.isSome then q else c)=l then a else a.map (·.add (l*m'))) (k-l) ((if mx.isSome then q else c)-l)) w:=by
       simp only[Instr.sliceAt,Instr.slice,Sem.run_bind,run_underlying hu w,Result.andThen_ok,hb,hs,Sem.run_pure]
      split at h
      ·rename_i hc
       cases h
       obtain⟨e1,e2⟩:=hc
       have e3:k-l=0:=by omega
       refine⟨_,_,rfl,run,?_⟩
       rw[e1,if_pos rfl,e2,e3,Nat.sub_self]
       exact .d _ _ (.nil _)
      ·rename_i hc1
       split at h
       ·rename_i hc2
        cases h
        obtain⟨e1,e2,e3⟩:=hc2
        have e1':mx.isSome=false:=by simpa using e1
        refine⟨_,_,rfl,run,?_⟩
        rw[e1',e2,e3]
        simp only[Bool.false_eq_true,if_false,Nat.sub_zero,Nat.zero_mul]
        have:(if c=0 then a else a.map (·.add 0))=a:=by
         split
         ·rfl
         ·cases a<;>simp[Addr.add]
        rw[this]
        exact hx
       ·cases h
        refine⟨_,_,rfl,run,.d _ _ ?_⟩
        by_cases e:(if mx.isSome then q else c)=l
        ·have e0:k-l=0:=by
          split at e<;>omega
         rw[if_pos e,e,e0,Nat.sub_self]
         have:(xs.take k).drop l=[]:=by
          apply List.eq_nil_of_length_eq_zero
          simp;omega
         rw[this]
         exact .emp _ _ _
        ·rw[if_neg e]
         exact hr.sub h1 (by omega) m' hmm' _ a c rfl (by split<;>omega)
     ·cases h
    ·cases h
  ·cases h
 ·cases h
end
end Go.Proofs.YtgmapdcdmomioaaGreatDoor.Am
namespace Go.Proofs.YtgmapdcdmomioaaGreatDoor.Am
open Go
def Els{α β:Type}(R:α→β→Prop)(l:List α)(r:List β):Prop:=
 l.length=r.length∧∀(j:Nat) a b,l[j]?=some a→r[j]?=some b→R a b
theorem Els.set{α β:Type}{R:α→β→Prop}{l:List α}{r:List β}(h:Els R l r)(i:Nat){a:α}{b:β}(hab:R a b):Els R (l.set i a) (r.set i b):=by
 refine⟨by simp[h.1],λj x y hx hy=>?_⟩
 rw[List.getElem?_set] at hx hy
 by_cases e:i=j
 ·simp only[e,if_true] at hx hy
  split at hx
  ·cases hx
   split at hy
   ·cases hy;exact hab
   ·cases hy
  ·cases hx
 ·simp only[e,if_false] at hx hy
  exact h.2 j x y hx hy
theorem Els.cons{α β:Type}{R:α→β→Prop}{a:α}{b:β}{l:List α}{r:List β}(hab:R a b)(h:Els R l r):Els R (a::l) (b::r):=
 ⟨by simp[h.1],λj x y hx hy=>by
  cases j with
  |zero=>simp at hx hy;subst hx;subst hy;exact hab
  |succ j=>simp at hx hy;exact h.2 j x y hx hy⟩
theorem Els.tail{α β:Type}{R:α→β→Prop}{a:α}{b:β}{l:List α}{r:List β}(h:Els R (a::l) (b::r)):R a b∧Els R l r:=
 ⟨h.2 0 a b rfl rfl,by simpa using h.1,λj x y hx hy=>h.2 (j+1) x y (by simpa using hx) (by simpa using hy)⟩
theorem putAll_length{β:Type}(vs:List β):∀(cs:List β) (o:Nat),(putAll cs o vs).length=cs.length:=by
 induction vs with
 |nil=>intros;rfl
 |cons v vs ih=>intro cs o;simp[putAll,ih]
theorem Els.putAll{α β:Type}{R:α→β→Prop}{xs:List α}:∀{vs:List β} {l:List α} {r:List β} (o:Nat),Els R l r→Els R xs vs→Els R (Am.putAll l o xs) (Am.putAll r o vs):=by
 induction xs with
 |nil=>
  intro vs l r o h h'
  cases vs with
  |nil=>exact h
  |cons _ _=>cases h'.1
 |cons x xs ih=>
  intro vs l r o h h'
  cases vs with
  |nil=>cases h'.1
  |cons v vs=>exact ih (o+1) (h.set o h'.tail.1) h'.tail.2
theorem mem_putAll{β:Type}{vs:List β}:∀{cs:List β} {o:Nat} {x:β},x∈putAll cs o vs→x∈cs∨x∈vs:=by
 induction vs with
 |nil=>intro cs o x h;exact .inl h
 |cons v vs ih=>
  intro cs o x h
  rcases ih h with h|h
  ·rcases List.mem_or_eq_of_mem_set h with h|h
   ·exact .inl h
   ·exact .inr (by simp[h])
  ·exact .inr (by simp[h])
theorem foldl_putAll(vs:List Value):∀(k:Nat) (cells:Array Value) (off:Nat),
 ((vs.zipIdx k).foldl (λ(cs:Array Value) (p:Value×Nat)=>cs.setIfInBounds (off+p.2) p.1) cells).toList=putAll cells.toList (off+k) vs:=by
 induction vs with
 |nil=>intro k cells off;rfl
 |cons v vs ih=>
  intro k cells off
  simp only[List.zipIdx_cons,List.foldl_cons,putAll]
  rw[ih (k+1)]
  simp[Nat.add_assoc]
section
variable{P:Program}{E:Em}{w:World}{Tt:Tabs}{T:Tb}
theorem run_mapM{α β:Type}{f:α→Sem β}{g:α→β}:∀(l:List α),(∀x∈l,(f x).run P w=.ok (g x) w)→(l.mapM f).run P w=.ok (l.map g) w
 |[],_=>by simp
 |x::l,h=>by
  simp only[List.mapM_cons,Sem.run_bind,h x (by simp),Result.andThen_ok,run_mapM l (λy hy=>h y (by simp[hy])),Sem.run_pure,List.map_cons]
theorem run_mapM_array{α β:Type}{f:α→Sem β}{g:α→β}(l:Array α)(h:∀x∈l,(f x).run P w=.ok (g x) w):(l.mapM f).run P w=.ok (l.map g) w:=by
 rw[Array.mapM_eq_mapM_toList,Sem.run_map,run_mapM l.toList (λx hx=>h x (by simpa using hx))]
 simp only[Result.andThen_ok]
 congr 1
 apply Array.ext'
 simp
theorem build_fill{fs:Array Field}{pl:Nat→Option (Nat×Nat)}(hpl:∀(i:Nat) fd n,fs[i]?=some fd→T.size fd.type=some n→pl i=some (fd.offset,n)):
 ∀(parts:List (Nat×Val)) (vparts:List (Nat×Value)) (cs cs':List Val) (us:Array Value),
  Els (λ(p:Nat×Val) (q:Nat×Value)=>p.1=q.1∧RepV E w Tt p.2 q.2) parts vparts→Els (RepV E w Tt) cs us.toList→buildAll T fs cs parts=some cs'→
  ∃us',Instr.fill pl us vparts=some us'∧Els (RepV E w Tt) cs' us'.toList
 |[],vparts,cs,cs',us,hp,hc,h=>by
  cases vparts with
  |nil=>cases h;exact⟨us,rfl,hc⟩
  |cons _ _=>cases hp.1
 |(i,v)::parts,vparts,cs,cs',us,hp,hc,h=>by
  cases vparts with
  |nil=>cases hp.1
  |cons q vparts=>
   obtain⟨i',vv⟩:=q
   obtain⟨⟨e,hv⟩,hp'⟩:=hp.tail
   simp only at e hv
   subst e
   simp only[buildAll] at h
   split at h
   ·rename_i fd hfd
    split at h
    ·rename_i hsz
     obtain⟨hs,hle,hall⟩:=hsz
     obtain⟨vs,e1,e2,e3,e4⟩:=hv.cells hall
     have hpl':=hpl i fd _ hfd hs
     have hus:us.toList.length=cs.length:=hc.1.symm
     have hsize:vs.toArray.size=v.cells.length:=by simpa using e2
     simp only[Instr.fill,hpl',e1]
     rw[if_neg (by rw[hsize];simp at hus;simp;omega)]
     have hf:=foldl_putAll vs 0 us fd.offset
     simp only[Nat.add_zero] at hf
     generalize hus':((vs.toArray.zipIdx.foldl (λ(cs:Array Value) (x:Value×Nat)=>match x with|(c,j)=>cs.setIfInBounds (fd.offset+j) c) us))=us'
     have hus'':us'.toList=putAll us.toList fd.offset vs:=by
      rw[←hus',←hf]
      congr 1
      simp
     refine build_fill hpl parts vparts _ cs' us' hp' ?_ h
     rw[hus'']
     exact hc.putAll _ ⟨e2.symm,e4⟩
    ·cases h
   ·cases h
end
end Go.Proofs.YtgmapdcdmomioaaGreatDoor.Am
namespace Go.Proofs.YtgmapdcdmomioaaGreatDoor.Am
open Go
section
variable{P:Program}{E:Em}{w:World}{Tt:Tabs}{T:Tb}
theorem build_run(hT:T.Ok P){t:TypeId}{parts:List (Nat×Val)}{vparts:List (Nat×Value)}(hp:Els (λ(p:Nat×Val) (q:Nat×Value)=>p.1=q.1∧RepV E w Tt p.2 q.2) parts vparts)
 {A:Doing} (h:doBuild T t parts=some A):PureS P E w Tt (Instr.build t vparts.toArray) A:=by
 unfold doBuild at h
 split at h
 ·rename_i fs z hpt hz
  obtain⟨i,zv,hi,hzv,hrz⟩:=hT.zero _ _ hz
  split at h
  ·rename_i hsz
   split at h
   ·rename_i cs hb
    split at h
    ·rename_i hone
     cases h
     have hrz:=hrz E w
     obtain⟨us,hus,hels⟩:∃us:Array Value,zv.cells=us∧Els (RepV E w Tt) (z.cells.map Val.d) us.toList:=by
      cases hrz with
      |agg ds vs hl h1 hr=>
       refine⟨vs.toArray,rfl,by simpa[Dat.cells] using hl,λj a b ha hb=>?_⟩
       simp only[Dat.cells,List.getElem?_map,Option.map_eq_some_iff] at ha
       obtain⟨d,hd,rfl⟩:=ha
       exact .d _ _ (hr j d b hd (by simpa using hb))
      |gsl t m xs v n h hk hn ht=>
       have hr':=Rep.gsl t m xs _ n h hk hn ht
       have hc:zv.cells=#[zv]:=by cases h<;>rfl
       refine⟨_,hc,by simp[Dat.cells],λj a b ha hb=>?_⟩
       match j with
       |0=>
        simp[Dat.cells] at ha
        simp at hb
        subst ha;subst hb
        exact .d _ _ hr'
       |j+1=>simp[Dat.cells] at ha
      |_=>
       refine⟨_,rfl,by simp[Dat.cells,Value.cells],λj a b ha hb=>?_⟩
       match j with
       |0=>
        simp[Dat.cells] at ha
        simp[Value.cells] at hb
        subst ha;subst hb
        refine .d _ _ ?_
        first|assumption|(constructor<;>assumption)
       |j+1=>simp[Dat.cells] at ha
     have hfields:∀fd∈fs,∃n,T.size fd.type=some n:=λfd hfd=>by
      have:=(Array.all_eq_true_iff_forall_mem.1 hsz) fd hfd
      exact Option.isSome_iff_exists.1 this
     rcases partsT_inv hpt with hu|⟨n,e,m,hu,hm,rfl⟩
     ·have hu:=hT.und _ _ hu
      let g:Field→Nat×Nat:=λfd=>(fd.offset,(T.size fd.type).getD 0)
      have hplaces:(fs.mapM λf=>do pure (f.offset,←sizeOf f.type):Sem (Array (Nat×Nat))).run P w=.ok (fs.map g) w:=by
       refine run_mapM_array fs (λfd hfd=>?_)
       obtain⟨n,hn⟩:=hfields fd hfd
       simp only[Sem.run_bind,sizeOf_run (P:=P) (w:=w) (hT.size _ _ hn),Result.andThen_ok,Sem.run_pure,g,hn,Option.getD_some]
      obtain⟨us',hf,he⟩:=build_fill (T:=T) (fs:=fs) (pl:=λj=>(fs.map g)[j]?) (λj fd n hj hn=>by
       simp[hj,g,hn]) parts vparts _ cs us hp hels hb
      refine⟨_,.agg us',rfl,?_,?_⟩
      ·simp only[Instr.build,Sem.run_bind,zeroValue_run hi hzv,Result.andThen_ok,run_underlying hu w,hplaces,hus]
       simp only[hf,Sem.run_pure]
      ·have:us'=us'.toList.toArray:=by simp
       rw[this]
       exact mkAgg_rep he.1 (λc hc=>by rw[List.all_eq_true] at hone;exact hone c hc) he.2
     ·have hu:=hT.und _ _ hu
      have hs:=sizeOf_run (P:=P) (w:=w) (hT.size _ _ hm)
      obtain⟨us',hf,he⟩:=build_fill (T:=T) (fs:=arrFields n m e) (pl:=λj=>some (j*m,m)) (λj fd n' hj hn=>by
       obtain⟨e1,e2⟩:=arrFields_get hj
       rw[e1,hm] at hn
       cases hn
       rw[e2]) parts vparts _ cs us hp hels hb
      refine⟨_,.agg us',rfl,?_,?_⟩
      ·simp only[Instr.build,Sem.run_bind,zeroValue_run hi hzv,Result.andThen_ok,run_underlying hu w,hs,hus]
       simp only[hf,Sem.run_pure]
      ·have:us'=us'.toList.toArray:=by simp
       rw[this]
       exact mkAgg_rep he.1 (λc hc=>by rw[List.all_eq_true] at hone;exact hone c hc) he.2
    ·cases h
   ·cases h
  ·cases h
 ·cases h
theorem max_run(gt:Bool){e:Val→Value}:∀(l:List Val) (vl:List Value) (a m:Int),Els (RepV E w Tt) l vl→maxes gt a l=some m→
 (vl.foldlM (if gt then Builtin.max2 else Builtin.min2) (.int .i64 a)).run P w=.ok (.int .i64 m) w
 |[],vl,a,m,hl,h=>by
  cases vl with
  |nil=>cases h;rfl
  |cons _ _=>cases hl.1
 |v::l,vl,a,m,hl,h=>by
  cases vl with
  |nil=>cases hl.1
  |cons u vl=>
   have hv:=hl.tail.1
   unfold maxes at h
   split at h
   ·rename_i hh;cases hh
   ·rename_i a' b' l' hh
    cases hh
    cases hv with
    |d _ _ hv=>
    cases hv
    have:=max_run gt (e:=e) l vl _ m hl.tail.2 h
    cases gt
    ·simp only[Bool.false_eq_true,if_false] at this⊢
     simp only[List.foldlM_cons,Sem.run_bind,Builtin.min2,Sem.run_pure,Result.andThen_ok]
     exact this
    ·simp only[if_true] at this⊢
     simp only[List.foldlM_cons,Sem.run_bind,Builtin.max2,Sem.run_pure,Result.andThen_ok]
     exact this
   ·cases h
end
end Go.Proofs.YtgmapdcdmomioaaGreatDoor.Am
namespace Go.Proofs.YtgmapdcdmomioaaGreatDoor.Am
open Go
def DoesS(P:Program)(s:Sem Value)(E:Em)(w:World)(st:St)(v:Val)(st':St):Prop:=
 ∃u w' E',s.run P w=.ok u w'∧RepV E' w' st'.tabs v u∧MRel E' w' st'∧Up E w st.glob.toks E' w' st'.glob.toks∧UpL E st.boxes st.toks E' st'.boxes st'.toks
def DoesU(P:Program)(s:Sem Unit)(E:Em)(w:World)(st:St)(st':St):Prop:=
 ∃w' E',s.run P w=.ok () w'∧MRel E' w' st'∧Up E w st.glob.toks E' w' st'.glob.toks∧UpL E st.boxes st.toks E' st'.boxes st'.toks
theorem ret_apply(v:Val)(st:St):(Doing.ret v).apply st=some (.val v,st):=rfl
section
variable{P:Program}{E:Em}{w:World}{st st':St}{T:Tb}
theorem PureS.does{s:Sem Value}{A:Doing}(h:PureS P E w st.tabs s A)(hm:MRel E w st){out:Out}(ha:A.apply st=some (out,st')):∃v,out=.val v∧DoesS P s E w st v st':=by
 obtain⟨v,u,rfl,h1,h2⟩:=h
 rw[ret_apply] at ha
 cases ha
 exact⟨v,rfl,u,w,E,h1,h2,hm,Up.refl _ _ _,UpL.refl _ _ _⟩
theorem RepV.ofG{G:List (Nat×Nat)}{c:Val}{v:Value}(B:Mp (Nat×Box))(K:Mp (Nat×Option (Nat×Nat)))(h:RepV E w ⟨⟨[]⟩,⟨[]⟩,G⟩ c v):RepV E w ⟨B,K,G⟩ c v:=
 RepV.up (Up.refl _ _ _) ⟨λk g bx h=>by simp[Mp.get_empty] at h,λk g r h=>by simp[Mp.get_empty] at h⟩ h
theorem CellsAt.cell{Tt:Tabs}{b:Nat}{cs:List Val}(h:CellsAt E w Tt b cs)(j:Nat)(c:Val)(hc:cs[j]?=some c):c.one=true∧∃u,w.cell? ⟨b,j,none⟩=some u∧RepV E w Tt c u:=by
 obtain⟨vs,t,h1,h2,h3,h4⟩:=h
 have hj:j<vs.size:=by rw[h2];exact(List.getElem?_eq_some_iff.1 hc).1
 exact⟨h3 c (List.mem_of_getElem? hc),vs[j],by simp[World.cell?,h1,hj],h4 j c _ hc (by simp[hj])⟩
theorem dat?_one{c:Val}{x:Dat}(hd:c.dat?=some x):c.one=true∧x.one=true:=by
 cases c with
 |d y=>
  simp only[Val.dat?] at hd
  by_cases h:y.one=true
  ·rw[if_pos h] at hd
   cases hd
   exact⟨h,h⟩
  ·rw[if_neg h] at hd
   cases hd
 |own k g m xs=>cases hd;exact⟨rfl,rfl⟩
 |gown g m xs=>cases hd;exact⟨rfl,rfl⟩
 |_=>cases hd
theorem load_run(hT:T.Ok P)(hm:MRel E w st){t:TypeId}{x:Val}{vx:Value}(hx:RepV E w st.tabs x vx){A:Doing}(h:doLoad T t x=some A){out:Out}(ha:A.apply st=some (out,st')):
 ∃v,out=.val v∧DoesS P (Instr.loadAt t vx) E w st v st':=by
 have fin:∀{v u},(Instr.loadAt t vx).run P w=.ok u w→RepV E w st.tabs v u→DoesS P (Instr.loadAt t vx) E w st v st:=λh1 h2=>⟨_,w,E,h1,h2,hm,Up.refl _ _ _,UpL.refl _ _ _⟩
 unfold doLoad at h
 split at h
 ·rename_i k g o
  cases h
  simp only[Doing.apply,Doing.look,Doing.put] at ha
  cases hx with
  |loc _ _ _ _ hx=>
  obtain⟨b,g',bx,rfl,hb,hle,hbx⟩:=hx
  have hb:st.boxes.get k=some (g',bx):=hb
  rw[hb] at ha
  cases bx with
  |cells cs=>
   simp only at ha
   by_cases e:g'=g
   ·simp only[e,if_true] at ha
    cases hl:loadV T t (cs.drop o) with
    |none=>rw[hl] at ha;cases ha
    |some v=>
     rw[hl] at ha
     cases ha
     have hbb:=hbx e.symm
     subst hbb
     obtain⟨_,_,hat⟩:=hm.boxes k g' _ hb
     obtain⟨u,h1,h2⟩:=loadV_run (w:=w) (E:=E) (Tt:=st.tabs) (b:=E.bx k) (o:=o) hT hl (λj c hc=>by
      rw[List.getElem?_drop] at hc
      exact CellsAt.cell hat _ c hc)
     exact⟨v,rfl,fin h1 h2⟩
   ·simp only[e,if_false] at ha
    cases ha
  |iter s pos=>cases ha
  |map es c=>cases ha
 ·rename_i cs
  split at h
  ·rename_i x' hl
   cases h
   rw[ret_apply] at ha
   cases ha
   cases hx with
   |imm _ b o h1 h2 h3=>
   obtain⟨u,h4,h5⟩:=loadD_run (w:=w) (E:=E) (b:=b) (o:=o) hT hl (λj c hc=>⟨h1 j c hc,h3 j c hc⟩)
   exact⟨_,rfl,fin h4 (.d _ _ h5)⟩
  ·cases h
 ·rename_i i o
  cases h
  simp only[Doing.apply,Doing.look,Doing.put] at ha
  cases hx with
  |d _ _ hx=>
  cases hx with
  |ptr _ _ hi=>
  cases hb:st.glob.boxes[i]? with
  |none=>rw[hb] at ha;cases ha
  |some bx=>
   rw[hb] at ha
   cases bx with
   |map es c=>cases ha
   |cells cs=>
    simp only at ha
    cases hl:loadV T t ((cs.drop o).map GVal.v) with
    |none=>rw[hl] at ha;cases ha
    |some v=>
     rw[hl] at ha
     cases ha
     obtain⟨_,_,hat⟩:=hm.g.boxes i _ hb
     obtain⟨u,h1,h2⟩:=loadV_run (w:=w) (E:=E) (Tt:=st.tabs) (b:=E.gb i) (o:=o) hT hl (λj c hc=>by
      rw[List.map_drop,List.getElem?_drop] at hc
      obtain⟨e1,u,e2,e3⟩:=CellsAt.cell hat _ c hc
      exact⟨e1,u,e2,e3.ofG _ _⟩)
     exact⟨v,rfl,fin h1 h2⟩
 ·cases h
theorem putAll_eq{β:Type}:∀(vs cs:List β) (o:Nat),o+vs.length≤cs.length→putAll cs o vs=cs.take o++vs++cs.drop (o+vs.length)
 |[],cs,o,h=>by simp[putAll]
 |v::vs,cs,o,h=>by
  simp only[putAll]
  rw[putAll_eq vs _ _ (by simp at h⊢;omega)]
  have:o+(v::vs).length=o+1+vs.length:=by simp;omega
  rw[this]
  have ho:o<cs.length:=by simp at h;omega
  rw[List.take_succ_eq_append_getElem (by simpa using ho)]
  simp only[List.getElem_set_self]
  rw[List.drop_set_of_lt (by omega)]
  congr 1
  have:(cs.set o v).take o=cs.take o:=by rw[List.take_set_of_le (Nat.le_refl o)]
  rw[this]
  simp
theorem wrote_setRow(w:World)(g:Nat)(cur cs:Array Value)(t:TypeId)(hg:w.heap[g]?=some (.cells cur t (0,0))):Wrote w (w.setRow g cs) g (.cells cs t (0,0)):=
 ⟨rfl,rfl,rfl,size_setRow w g cs,setRow_heap w g cur cs t (0,0) hg,λk hk=>setRow_other w g k cs hk⟩
theorem store_cells{t:TypeId}{v:Value}{vs:List Value}{b o:Nat}{cur:Array Value}{te:TypeId}(hs:∃i,P.info? t=some i∧i.size=vs.length)(hv:v.cells=vs.toArray)
 (h1:∀u∈vs,u.oneCell'=true) (hb:w.heap[b]?=some (.cells cur te (0,0))) (hle:o+vs.length≤cur.size):
 (Instr.storeAt t (.pointer (some ⟨b,o,none⟩)) v).run P w=.ok () (w.setRow b (putAll cur.toList o vs).toArray):=by
 have hst:=run_storeCells_at P b o te vs 0 cur w hb (by simpa using hle) h1
 simp only[Nat.add_zero] at hst
 rw[putAll_eq vs cur.toList o (by simpa using hle)]
 simp only[Instr.storeAt,Instr.sureAddr,storeVar,Sem.run_bind,Sem.run_pure,Result.andThen_ok,sizeOf_run hs,hv]
 simp[hst]
theorem store_run(hT:T.Ok P)(hm:MRel E w st){t:TypeId}{p v:Val}{vp vv:Value}(hp:RepV E w st.tabs p vp)(hv:RepV E w st.tabs v vv)
 {esc:List Nat} {A:Doing} (h:doStore T esc t p v=some A) {out:Out} (ha:A.apply st=some (out,st')):
 out=.val .undef∧DoesU P (Instr.storeAt t vp vv) E w st st':=by
 unfold doStore at h
 split at h
 ·cases h
 ·rename_i hsz
  have hsz:T.size t=some v.cells.length:=Classical.byContradiction hsz
  split at h
  ·rename_i k g o
   split at h
   ·rename_i hall
    cases h
    simp only[Doing.apply,Doing.look,Doing.put] at ha
    cases hp with
    |loc _ _ _ _ hx=>
    obtain⟨b,g',bx,rfl,hb,hle,hbx⟩:=hx
    have hb:st.boxes.get k=some (g',bx):=hb
    rw[hb] at ha
    cases bx with
    |iter s pos=>cases ha
    |map es c=>cases ha
    |cells cs=>
     simp only at ha
     split at ha
     ·rename_i out' b' k' g'' e
      split at e
      ·rename_i hc
       obtain⟨e1,e2⟩:=hc
       cases e
       cases ha
       have hbb:=hbx e1.symm
       subst hbb
       subst e1
       obtain⟨q1,q2,cur,te,q3,q4,q5,q6⟩:=hm.boxes k g' _ hb
       obtain⟨vs,c1,c2,c3,c4⟩:=hv.cells hall
       have hrun:=store_cells (P:=P) (w:=w) (t:=t) (by rw[c2];exact hT.size _ _ hsz) c1 c3 q3 (by rw[c2,q4];exact e2)
       obtain⟨r1,r2,r3⟩:=hm.setBox hb (bx':=.cells (putAll cs o v.cells)) (wrote_setRow w (E.bx k) cur (putAll cur.toList o vs).toArray te q3) (λE' T' f _=>by
        refine⟨_,te,(wrote_setRow w (E.bx k) cur (putAll cur.toList o vs).toArray te q3).new,by simp[putAll_length,q4],λc hc=>?_,?_⟩
        ·rcases mem_putAll hc with hc|hc
         ·exact q5 c hc
         ·rw[List.all_eq_true] at hall;exact hall c hc
        ·have e1:Els (RepV E w st.tabs) cs cur.toList:=⟨by simp[q4],λj a b ha hb=>q6 j a b ha (by simpa using hb)⟩
         have e2:=e1.putAll o (⟨c2.symm,c4⟩:Els (RepV E w st.tabs) v.cells vs)
         exact λj c u hc hu=>f c u (e2.2 j c u hc (by simpa using hu)))
       exact⟨rfl,_,E,hrun,r3,r1,r2⟩
      ·cases e
     ·cases ha
   ·cases h
  ·rename_i i o
   cases hp with
   |d _ _ hp=>
   cases hp with
   |ptr _ _ hi=>
   split at h
   ·rename_i v' k g m xs _ _
    cases h
    simp only[Doing.apply,Doing.look,Doing.put] at ha
    cases hv with
    |own _ _ _ _ _ hr hown=>
    cases hb:st.glob.boxes[i]? with
    |none=>rw[hb] at ha;cases ha
    |some bx=>
     rw[hb] at ha
     cases bx with
     |map es c=>cases ha
     |cells cs=>
      simp only at ha
      by_cases hlo:o+1≤cs.length
      ·simp only[hlo,if_true] at ha
       obtain⟨q1,q2,cur,te,q3,q4,q5,q6⟩:=hm.g.boxes i _ hb
       have h1:vv.oneCell'=true:=hr.oneCell rfl
       have hcv:vv.cells=[vv].toArray:=cells_of_one h1
       have hrun:=store_cells (P:=P) (w:=w) (t:=t) (o:=o) (hT.size _ _ hsz) hcv (by simpa using h1) q3 (by simp at q4;simp;omega)
       have hput:putAll cur.toList o [vv]=cur.toList.set o vv:=rfl
       rw[hput] at hrun
       have hw:=wrote_setRow w (E.gb i) cur (cur.toList.set o vv).toArray te q3
       have hlen:i<st.glob.boxes.length:=(List.getElem?_eq_some_iff.1 hb).1
       by_cases hk:st.toks.get k=some (g,some (m,xs.length))
       ·simp only[hk,if_true] at ha
        cases ha
        obtain⟨r1,r2,r3⟩:=hm.hand hk (λb hb=>by have:=hm.g.own_g b _ hb;omega)
        -- the numbered box,in the handed memory
        have hgb:(E.hand k st.glob.toks.length (m,xs.length)).gb i=E.gb i:=rfl
        obtain⟨s1,s2,s3⟩:=r3.setGlob (i:=i) (bx:=.cells cs) (bx':=.cells (cs.set o (.own st.glob.toks.length m xs))) hb (w':=w.setRow (E.gb i) (cur.toList.set o vv).toArray) hw (λE' f f'=>by
         refine⟨_,te,hw.new,by simp[q4],λc hc=>?_,?_⟩
         ·obtain⟨c',hc',rfl⟩:=List.mem_map.1 hc
          rcases List.mem_or_eq_of_mem_set hc' with hc'|rfl
          ·exact q5 _ (List.mem_map_of_mem hc')
          ·rfl
         ·intro j c u hc hu
          rw[List.getElem?_map] at hc
          by_cases ejo:o=j
          ·subst ejo
           have ho:o<cs.length:=hlo
           rw[List.getElem?_set_self ho] at hc
           simp at hc
           subst hc
           have hocur:o<cur.size:=by simp at q4;omega
           simp[hocur] at hu
           subst hu
           apply f
           refine .gown _ _ _ _ (hr.up r1) ?_
           refine⟨m,xs.length,by simp,Nat.le_refl _,λ_=>?_⟩
           obtain⟨g2,r,k1,k2,k3⟩:=hown
           have k1:st.toks.get k=some (g2,r):=k1
           rw[hk] at k1
           cases k1
           rw[(k3 rfl m xs.length rfl).2 rfl]
           simp[Em.hand]
          ·rw[List.getElem?_set_ne ejo] at hc
           simp only[List.getElem?_toArray,List.getElem?_set_ne ejo,Array.getElem?_toList] at hu
           apply f
           have:=q6 j c u (by rw[List.getElem?_map];exact hc) hu
           exact RepV.up r1 ⟨λk g bx h=>by simp[Mp.get_empty] at h,λk g r h=>by simp[Mp.get_empty] at h⟩ this)
        exact⟨rfl,_,_,hrun,s3,r1.trans s1,r2.trans s2⟩
       ·simp only[hk,if_false] at ha
        cases ha
        obtain⟨s1,s2,s3⟩:=hm.setGlob (i:=i) (bx:=.cells cs) (bx':=.cells (cs.set o (.d (.sl m xs)))) hb hw (λE' f f'=>by
         refine⟨_,te,hw.new,by simp[q4],λc hc=>?_,?_⟩
         ·obtain⟨c',hc',rfl⟩:=List.mem_map.1 hc
          rcases List.mem_or_eq_of_mem_set hc' with hc'|rfl
          ·exact q5 _ (List.mem_map_of_mem hc')
          ·rfl
         ·intro j c u hc hu
          rw[List.getElem?_map] at hc
          by_cases ejo:o=j
          ·subst ejo
           have ho:o<cs.length:=hlo
           rw[List.getElem?_set_self ho] at hc
           simp at hc
           subst hc
           have hocur:o<cur.size:=by simp at q4;omega
           simp[hocur] at hu
           subst hu
           exact .d _ _ (f' _ _ hr)
          ·rw[List.getElem?_set_ne ejo] at hc
           simp only[List.getElem?_toArray,List.getElem?_set_ne ejo,Array.getElem?_toList] at hu
           exact f _ _ (q6 j c u (by rw[List.getElem?_map];exact hc) hu))
        exact⟨rfl,_,_,hrun,s3,s1,s2⟩
      ·simp only[hlo,if_false] at ha
       cases ha
   ·rename_i v _ _ _ _
    split at h
    ·rename_i gs hgs
     cases h
     simp only[Doing.apply,Doing.look,Doing.put] at ha
     cases hb:st.glob.boxes[i]? with
     |none=>rw[hb] at ha;cases ha
     |some bx=>
      rw[hb] at ha
      cases bx with
      |map es c=>cases ha
      |cells cs=>
       simp only at ha
       by_cases hlo:o+gs.length≤cs.length
       ·simp only[hlo,if_true] at ha
        cases ha
        obtain⟨hl,hg⟩:=optAll_get hgs
        have gone:∀c g,Val.toGe (ga esc) c=some g→c.one=true∧g.v.one=true∧∀u,RepV E w st.tabs c u→RepV E w ⟨⟨[]⟩,⟨[]⟩,st.glob.toks⟩ g.v u:=λc g hcg=>by
         unfold Val.toGe at hcg
         split at hcg
         ·cases hd:c.dat? with
          |none=>rw[hd] at hcg;cases hcg
          |some x=>
           rw[hd] at hcg
           cases hcg
           refine⟨?_,?_,λu hu=>.d _ _ (hu.dat hd).1⟩
           ·exact(dat?_one hd).1
           ·exact(dat?_one hd).2
         unfold Val.toG at hcg
         split at hcg
         ·cases hcg
          refine⟨rfl,rfl,λu hu=>?_⟩
          cases hu with
          |gown _ _ _ _ h h'=>exact .gown _ _ _ _ h h'
         ·cases hd:c.dat? with
          |none=>rw[hd] at hcg;cases hcg
          |some x=>
           rw[hd] at hcg
           cases hcg
           refine⟨?_,?_,λu hu=>.d _ _ (hu.dat hd).1⟩
           ·exact(dat?_one hd).1
           ·exact(dat?_one hd).2
        have hall:v.cells.all Val.one=true:=by
         rw[List.all_eq_true]
         intro c hc
         obtain⟨j,hj⟩:=List.mem_iff_getElem?.1 hc
         have hjl:j<gs.length:=by rw[←hl];exact(List.getElem?_eq_some_iff.1 hj).1
         exact(gone c _ (hg j c _ hj (List.getElem?_eq_getElem hjl))).1
        obtain⟨q1,q2,cur,te,q3,q4,q5,q6⟩:=hm.g.boxes i _ hb
        obtain⟨vs,c1,c2,c3,c4⟩:=hv.cells hall
        have hrun:=store_cells (P:=P) (w:=w) (t:=t) (o:=o) (by rw[c2];exact hT.size _ _ hsz) c1 c3 q3 (by simp at q4;omega)
        have hw:=wrote_setRow w (E.gb i) cur (putAll cur.toList o vs).toArray te q3
        have hmap:(putAll cs o gs).map GVal.v=putAll (cs.map GVal.v) o (gs.map GVal.v):=by
         clear hgs hl hg hlo hb q4 q5 q6 hall hrun hw c1 c2 c3 c4
         induction gs generalizing cs o with
         |nil=>rfl
         |cons x gs ih=>simp only[Am.putAll,List.map_cons,ih,List.map_set]
        obtain⟨s1,s2,s3⟩:=hm.setGlob (i:=i) (bx:=.cells cs) (bx':=.cells (putAll cs o gs)) hb hw (λE' f f'=>by
         show CellsAt _ _ _ _ ((putAll cs o gs).map GVal.v)
         rw[hmap]
         refine⟨_,te,hw.new,by simp[putAll_length] at q4⊢;exact q4,λc hc=>?_,?_⟩
         ·rcases mem_putAll hc with hc|hc
          ·exact q5 c hc
          ·obtain⟨c',hc',rfl⟩:=List.mem_map.1 hc
           obtain⟨j,hj⟩:=List.mem_iff_getElem?.1 hc'
           have hjl:j<v.cells.length:=by rw[hl];exact(List.getElem?_eq_some_iff.1 hj).1
           exact(gone _ _ (hg j _ c' (List.getElem?_eq_getElem hjl) hj)).2.1
         ·have e1:Els (RepV E w ⟨⟨[]⟩,⟨[]⟩,st.glob.toks⟩) (cs.map GVal.v) cur.toList:=⟨by simp at q4⊢;exact q4.symm,λj a b ha hb=>q6 j a b ha (by simpa using hb)⟩
          have e2:Els (RepV E w ⟨⟨[]⟩,⟨[]⟩,st.glob.toks⟩) (gs.map GVal.v) vs:=by
           refine⟨by simp[←hl,c2],λj a b ha hb=>?_⟩
           simp only[List.getElem?_map,Option.map_eq_some_iff] at ha
           obtain⟨g,hgj,rfl⟩:=ha
           have hjl:j<v.cells.length:=by rw[hl];exact(List.getElem?_eq_some_iff.1 hgj).1
           have hcj:=List.getElem?_eq_getElem hjl
           exact(gone _ _ (hg j _ g hcj hgj)).2.2 b (c4 j _ b hcj hb)
          have e3:=e1.putAll o e2
          exact λj c u hc hu=>f c u (e3.2 j c u hc (by simpa using hu)))
        exact⟨rfl,_,E,hrun,s3,s1,s2⟩
       ·simp only[hlo,if_false] at ha
        cases ha
    ·cases h
  ·cases h
end
end Go.Proofs.YtgmapdcdmomioaaGreatDoor.Am
