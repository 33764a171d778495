/- The parse layers in the plain machine: functions that are known by their answers. The parse layers' data: trees, what is known of them; loops that count. -/
import Derived.Test.YtgmapdcdmomioaaGreatDoorTU
import Derived.Test.YtgmapdcdmomioaaGreatDoorTV
import Derived.Test.YtgmapdcdmomioaaGreatDoorRA
import Derived.Test.YtgmapdcdmomioaaGreatDoorRB
set_option linter.all false
set_option autoImplicit false
set_option maxRecDepth 100000
namespace Go.Proofs.YtgmapdcdmomioaaGreatDoor.Pa
open Go Go.RowKit Go.Proofs.YtgmapdcdmomioaaGreatDoor.Am
def numOut:Option Int→Out
 |some n=>.val (.tuple [.d (.agg [.int .i64 4,.str [],.int .i64 n,.int .i64 0]),.d (.int .i64 0)])
 |none=>.val (.tuple [.d (.agg [.int .i64 0,.str [],.int .i64 0,.int .i64 0]),.d (.int .i64 110)])
def numSays:List Dat→Glob→Option (Out×Glob)
 |[.str s],g=>if s.length≤281474976710656 then some (numOut (numTok s),g) else none
 |_,_=>none
theorem rep_tok(E:Em)(w:World)(k n:Int):Rep E w (.agg [.int .i64 k,.str [],.int .i64 n,.int .i64 0]) (tokVal k ⟨#[]⟩ n):=by
 refine .agg _ [.int .i64 k,.string ⟨#[]⟩,.int .i64 n,.int .i64 0] rfl (λd hd=>?_) (λj d v hd hv=>?_)
 ·simp only[List.mem_cons,List.not_mem_nil,or_false] at hd
  rcases hd with rfl|rfl|rfl|rfl<;>rfl
 ·match j,hd,hv with
  |0,hd,hv=>cases hd;cases hv;exact .int _ _
  |1,hd,hv=>cases hd;cases hv;exact .str []
  |2,hd,hv=>cases hd;cases hv;exact .int _ _
  |3,hd,hv=>cases hd;cases hv;exact .int _ _
theorem rep_num(E:Em)(w:World)(B:Nat)(o:Option Int):OutRep E w B (numOut o) (.returned (numVal o)):=by
 have key:∀k n e:Int,RepO E w B (.tuple [.d (.agg [.int .i64 k,.str [],.int .i64 n,.int .i64 0]),.d (.int .i64 e)]) (.tuple #[tokVal k ⟨#[]⟩ n,.int .i64 e]):=λk n e=>
  ⟨[tokVal k ⟨#[]⟩ n,.int .i64 e],rfl,rfl,λj x y hx hy=>by
    match j,hx,hy with
    |0,hx,hy=>cases hx;cases hy;exact rep_tok E w k n
    |1,hx,hy=>cases hx;cases hy;exact .int _ _⟩
 cases o with
 |none=>exact⟨_,rfl,key 0 0 110⟩
 |some n=>exact⟨_,rfl,key 4 n 0⟩
theorem numSays_inv{ds:List Dat}{g:Glob}{r:Out×Glob}(h:numSays ds g=some r):∃s,ds=[.str s]∧s.length≤281474976710656∧r=(numOut (numTok s),g):=by
 match ds,h with
 |[.str s],h=>
  simp only[numSays] at h
  split at h
  ·rename_i hl
   cases h
   exact⟨s,rfl,hl,rfl⟩
  ·cases h
theorem numSays_ok{w0:World}(h0:ErrsIn w0):∀ds g out g',numSays ds g=some (out,g')→Am.Enters Tryz.prog 169∧∀E w vs,Based w0 E w→GRel E w g→GlobOnly E→ReL E w ds vs→Calls Tryz.prog 169 vs.toArray w (Post E w g out g'):=by
 intro ds g out g' hs
 obtain⟨s,rfl,hl,he⟩:=numSays_inv hs
 cases he
 refine⟨⟨Tryz.f169,Tryz.func169,by kernel_rfl,by kernel_rfl⟩,λE w vs hb hg ho hr=>?_⟩
 obtain⟨v0,rfl⟩:∃v0,vs=[v0]:=by
  match vs,hr.1 with
  |[v0],_=>exact⟨v0,rfl⟩
 have h:=hr.2 0 _ _ rfl rfl
 cases h
 have hw:ErrsIn w:=by
  obtain⟨⟨e0,c0,k0⟩,e1,c1,k1⟩:=h0
  exact⟨⟨e0,(hb.1.cell (Lib.lt_of_cell c0)).trans c0,k0⟩,e1,(hb.1.cell (Lib.lt_of_cell c1)).trans c1,k1⟩
 refine(number_calls ⟨s.toArray⟩ (by simpa[ByteArray.size] using hl) w hw).mono λe w' ⟨he,hb'⟩=>?_
 subst he
 exact⟨E,up_below hg hb',hg.below hb',ho,rep_num E w' _ _⟩
def exts(f:FuncId):Option (List Dat→Glob→Option (Out×Glob)):=bif Nat.beq f 15 then some saysTrue else bif Nat.beq f 28 then some saysTrue else bif Nat.beq f 157 then some cloneSays else bif Nat.beq f 162 then some idxSays else bif Nat.beq f 169 then some numSays else none
noncomputable def TT:Tb:={T0 with ext:=exts}
theorem tund(t:TypeId):TT.und t=Tryz.prog.underlying t:=rfl
theorem okTT:TT.Ok Tryz.prog:=withExt_ok okT0
theorem extTT{w0:World}(h0:ErrsIn w0):ExtOk Tryz.prog (Based w0) TT:=λf s h=>by
 have h':exts f=some s:=h
 unfold exts at h'
 cases hf:Nat.beq f 15 with
 |true=>
  rw[hf] at h'
  cases h'
  obtain rfl:=Nat.eq_of_beq_eq_true hf
  exact saysTrue_ok ⟨Tryz.f15,Tryz.func15,by kernel_rfl,by kernel_rfl⟩ wakes12
 |false=>
  rw[hf] at h'
  cases hf1:Nat.beq f 28 with
  |true=>
   rw[hf1] at h'
   cases h'
   obtain rfl:=Nat.eq_of_beq_eq_true hf1
   exact saysTrue_ok ⟨Tryz.f28,Tryz.func28,by kernel_rfl,by kernel_rfl⟩ wakes14
  |false=>
  rw[hf1] at h'
  cases hf3:Nat.beq f 157 with
  |true=>
   rw[hf3] at h'
   cases h'
   obtain rfl:=Nat.eq_of_beq_eq_true hf3
   exact cloneSays_ok
  |false=>
  rw[hf3] at h'
  cases hf4:Nat.beq f 162 with
  |true=>
   rw[hf4] at h'
   cases h'
   obtain rfl:=Nat.eq_of_beq_eq_true hf4
   exact idxSays_ok
  |false=>
  rw[hf4] at h'
  cases hf2:Nat.beq f 169 with
  |false=>rw[hf2] at h';cases h'
  |true=>
   rw[hf2] at h'
   cases h'
   obtain rfl:=Nat.eq_of_beq_eq_true hf2
   exact numSays_ok h0
theorem number_ok(s:List UInt8)(hs:s.length≤281474976710656)(g:Glob)(Qf:OGP)(hQ:Qf (numOut (numTok s)) g):EvF TT 169 [.str s] g Qf:=
 ⟨_,_,hQ,1,λm hm=>by
   obtain⟨k,rfl⟩:∃k,m=k+1:=⟨m-1,by omega⟩
   show(if s.length≤281474976710656 then some (numOut (numTok s),g) else none)=_
   rw[if_pos hs]⟩
theorem clone_raw{x:Dat}{r:Out}(g:Glob)(h:cloneSays [x] g=some (r,g))(Qf:OGP)(hQ:Qf r g):EvF TT 157 [x] g Qf:=
 ⟨_,_,hQ,1,λm hm=>by obtain⟨k,rfl⟩:∃k,m=k+1:=⟨m-1,by omega⟩;exact h⟩
theorem wakes14_ok(g:Glob)(Qf:OGP)(hQ:Qf (.val (.d (.bool true))) g):EvF TT 28 [] g Qf:=
 ⟨_,_,hQ,1,λm hm=>by obtain⟨k,rfl⟩:∃k,m=k+1:=⟨m-1,by omega⟩;rfl⟩
def rk:FuncId→RK:=λ_=>.rd
end Go.Proofs.YtgmapdcdmomioaaGreatDoor.Pa
namespace Go.Proofs.YtgmapdcdmomioaaGreatDoor.Pa
open Go Go.Proofs.YtgmapdcdmomioaaGreatDoor.Am
abbrev Str:=List UInt8
theorem wrap_nat{n:Nat}(h:n≤2^62):IntKind.i64.wrap ((n:Int)+1)=((n+1:Nat):Int):=by
 rw[show((n:Int)+1)=((n+1:Nat):Int) by omega]
 have e:((n+1:Nat):Int)%2^64=((n+1:Nat):Int):=by omega
 have e2:¬((n+1:Nat):Int)≥2^(64-1):=by omega
 show(if (true&&decide (((n+1:Nat):Int)%2^64≥(2^(64-1):Int)))=true then((n+1:Nat):Int)%2^64-2^64 else((n+1:Nat):Int)%2^64)=_
 simp only[e,e2,decide_false,Bool.and_false,Bool.false_eq_true,if_false]
theorem wrap_id{n:Int}(h1:-(2^63)≤n)(h2:n<2^63):IntKind.i64.wrap n=n:=by
 show(if (true&&decide (n%2^64≥(2^(64-1):Int)))=true then n%2^64-2^64 else n%2^64)=n
 by_cases h:0≤n
 ·have e:n%2^64=n:=by omega
  have e2:¬n≥2^(64-1):=by omega
  simp only[e,e2,decide_false,Bool.and_false,Bool.false_eq_true,if_false]
 ·have e:n%2^64=n+2^64:=by omega
  have e2:n+2^64≥2^(64-1):=by omega
  simp only[e,e2,decide_true,Bool.and_true,if_true]
  omega
theorem loopUp{len:Nat}(L:Nat→Prop)(done:L len)(step:∀i,i<len→L (i+1)→L i):∀i,i≤len→L i:=by
 have:∀j i,i+j=len→L i:=by
  intro j
  induction j with
  |zero=>intro i h;have:i=len:=by omega
         rw[this];exact done
  |succ j ih=>intro i h;exact step i (by omega) (ih (i+1) (by omega))
 intro i h
 exact this (len-i) i (by omega)
theorem inB{i n:Nat}(h:i<n):InB (i:Int) n:=⟨Int.natCast_nonneg _,by omega⟩
theorem getE_nat{xs:List Dat}{i:Nat}(h:i<xs.length):getE xs (i:Int)=xs[i]:=by
 have:=List.getElem?_eq_getElem h
 simp only[getE,Int.toNat_natCast,nth_get this]
theorem Br_lt{i n:Nat}{A B:Prop}(h:i<n):Br (decide ((i:Int)<(n:Int))) A B=A:=by
 have:decide ((i:Int)<(n:Int))=true:=by simpa using h
 rw[this];rfl
theorem Br_ge{n:Nat}{A B:Prop}:Br (decide ((n:Int)<(n:Int))) A B=B:=by
 have:decide ((n:Int)<(n:Int))=false:=by simp
 rw[this];rfl
def CellsTy:List TypeId→List Dat→Prop
 |[],[]=>True
 |t::ts,c::cs=>HasTy TT t c∧CellsTy ts cs
 |_,_=>False
theorem cellsTy_of:∀{tys:List TypeId} {cs:List Dat},tys.length=cs.length→(∀(i:Nat) u c,tys[i]?=some u→cs[i]?=some c→HasTy TT u c)→CellsTy tys cs
 |[],[],_,_=>trivial
 |[],_::_,h,_=>by cases h
 |_::_,[],h,_=>by cases h
 |t::ts,c::cs,h,hx=>⟨hx 0 t c rfl rfl,cellsTy_of (by simpa using h) λi u d hu hd=>hx (i+1) u d (by simpa using hu) (by simpa using hd)⟩
theorem of_cellsTy:∀{tys:List TypeId} {cs:List Dat},CellsTy tys cs→tys.length=cs.length∧∀(i:Nat) u c,tys[i]?=some u→cs[i]?=some c→HasTy TT u c
 |[],[],_=>⟨rfl,λi u c h=>by simp at h⟩
 |[],_::_,h=>h.elim
 |_::_,[],h=>h.elim
 |t::ts,c::cs,h=>by
  obtain⟨h1,h2⟩:=of_cellsTy h.2
  refine⟨by simp[h1],λi u d hu hd=>?_⟩
  cases i with
  |zero=>simp at hu hd;subst hu hd;exact h.1
  |succ i=>exact h2 i u d (by simpa using hu) (by simpa using hd)
theorem struct_ty{t:TypeId}{tys:List TypeId}{x:Dat}(ha:isAgg? (TT.und t)=true)(hl:lay TT t=some tys)(h:HasTy TT t x):∃cs,x=.agg cs∧CellsTy tys cs:=by
 obtain⟨tys',cs,rfl,hl',hn,_,hx⟩:=h.agg_inv ha
 rw[hl] at hl'
 cases hl'
 exact⟨cs,rfl,cellsTy_of hn hx⟩
theorem struct_of{t:TypeId}{tys:List TypeId}{cs:List Dat}(ha:isAgg? (TT.und t)=true)(hl:lay TT t=some tys)(hn:tys.all (λu=>!(isAgg? (TT.und u)))=true)(h:CellsTy tys cs):HasTy TT t (.agg cs):=by
 obtain⟨h1,h2⟩:=of_cellsTy h
 refine .agg _ tys cs ha hl h1 (λc hc=>?_) h2
 obtain⟨i,hi⟩:=List.mem_iff_getElem?.1 hc
 have hlt:i<tys.length:=by rw[h1];exact(List.getElem?_eq_some_iff.1 hi).1
 have hu:=List.getElem?_eq_getElem hlt
 have:=(List.all_eq_true.1 hn) _ (List.getElem_mem hlt)
 exact(h2 i _ c hu hi).one_inv (by simpa using this)
theorem undInt:TT.und 3=some (.int .i64):=by kernel_rfl
theorem undStr:TT.und 9=some .string:=by kernel_rfl
theorem undTypes:TT.und 89=some (.slice 94):=by kernel_rfl
theorem undPats:TT.und 25=some (.slice 127):=by kernel_rfl
theorem undExprs:TT.und 24=some (.slice 27):=by kernel_rfl
theorem undDecls:TT.und 23=some (.slice 76):=by kernel_rfl
theorem undCons:TT.und 74=some (.slice 91):=by kernel_rfl
theorem undStrs:TT.und 61=some (.slice 9):=by kernel_rfl
theorem int_ty{x:Dat}(h:HasTy TT 3 x):∃n,x=.int .i64 n:=⟨_,h.int_inv undInt⟩
theorem str_ty{x:Dat}(h:HasTy TT 9 x):∃s,x=.str s∧s.length≤2^40:=⟨_,h.str_inv undStr⟩
theorem ty_int{n:Int}:HasTy TT 3 (.int .i64 n):=tyInt undInt
theorem ty_str{s:Str}(h:s.length≤2^40):HasTy TT 9 (.str s):=tyStr undStr h
theorem type_ty{x:Dat}(h:HasTy TT 94 x):∃k s n a,x=.agg [.int .i64 k,.str s,.int .i64 n,a]∧s.length≤2^40∧HasTy TT 89 a:=by
 obtain⟨cs,rfl,hc⟩:=struct_ty (tys:=[3,9,3,89]) (by kernel_rfl) (by kernel_rfl) h
 match cs,hc with
 |[c0,c1,c2,c3],⟨h0,h1,h2,h3,_⟩=>
  obtain⟨k,rfl⟩:=int_ty h0
  obtain⟨s,rfl,hs⟩:=str_ty h1
  obtain⟨n,rfl⟩:=int_ty h2
  exact⟨k,s,n,c3,rfl,hs,h3⟩
theorem ty_type{k n:Int}{s:Str}{a:Dat}(hs:s.length≤2^40)(ha:HasTy TT 89 a):HasTy TT 94 (.agg [.int .i64 k,.str s,.int .i64 n,a]):=
 struct_of (tys:=[3,9,3,89]) (by kernel_rfl) (by kernel_rfl) (by kernel_rfl) ⟨ty_int,ty_str hs,ty_int,ha,trivial⟩
theorem pat_ty{x:Dat}(h:HasTy TT 127 x):∃k s n a p,x=.agg [.int .i64 k,.str s,.int .i64 n,a,.int .i64 p]∧s.length≤2^40∧HasTy TT 25 a:=by
 obtain⟨cs,rfl,hc⟩:=struct_ty (tys:=[3,9,3,25,3]) (by kernel_rfl) (by kernel_rfl) h
 match cs,hc with
 |[c0,c1,c2,c3,c4],⟨h0,h1,h2,h3,h4,_⟩=>
  obtain⟨k,rfl⟩:=int_ty h0
  obtain⟨s,rfl,hs⟩:=str_ty h1
  obtain⟨n,rfl⟩:=int_ty h2
  obtain⟨p,rfl⟩:=int_ty h4
  exact⟨k,s,n,c3,p,rfl,hs,h3⟩
theorem ty_pat{k n p:Int}{s:Str}{a:Dat}(hs:s.length≤2^40)(ha:HasTy TT 25 a):HasTy TT 127 (.agg [.int .i64 k,.str s,.int .i64 n,a,.int .i64 p]):=
 struct_of (tys:=[3,9,3,25,3]) (by kernel_rfl) (by kernel_rfl) (by kernel_rfl) ⟨ty_int,ty_str hs,ty_int,ha,ty_int,trivial⟩
theorem expr_ty{x:Dat}(h:HasTy TT 27 x):∃k s r n a b p,x=.agg [.int .i64 k,.str s,.str r,.int .i64 n,a,b,.int .i64 p]∧s.length≤2^40∧r.length≤2^40∧HasTy TT 24 a∧HasTy TT 25 b:=by
 obtain⟨cs,rfl,hc⟩:=struct_ty (tys:=[3,9,9,3,24,25,3]) (by kernel_rfl) (by kernel_rfl) h
 match cs,hc with
 |[c0,c1,c2,c3,c4,c5,c6],⟨h0,h1,h2,h3,h4,h5,h6,_⟩=>
  obtain⟨k,rfl⟩:=int_ty h0
  obtain⟨s,rfl,hs⟩:=str_ty h1
  obtain⟨r,rfl,hr⟩:=str_ty h2
  obtain⟨n,rfl⟩:=int_ty h3
  obtain⟨p,rfl⟩:=int_ty h6
  exact⟨k,s,r,n,c4,c5,p,rfl,hs,hr,h4,h5⟩
theorem ty_expr{k n p:Int}{s r:Str}{a b:Dat}(hs:s.length≤2^40)(hr:r.length≤2^40)(ha:HasTy TT 24 a)(hb:HasTy TT 25 b):HasTy TT 27 (.agg [.int .i64 k,.str s,.str r,.int .i64 n,a,b,.int .i64 p]):=
 struct_of (tys:=[3,9,9,3,24,25,3]) (by kernel_rfl) (by kernel_rfl) (by kernel_rfl) ⟨ty_int,ty_str hs,ty_str hr,ty_int,ha,hb,ty_int,trivial⟩
theorem con_ty{x:Dat}(h:HasTy TT 91 x):∃s a,x=.agg [.str s,a]∧s.length≤2^40∧HasTy TT 89 a:=by
 obtain⟨cs,rfl,hc⟩:=struct_ty (tys:=[9,89]) (by kernel_rfl) (by kernel_rfl) h
 match cs,hc with
 |[c0,c1],⟨h0,h1,_⟩=>
  obtain⟨s,rfl,hs⟩:=str_ty h0
  exact⟨s,c1,rfl,hs,h1⟩
theorem ty_con{s:Str}{a:Dat}(hs:s.length≤2^40)(ha:HasTy TT 89 a):HasTy TT 91 (.agg [.str s,a]):=
 struct_of (tys:=[9,89]) (by kernel_rfl) (by kernel_rfl) (by kernel_rfl) ⟨ty_str hs,ha,trivial⟩
theorem decl_ty{x:Dat}(h:HasTy TT 76 x):∃s a b p,x=.agg [.str s,a,b,.int .i64 p]∧s.length≤2^40∧HasTy TT 61 a∧HasTy TT 74 b:=by
 obtain⟨cs,rfl,hc⟩:=struct_ty (tys:=[9,61,74,3]) (by kernel_rfl) (by kernel_rfl) h
 match cs,hc with
 |[c0,c1,c2,c3],⟨h0,h1,h2,h3,_⟩=>
  obtain⟨s,rfl,hs⟩:=str_ty h0
  obtain⟨p,rfl⟩:=int_ty h3
  exact⟨s,c1,c2,p,rfl,hs,h1,h2⟩
theorem ty_decl{s:Str}{a b:Dat}{p:Int}(hs:s.length≤2^40)(ha:HasTy TT 61 a)(hb:HasTy TT 74 b):HasTy TT 76 (.agg [.str s,a,b,.int .i64 p]):=
 struct_of (tys:=[9,61,74,3]) (by kernel_rfl) (by kernel_rfl) (by kernel_rfl) ⟨ty_str hs,ha,hb,ty_int,trivial⟩
theorem prog_ty{x:Dat}(h:HasTy TT 29 x):∃d k s r n a b p,x=.agg [d,.int .i64 k,.str s,.str r,.int .i64 n,a,b,.int .i64 p]∧HasTy TT 23 d∧HasTy TT 27 (.agg [.int .i64 k,.str s,.str r,.int .i64 n,a,b,.int .i64 p]):=by
 obtain⟨cs,rfl,hc⟩:=struct_ty (tys:=[23,3,9,9,3,24,25,3]) (by kernel_rfl) (by kernel_rfl) h
 match cs,hc with
 |[c,c0,c1,c2,c3,c4,c5,c6],⟨hd,h0,h1,h2,h3,h4,h5,h6,_⟩=>
  obtain⟨k,rfl⟩:=int_ty h0
  obtain⟨s,rfl,hs⟩:=str_ty h1
  obtain⟨r,rfl,hr⟩:=str_ty h2
  obtain⟨n,rfl⟩:=int_ty h3
  obtain⟨p,rfl⟩:=int_ty h6
  exact⟨c,k,s,r,n,c4,c5,p,rfl,hd,ty_expr hs hr h4 h5⟩
theorem ty_prog{d a b:Dat}{k n p:Int}{s r:Str}(hd:HasTy TT 23 d)(he:HasTy TT 27 (.agg [.int .i64 k,.str s,.str r,.int .i64 n,a,b,.int .i64 p])):HasTy TT 29 (.agg [d,.int .i64 k,.str s,.str r,.int .i64 n,a,b,.int .i64 p]):=by
 obtain⟨k',s',r',n',a',b',p',e,hs,hr,ha,hb⟩:=expr_ty he
 cases e
 exact struct_of (tys:=[23,3,9,9,3,24,25,3]) (by kernel_rfl) (by kernel_rfl) (by kernel_rfl) ⟨hd,ty_int,ty_str hs,ty_str hr,ty_int,ha,hb,ty_int,trivial⟩
theorem sl_ty{t e:TypeId}{m:Nat}{xs:List Dat}(hu:TT.und t=some (.slice e))(hs:TT.size e=some m)(hl:SlFit TT e xs.length)(hx:∀x∈xs,HasTy TT e x):HasTy TT t (slOf m xs):=slOf_ty hu hs hl hx
theorem sizeOf_el{y:Dat}{i:Nat}(h:i<(elsOf y).length):SizeOf.sizeOf (elsOf y)[i]<SizeOf.sizeOf y:=by
 cases y with
 |sl m xs=>
  have:=List.sizeOf_lt_of_mem (List.getElem_mem (show i<xs.length from h))
  simp only[elsOf,Dat.sl.sizeOf_spec] at this⊢
  omega
 |gsl t m xs=>
  have:=List.sizeOf_lt_of_mem (List.getElem_mem (show i<xs.length from h))
  simp only[elsOf,Dat.gsl.sizeOf_spec] at this⊢
  omega
 |_=>exact absurd h (by simp[elsOf])
theorem sizeOf_cell{cs:List Dat}{c:Dat}(h:c∈cs):SizeOf.sizeOf c<SizeOf.sizeOf (Dat.agg cs):=by
 have:=List.sizeOf_lt_of_mem h
 simp only[Dat.agg.sizeOf_spec]
 omega
inductive Ty where
 |mk (k:Int) (s:Str) (n:Int) (args:List Ty)
inductive Pt where
 |mk (k:Int) (s:Str) (n:Int) (args:List Pt) (p:Int)
inductive Ex' where
 |mk (k:Int) (s r:Str) (n:Int) (args:List Ex') (pats:List Pt) (p:Int)
instance:Inhabited Ty:=⟨.mk 0 [] 0 []⟩
instance:Inhabited Pt:=⟨.mk 0 [] 0 [] 0⟩
instance:Inhabited Ex':=⟨.mk 0 [] [] 0 [] [] 0⟩
mutual
def absTy:Dat→Ty
 |.agg [.int _ k,.str s,.int _ n,a]=>.mk k s n (absTyA a)
 |_=>default
def absTyA:Dat→List Ty
 |.sl _ xs=>absTyL xs
 |.gsl _ _ xs=>absTyL xs
 |_=>[]
def absTyL:List Dat→List Ty
 |[]=>[]
 |x::xs=>absTy x::absTyL xs
end
mutual
def absPt:Dat→Pt
 |.agg [.int _ k,.str s,.int _ n,a,.int _ p]=>.mk k s n (absPtA a) p
 |_=>default
def absPtA:Dat→List Pt
 |.sl _ xs=>absPtL xs
 |.gsl _ _ xs=>absPtL xs
 |_=>[]
def absPtL:List Dat→List Pt
 |[]=>[]
 |x::xs=>absPt x::absPtL xs
end
mutual
def absEx:Dat→Ex'
 |.agg [.int _ k,.str s,.str r,.int _ n,a,b,.int _ p]=>.mk k s r n (absExA a) (absPtA b) p
 |_=>default
def absExA:Dat→List Ex'
 |.sl _ xs=>absExL xs
 |.gsl _ _ xs=>absExL xs
 |_=>[]
def absExL:List Dat→List Ex'
 |[]=>[]
 |x::xs=>absEx x::absExL xs
end
theorem absTyL_map(xs:List Dat):absTyL xs=xs.map absTy:=by induction xs with
 |nil=>rfl
 |cons x xs ih=>simp only[absTyL,List.map_cons,ih]
theorem absPtL_map(xs:List Dat):absPtL xs=xs.map absPt:=by induction xs with
 |nil=>rfl
 |cons x xs ih=>simp only[absPtL,List.map_cons,ih]
theorem absExL_map(xs:List Dat):absExL xs=xs.map absEx:=by induction xs with
 |nil=>rfl
 |cons x xs ih=>simp only[absExL,List.map_cons,ih]
theorem absTyA_map(x:Dat):absTyA x=(elsOf x).map absTy:=by cases x<;>simp[absTyA,elsOf,absTyL_map]
theorem absPtA_map(x:Dat):absPtA x=(elsOf x).map absPt:=by cases x<;>simp[absPtA,elsOf,absPtL_map]
theorem absExA_map(x:Dat):absExA x=(elsOf x).map absEx:=by cases x<;>simp[absExA,elsOf,absExL_map]
structure Cn where
 s:Str
 fs:List Ty
structure Dc where
 s:Str
 ps:List Str
 cs:List Cn
 p:Int
structure Pg where
 ds:List Dc
 e:Ex'
def absCn(x:Dat):Cn:=⟨strOf (fld x 0),absTyA (fld x 1)⟩
def absDc(x:Dat):Dc:=⟨strOf (fld x 0),(elsOf (fld x 1)).map strOf,(elsOf (fld x 2)).map absCn,intOf (fld x 3)⟩
def absPg(x:Dat):Pg:=⟨(elsOf (fld x 0)).map absDc,absEx (sub x 1 7)⟩
end Go.Proofs.YtgmapdcdmomioaaGreatDoor.Pa
