/- The useful layer in the plain machine: functions that are known by their answers. The parse layers' data: trees, what is known of them; loops that count. -/
import Derived.Test.YtiheejdkkjfenaaGreatDoorTU
import Derived.Test.YtiheejdkkjfenaaGreatDoorRA
set_option linter.all false
set_option autoImplicit false
set_option maxRecDepth 100000
namespace Go.Proofs.YtiheejdkkjfenaaGreatDoor.Pa
open Go Go.RowKit Go.Proofs.YtiheejdkkjfenaaGreatDoor.Am
def nuO:Option Int→Out
 |some n=>.val (.tuple [.d (.agg [.int .i64 4,.str [],.int .i64 n,.int .i64 0]),.d (.int .i64 0)])
 |none=>.val (.tuple [.d (.agg [.int .i64 0,.str [],.int .i64 0,.int .i64 0]),.d (.int .i64 110)])
def nuS:List Dat→Glob→Option (Out×Glob)
 |[.str s],g=>if s.length≤281474976710656 then some (nuO (nuT s),g) else none
 |_,_=>none
theorem rpt(E:Em)(w:World)(k n:Int):Rep E w (.agg [.int .i64 k,.str [],.int .i64 n,.int .i64 0]) (tV k ⟨#[]⟩ n):=by
 refine .agg _ [.int .i64 k,.string ⟨#[]⟩,.int .i64 n,.int .i64 0] rfl (λd hd=>?_) (λj d v hd hv=>?_)
 ·simp only[List.mem_cons,List.not_mem_nil,or_false] at hd;rcases hd with rfl|rfl|rfl|rfl<;>rfl
 ·match j,hd,hv with
  |0,hd,hv=>cases hd;cases hv;exact .int _ _
  |1,hd,hv=>cases hd;cases hv;exact .str []
  |2,hd,hv=>cases hd;cases hv;exact .int _ _
  |3,hd,hv=>cases hd;cases hv;exact .int _ _
theorem rpm(E:Em)(w:World)(B:Nat)(o:Option Int):Ot E w B (nuO o) (.returned (nV o)):=by
 have key:∀k n e:Int,RpO E w B (.tuple [.d (.agg [.int .i64 k,.str [],.int .i64 n,.int .i64 0]),.d (.int .i64 e)]) (.tuple #[tV k ⟨#[]⟩ n,.int .i64 e]):=λk n e=>
  ⟨[tV k ⟨#[]⟩ n,.int .i64 e],rfl,rfl,λj x y hx hy=>by
    match j,hx,hy with
    |0,hx,hy=>cases hx;cases hy;exact rpt E w k n
    |1,hx,hy=>cases hx;cases hy;exact .int _ _⟩
 cases o with
 |none=>exact⟨_,rfl,key 0 0 110⟩
 |some n=>exact⟨_,rfl,key 4 n 0⟩
theorem nua{ds:List Dat}{g:Glob}{r:Out×Glob}(h:nuS ds g=some r):∃s,ds=[.str s]∧s.length≤281474976710656∧r=(nuO (nuT s),g):=by
 match ds,h with
 |[.str s],h=>
  simp only[nuS] at h;split at h
  ·rename_i hl;cases h;exact⟨s,rfl,hl,rfl⟩
  ·cases h
theorem nuy{w0:World}(h0:Es w0):∀ds g out g',nuS ds g=some (out,g')→Am.Enters Tryz.prog 151∧∀E w vs,Bd w0 E w→GR E w g→Gl E→ReL E w ds vs→Calls Tryz.prog 151 vs.toArray w (Post E w g out g'):=by
 intro ds g out g' hs;obtain⟨s,rfl,hl,he⟩:=nua hs;cases he;refine⟨⟨Tryz.f151,Tryz.func151,by kernel_rfl,by kernel_rfl⟩,λE w vs hb hg ho hr=>?_⟩;obtain⟨v0,rfl⟩:∃v0,vs=[v0]:=by
  match vs,hr.1 with
  |[v0],_=>exact⟨v0,rfl⟩
 have h:=hr.2 0 _ _ rfl rfl;cases h;have hw:Es w:=by
  obtain⟨⟨e0,c0,k0⟩,e1,c1,k1⟩:=h0;exact⟨⟨e0,(hb.1.cell (Lib.lt_of_cell c0)).trans c0,k0⟩,e1,(hb.1.cell (Lib.lt_of_cell c1)).trans c1,k1⟩
 refine(nub ⟨s.toArray⟩ (by simpa[ByteArray.size] using hl) w hw).mono λe w' ⟨he,hb'⟩=>?_;subst he;exact⟨E,ul hg hb',hg.below hb',ho,rpm E w' _ _⟩
def eA5(f:FuncId):Option (List Dat→Glob→Option (Out×Glob)):=bif Nat.beq f 9 then some sau else bif Nat.beq f 117 then some cln else bif Nat.beq f 151 then some nuS else ets f
noncomputable def TT:Tb:={T0 with ext:=eA5}
theorem tun(t:TypeId):TT.und t=Tryz.prog.underlying t:=rfl
theorem oTT:TT.Ok Tryz.prog:=wE oA2
theorem etT{w0:World}(h0:Es w0):EO Tryz.prog (Bd w0) TT:=λf s h=>by
 have h':eA5 f=some s:=h;unfold eA5 at h';cases hf:Nat.beq f 9 with
 |true=>
  rw[hf] at h';cases h';obtain rfl:=Nat.eq_of_beq_eq_true hf;exact sas ⟨Tryz.f9,Tryz.func9,by kernel_rfl,by kernel_rfl⟩ wke
 |false=>
 rw[hf] at h';cases hf4:Nat.beq f 117 with
 |true=>
  rw[hf4] at h';cases h';obtain rfl:=Nat.eq_of_beq_eq_true hf4;exact clS
 |false=>
  rw[hf4] at h';cases hf2:Nat.beq f 151 with
  |false=>rw[hf2] at h';exact exW f s h'
  |true=>
   rw[hf2] at h';cases h';obtain rfl:=Nat.eq_of_beq_eq_true hf2;exact nuy h0
theorem nue(s:List UInt8)(hs:s.length≤281474976710656)(g:Glob)(Qf:OGP)(hQ:Qf (nuO (nuT s)) g):EvF TT 151 [.str s] g Qf:=
 ⟨_,_,hQ,1,λm hm=>by
   obtain⟨k,rfl⟩:∃k,m=k+1:=⟨m-1,by omega⟩
   show(if s.length≤281474976710656 then some (nuO (nuT s),g) else none)=_;rw[if_pos hs]⟩
theorem wak(g:Glob)(Qf:OGP)(hQ:Qf (.val (.d (.bool true))) g):EvF TT 9 [] g Qf:=
 ⟨_,_,hQ,1,λm hm=>by obtain⟨k,rfl⟩:∃k,m=k+1:=⟨m-1,by omega⟩;rfl⟩
theorem clr{ds:List Dat}{r:Out}(g:Glob)(h:cln ds g=some (r,g))(Qf:OGP)(hQ:Qf r g):EvF TT 117 ds g Qf:=
 ⟨_,_,hQ,1,λm hm=>by obtain⟨k,rfl⟩:∃k,m=k+1:=⟨m-1,by omega⟩;exact h⟩
theorem wio{n:Nat}(h:n≤1099511627776)(g:Glob)(Qf:OGP)(hQ:Qf (.val (.d (.sl 5 (List.replicate n anP)))) g):EvF TT 44 [.int .i64 n] g Qf:=
 ⟨_,_,hQ,1,λm hm=>by
   obtain⟨k,rfl⟩:∃k,m=k+1:=⟨m-1,by omega⟩
   show(bif Nat.ble n 1099511627776 then some (Out.val (.d (.sl 5 (List.replicate n anP))),g) else none)=_;rw[Nat.ble_eq_true_of_le h];rfl⟩
theorem gz(g:Glob)(Qf:OGP)(hQ:Qf (.val (.d .nil)) g):EvF TT 189 [.nil,.int .i64 0] g Qf:=
 ⟨_,_,hQ,1,λm hm=>by obtain⟨k,rfl⟩:∃k,m=k+1:=⟨m-1,by omega⟩;rfl⟩
theorem grN{n:Nat}(h0:0<n)(h:n≤1099511627776)(g:Glob)(Qf:OGP)(hQ:Qf (.val (.d (.gsl g.toks.length 5 []))) ⟨g.boxes,g.toks++[(5,0)]⟩):EvF TT 189 [.nil,.int .i64 n] g Qf:=
 ⟨_,_,hQ,1,λm hm=>by
   obtain⟨k,rfl⟩:∃k,m=k+1:=⟨m-1,by omega⟩
   show(bif Nat.beq n 0 then some (Out.val (.d .nil),g) else bif Nat.ble n 1099511627776 then some (Out.val (.d (.gsl g.toks.length 5 [])),(⟨g.boxes,g.toks++[(5,0)]⟩:Glob)) else none)=_;rw[show Nat.beq n 0=false from by cases n with|zero=>omega|succ n=>rfl,Nat.ble_eq_true_of_le h];rfl⟩
theorem roC{x:Dat}{xs:List Dat}(hx:x=.sl 1 xs∨∃t,x=.gsl t 1 xs)(h0:xs≠[])(h:xs.length≤1099511627776)(g:Glob)(Qf:OGP)(hQ:Qf (.val (.d (.gsl g.toks.length 1 xs))) ⟨g.boxes,g.toks++[(1,xs.length)]⟩):
 EvF TT 72 [x] g Qf:=
 ⟨_,_,hQ,1,λm hm=>by
   obtain⟨k,rfl⟩:∃k,m=k+1:=⟨m-1,by omega⟩
   have he:xs.isEmpty=false:=by cases xs with|nil=>exact absurd rfl h0|cons a l=>rfl
   rcases hx with rfl|⟨t,rfl⟩<;>
   ·show(bif Nat.beq 1 1&&(Nat.ble xs.length 1099511627776&&!xs.isEmpty) then some (Out.val (.d (.gsl g.toks.length 1 xs)),(⟨g.boxes,g.toks++[(1,xs.length)]⟩:Glob)) else none)=_;rw[Nat.ble_eq_true_of_le h,he];rfl⟩
def rk:FuncId→RK:=λ_=>.rd
theorem sF{f:FuncId}{Qf:Out→Glob→Prop}{g:Glob}{ds:List Dat}{S:Prop}(fn:Func)(loops:List CuI)(args:List (TypeId×Dat))(ht:AlT TT args)(h:S)(hx:TT.ext f=none:=by exact rfl)(hf:TT.fn f=some fn:=by exact rfl)(hb:fn.body=some (bod fn):=by exact rfl)(hds:args.map (·.2)=ds:=by exact rfl)(he:S=sxF TT rk f fn Qf loops [] 100000 args g:=by kernel_rfl):EvF TT f ds g Qf:=sxf hx hf hb hds ht he h
theorem sC{fn:Func}{p:List Nat}{Qf:Out→Glob→Prop}{s:SSt}{S:Prop}(loops:List CuI)(h:S)(he:S=sxP TT rk fn Qf loops [] 100000 p s:=by kernel_rfl):CP TT fn p Qf s:=sxc he h
abbrev iv(n:Int):SV:=.v 3 (.int .i64 n)
abbrev LC(f:FuncId)(fn:Func)(p:List Nat)(Qf:Out→Glob→Prop)(k:Nat)(r:List (Nat×SV))(b:List (Nat×SBo))(g:Glob):Prop:=CP TT fn p Qf (mkC TT f fn k r b g)
abbrev K(n:Nat):Nat×Sh:=(n,.keep)
end Go.Proofs.YtiheejdkkjfenaaGreatDoor.Pa
namespace Go.Proofs.YtiheejdkkjfenaaGreatDoor.Pa
open Go Go.Proofs.YtiheejdkkjfenaaGreatDoor.Am
abbrev Str:=List UInt8
theorem wra{n:Nat}(h:n≤2^62):IntKind.i64.wrap ((n:Int)+1)=((n+1:Nat):Int):=by
 rw[show((n:Int)+1)=((n+1:Nat):Int) by omega];have e:((n+1:Nat):Int)%2^64=((n+1:Nat):Int):=by omega
 have e2:¬((n+1:Nat):Int)≥2^(64-1):=by omega
 show(if (true&&decide (((n+1:Nat):Int)%2^64≥(2^(64-1):Int)))=true then((n+1:Nat):Int)%2^64-2^64 else((n+1:Nat):Int)%2^64)=_;simp only[e,e2,decide_false,Bool.and_false,Bool.false_eq_true,if_false]
theorem wrp{n:Int}(h1:-(2^63)≤n)(h2:n<2^63):IntKind.i64.wrap n=n:=by
 show(if (true&&decide (n%2^64≥(2^(64-1):Int)))=true then n%2^64-2^64 else n%2^64)=n
 by_cases h:0≤n
 ·have e:n%2^64=n:=by omega
  have e2:¬n≥2^(64-1):=by omega
  simp only[e,e2,decide_false,Bool.and_false,Bool.false_eq_true,if_false]
 ·have e:n%2^64=n+2^64:=by omega
  have e2:n+2^64≥2^(64-1):=by omega
  simp only[e,e2,decide_true,Bool.and_true,if_true];omega
theorem lU{len:Nat}(L:Nat→Prop)(done:L len)(step:∀i,i<len→L (i+1)→L i):∀i,i≤len→L i:=by
 have:∀j i,i+j=len→L i:=by
  intro j
  induction j with
  |zero=>intro i h;have:i=len:=by omega
         rw[this];exact done
  |succ j ih=>intro i h;exact step i (by omega) (ih (i+1) (by omega))
 intro i h;exact this (len-i) i (by omega)
theorem inB{i n:Nat}(h:i<n):InB (i:Int) n:=⟨Int.natCast_nonneg _,by omega⟩
theorem geE{xs:List Dat}{i:Nat}(h:i<xs.length):gtE xs (i:Int)=xs[i]:=by
 have:=List.getElem?_eq_getElem h;simp only[gtE,Int.toNat_natCast,ntg this]
theorem Bl{i n:Nat}{A B:Prop}(h:i<n):Br (decide ((i:Int)<(n:Int))) A B=A:=by
 have:decide ((i:Int)<(n:Int))=true:=by simpa using h
 rw[this];rfl
theorem Bg{n:Nat}{A B:Prop}:Br (decide ((n:Int)<(n:Int))) A B=B:=by
 have:decide ((n:Int)<(n:Int))=false:=by simp
 rw[this];rfl
def Cel:List TypeId→List Dat→Prop
 |[],[]=>True
 |t::ts,c::cs=>Ha TT t c∧Cel ts cs
 |_,_=>False
theorem cey:∀{tys:List TypeId} {cs:List Dat},tys.length=cs.length→(∀(i:Nat) u c,tys[i]?=some u→cs[i]?=some c→Ha TT u c)→Cel tys cs
 |[],[],_,_=>trivial
 |[],_::_,h,_=>by cases h
 |_::_,[],h,_=>by cases h
 |t::ts,c::cs,h,hx=>⟨hx 0 t c rfl rfl,cey (by simpa using h) λi u d hu hd=>hx (i+1) u d (by simpa using hu) (by simpa using hd)⟩
theorem ofc:∀{tys:List TypeId} {cs:List Dat},Cel tys cs→tys.length=cs.length∧∀(i:Nat) u c,tys[i]?=some u→cs[i]?=some c→Ha TT u c
 |[],[],_=>⟨rfl,λi u c h=>by simp at h⟩
 |[],_::_,h=>h.elim
 |_::_,[],h=>h.elim
 |t::ts,c::cs,h=>by
  obtain⟨h1,h2⟩:=ofc h.2;refine⟨by simp[h1],λi u d hu hd=>?_⟩;cases i with
  |zero=>simp at hu hd;subst hu hd;exact h.1
  |succ i=>exact h2 i u d (by simpa using hu) (by simpa using hd)
theorem stc{t:TypeId}{tys:List TypeId}{x:Dat}(ha:isAgg? (TT.und t)=true)(hl:lay TT t=some tys)(h:Ha TT t x):∃cs,x=.agg cs∧Cel tys cs:=by
 obtain⟨tys',cs,rfl,hl',hn,_,hx⟩:=h.ai ha;rw[hl] at hl';cases hl';exact⟨cs,rfl,cey hn hx⟩
theorem stu{t:TypeId}{tys:List TypeId}{cs:List Dat}(ha:isAgg? (TT.und t)=true)(hl:lay TT t=some tys)(hn:tys.all (λu=>!(isAgg? (TT.und u)))=true)(h:Cel tys cs):Ha TT t (.agg cs):=by
 obtain⟨h1,h2⟩:=ofc h;refine .agg _ tys cs ha hl h1 (λc hc=>?_) h2;obtain⟨i,hi⟩:=List.mem_iff_getElem?.1 hc;have hlt:i<tys.length:=by rw[h1];exact(List.getElem?_eq_some_iff.1 hi).1
 have hu:=List.getElem?_eq_getElem hlt;have:=(List.all_eq_true.1 hn) _ (List.getElem_mem hlt);exact(h2 i _ c hu hi).oni (by simpa using this)
theorem uI:TT.und 3=some (.int .i64):=by kernel_rfl
theorem unB:TT.und 4=some .bool:=by kernel_rfl
theorem unS:TT.und 9=some .string:=by kernel_rfl
theorem uT:TT.und 59=some (.slice 61):=by kernel_rfl
theorem uP:TT.und 24=some (.slice 52):=by kernel_rfl
theorem unE:TT.und 23=some (.slice 26):=by kernel_rfl
theorem uD:TT.und 22=some (.slice 84):=by kernel_rfl
theorem uC:TT.und 81=some (.slice 80):=by kernel_rfl
theorem uS:TT.und 82=some (.slice 9):=by kernel_rfl
theorem iy{x:Dat}(h:Ha TT 3 x):∃n,x=.int .i64 n:=⟨_,h.inn uI⟩
theorem srt{x:Dat}(h:Ha TT 9 x):∃s,x=.str s∧s.length≤2^40:=⟨_,h.sri unS⟩
theorem tyi{n:Int}:Ha TT 3 (.int .i64 n):=tyI uI
theorem tsr{s:Str}(h:s.length≤2^40):Ha TT 9 (.str s):=tyt unS h
theorem tpe{x:Dat}(h:Ha TT 61 x):∃k s n a,x=.agg [.int .i64 k,.str s,.int .i64 n,a]∧s.length≤2^40∧Ha TT 59 a:=by
 obtain⟨cs,rfl,hc⟩:=stc (tys:=[3,9,3,59]) (by kernel_rfl) (by kernel_rfl) h
 match cs,hc with
 |[c0,c1,c2,c3],⟨h0,h1,h2,h3,_⟩=>
  obtain⟨k,rfl⟩:=iy h0;obtain⟨s,rfl,hs⟩:=srt h1;obtain⟨n,rfl⟩:=iy h2;exact⟨k,s,n,c3,rfl,hs,h3⟩
theorem tty{k n:Int}{s:Str}{a:Dat}(hs:s.length≤2^40)(ha:Ha TT 59 a):Ha TT 61 (.agg [.int .i64 k,.str s,.int .i64 n,a]):=
 stu (tys:=[3,9,3,59]) (by kernel_rfl) (by kernel_rfl) (by kernel_rfl) ⟨tyi,tsr hs,tyi,ha,trivial⟩
theorem ptt{x:Dat}(h:Ha TT 52 x):∃k s n a p,x=.agg [.int .i64 k,.str s,.int .i64 n,a,.int .i64 p]∧s.length≤2^40∧Ha TT 24 a:=by
 obtain⟨cs,rfl,hc⟩:=stc (tys:=[3,9,3,24,3]) (by kernel_rfl) (by kernel_rfl) h
 match cs,hc with
 |[c0,c1,c2,c3,c4],⟨h0,h1,h2,h3,h4,_⟩=>
  obtain⟨k,rfl⟩:=iy h0;obtain⟨s,rfl,hs⟩:=srt h1;obtain⟨n,rfl⟩:=iy h2;obtain⟨p,rfl⟩:=iy h4;exact⟨k,s,n,c3,p,rfl,hs,h3⟩
theorem tpa{k n p:Int}{s:Str}{a:Dat}(hs:s.length≤2^40)(ha:Ha TT 24 a):Ha TT 52 (.agg [.int .i64 k,.str s,.int .i64 n,a,.int .i64 p]):=
 stu (tys:=[3,9,3,24,3]) (by kernel_rfl) (by kernel_rfl) (by kernel_rfl) ⟨tyi,tsr hs,tyi,ha,tyi,trivial⟩
theorem exr{x:Dat}(h:Ha TT 26 x):∃k s r n a b p,x=.agg [.int .i64 k,.str s,.str r,.int .i64 n,a,b,.int .i64 p]∧s.length≤2^40∧r.length≤2^40∧Ha TT 23 a∧Ha TT 24 b:=by
 obtain⟨cs,rfl,hc⟩:=stc (tys:=[3,9,9,3,23,24,3]) (by kernel_rfl) (by kernel_rfl) h
 match cs,hc with
 |[c0,c1,c2,c3,c4,c5,c6],⟨h0,h1,h2,h3,h4,h5,h6,_⟩=>
  obtain⟨k,rfl⟩:=iy h0;obtain⟨s,rfl,hs⟩:=srt h1;obtain⟨r,rfl,hr⟩:=srt h2;obtain⟨n,rfl⟩:=iy h3;obtain⟨p,rfl⟩:=iy h6;exact⟨k,s,r,n,c4,c5,p,rfl,hs,hr,h4,h5⟩
theorem tep{k n p:Int}{s r:Str}{a b:Dat}(hs:s.length≤2^40)(hr:r.length≤2^40)(ha:Ha TT 23 a)(hb:Ha TT 24 b):Ha TT 26 (.agg [.int .i64 k,.str s,.str r,.int .i64 n,a,b,.int .i64 p]):=
 stu (tys:=[3,9,9,3,23,24,3]) (by kernel_rfl) (by kernel_rfl) (by kernel_rfl) ⟨tyi,tsr hs,tsr hr,tyi,ha,hb,tyi,trivial⟩
theorem coy{x:Dat}(h:Ha TT 80 x):∃s a,x=.agg [.str s,a]∧s.length≤2^40∧Ha TT 59 a:=by
 obtain⟨cs,rfl,hc⟩:=stc (tys:=[9,59]) (by kernel_rfl) (by kernel_rfl) h
 match cs,hc with
 |[c0,c1],⟨h0,h1,_⟩=>
  obtain⟨s,rfl,hs⟩:=srt h0;exact⟨s,c1,rfl,hs,h1⟩
theorem tco{s:Str}{a:Dat}(hs:s.length≤2^40)(ha:Ha TT 59 a):Ha TT 80 (.agg [.str s,a]):=
 stu (tys:=[9,59]) (by kernel_rfl) (by kernel_rfl) (by kernel_rfl) ⟨tsr hs,ha,trivial⟩
theorem det{x:Dat}(h:Ha TT 84 x):∃s a b p,x=.agg [.str s,a,b,.int .i64 p]∧s.length≤2^40∧Ha TT 82 a∧Ha TT 81 b:=by
 obtain⟨cs,rfl,hc⟩:=stc (tys:=[9,82,81,3]) (by kernel_rfl) (by kernel_rfl) h
 match cs,hc with
 |[c0,c1,c2,c3],⟨h0,h1,h2,h3,_⟩=>
  obtain⟨s,rfl,hs⟩:=srt h0;obtain⟨p,rfl⟩:=iy h3;exact⟨s,c1,c2,p,rfl,hs,h1,h2⟩
theorem tyc{s:Str}{a b:Dat}{p:Int}(hs:s.length≤2^40)(ha:Ha TT 82 a)(hb:Ha TT 81 b):Ha TT 84 (.agg [.str s,a,b,.int .i64 p]):=
 stu (tys:=[9,82,81,3]) (by kernel_rfl) (by kernel_rfl) (by kernel_rfl) ⟨tsr hs,ha,hb,tyi,trivial⟩
theorem pro{x:Dat}(h:Ha TT 28 x):∃d k s r n a b p,x=.agg [d,.int .i64 k,.str s,.str r,.int .i64 n,a,b,.int .i64 p]∧Ha TT 22 d∧Ha TT 26 (.agg [.int .i64 k,.str s,.str r,.int .i64 n,a,b,.int .i64 p]):=by
 obtain⟨cs,rfl,hc⟩:=stc (tys:=[22,3,9,9,3,23,24,3]) (by kernel_rfl) (by kernel_rfl) h
 match cs,hc with
 |[c,c0,c1,c2,c3,c4,c5,c6],⟨hd,h0,h1,h2,h3,h4,h5,h6,_⟩=>
  obtain⟨k,rfl⟩:=iy h0;obtain⟨s,rfl,hs⟩:=srt h1;obtain⟨r,rfl,hr⟩:=srt h2;obtain⟨n,rfl⟩:=iy h3;obtain⟨p,rfl⟩:=iy h6;exact⟨c,k,s,r,n,c4,c5,p,rfl,hd,tep hs hr h4 h5⟩
theorem tpr{d a b:Dat}{k n p:Int}{s r:Str}(hd:Ha TT 22 d)(he:Ha TT 26 (.agg [.int .i64 k,.str s,.str r,.int .i64 n,a,b,.int .i64 p])):Ha TT 28 (.agg [d,.int .i64 k,.str s,.str r,.int .i64 n,a,b,.int .i64 p]):=by
 obtain⟨k',s',r',n',a',b',p',e,hs,hr,ha,hb⟩:=exr he;cases e;exact stu (tys:=[22,3,9,9,3,23,24,3]) (by kernel_rfl) (by kernel_rfl) (by kernel_rfl) ⟨hd,tyi,tsr hs,tsr hr,tyi,ha,hb,tyi,trivial⟩
theorem slt{t e:TypeId}{m:Nat}{xs:List Dat}(hu:TT.und t=some (.slice e))(hs:TT.size e=some m)(hl:Sl TT e xs.length)(hx:∀x∈xs,Ha TT e x):Ha TT t (sOf m xs):=slf hu hs hl hx
theorem siz{y:Dat}{i:Nat}(h:i<(elO y).length):SizeOf.sizeOf (elO y)[i]<SizeOf.sizeOf y:=by
 cases y with
 |sl m xs=>
  have:=List.sizeOf_lt_of_mem (List.getElem_mem (show i<xs.length from h));simp only[elO,Dat.sl.sizeOf_spec] at this⊢;omega
 |gsl t m xs=>
  have:=List.sizeOf_lt_of_mem (List.getElem_mem (show i<xs.length from h));simp only[elO,Dat.gsl.sizeOf_spec] at this⊢;omega
 |_=>exact absurd h (by simp[elO])
theorem sO{cs:List Dat}{c:Dat}(h:c∈cs):SizeOf.sizeOf c<SizeOf.sizeOf (Dat.agg cs):=by
 have:=List.sizeOf_lt_of_mem h;simp only[Dat.agg.sizeOf_spec];omega
inductive Ty where
 |mk (k:Int) (s:Str) (n:Int) (args:List Ty)
inductive Pt where
 |mk (k:Int) (s:Str) (n:Int) (args:List Pt) (p:Int)
inductive Ex' where
 |mk (k:Int) (s r:Str) (n:Int) (args:List Ex') (pats:List Pt) (p:Int)
instance:Inhabited Ty:=⟨.mk 0 [] 0 []⟩
instance:Inhabited Pt:=⟨.mk 0 [] 0 [] 0⟩
instance:Inhabited Ex':=⟨.mk 0 [] [] 0 [] [] 0⟩
mutual
def aT:Dat→Ty
 |.agg [.int _ k,.str s,.int _ n,a]=>.mk k s n (abT a)
 |_=>default
def abT:Dat→List Ty
 |.sl _ xs=>asy xs
 |.gsl _ _ xs=>asy xs
 |_=>[]
def asy:List Dat→List Ty
 |[]=>[]
 |x::xs=>aT x::asy xs
end
mutual
def aP:Dat→Pt
 |.agg [.int _ k,.str s,.int _ n,a,.int _ p]=>.mk k s n (abt a) p
 |_=>default
def abt:Dat→List Pt
 |.sl _ xs=>asP xs
 |.gsl _ _ xs=>asP xs
 |_=>[]
def asP:List Dat→List Pt
 |[]=>[]
 |x::xs=>aP x::asP xs
end
mutual
def ax:Dat→Ex'
 |.agg [.int _ k,.str s,.str r,.int _ n,a,b,.int _ p]=>.mk k s r n (abx a) (abt b) p
 |_=>default
def abx:Dat→List Ex'
 |.sl _ xs=>abL xs
 |.gsl _ _ xs=>abL xs
 |_=>[]
def abL:List Dat→List Ex'
 |[]=>[]
 |x::xs=>ax x::abL xs
end
theorem abm(xs:List Dat):asy xs=xs.map aT:=by induction xs with
 |nil=>rfl
 |cons x xs ih=>simp only[asy,List.map_cons,ih]
theorem ast(xs:List Dat):asP xs=xs.map aP:=by induction xs with
 |nil=>rfl
 |cons x xs ih=>simp only[asP,List.map_cons,ih]
theorem asE(xs:List Dat):abL xs=xs.map ax:=by induction xs with
 |nil=>rfl
 |cons x xs ih=>simp only[abL,List.map_cons,ih]
theorem ay(x:Dat):abT x=(elO x).map aT:=by cases x<;>simp[abT,elO,abm]
theorem abP(x:Dat):abt x=(elO x).map aP:=by cases x<;>simp[abt,elO,ast]
theorem abE(x:Dat):abx x=(elO x).map ax:=by cases x<;>simp[abx,elO,asE]
structure Cn where
 s:Str
 fs:List Ty
structure Dc where
 s:Str
 ps:List Str
 cs:List Cn
 p:Int
structure Pg where
 ds:List Dc
 e:Ex'
def aC(x:Dat):Cn:=⟨strOf (fld x 0),abT (fld x 1)⟩
def abD(x:Dat):Dc:=⟨strOf (fld x 0),(elO (fld x 1)).map strOf,(elO (fld x 2)).map aC,intOf (fld x 3)⟩
def abg(x:Dat):Pg:=⟨(elO (fld x 0)).map abD,ax (sub x 1 7)⟩
def eqy{α β:Type}(f:α→β→Bool):List α→List β→Bool
 |[],[]=>true
 |x::xs,y::ys=>f x y&&eqy f xs ys
 |_,_=>false
theorem eqe{α β:Type}{f:α→β→Bool}:∀{xs:List α} {ys:List β},xs.length≠ys.length→eqy f xs ys=false
 |[],[],h=>absurd rfl h
 |[],_::_,_=>rfl
 |_::_,[],_=>rfl
 |x::xs,y::ys,h=>by
  simp only[List.length_cons] at h;simp[eqy,eqe (f:=f) (xs:=xs) (ys:=ys) (by omega)]
theorem eqp{α β:Type}{f:α→β→Bool}{xs:List α}{ys:List β}{i:Nat}(h1:i<xs.length)(h2:i<ys.length):eqy f (xs.drop i) (ys.drop i)=(f xs[i] ys[i]&&eqy f (xs.drop (i+1)) (ys.drop (i+1))):=by
 rw[List.drop_eq_getElem_cons h1,List.drop_eq_getElem_cons h2];rfl
mutual
def eA3:Ty→Ty→Bool
 |.mk k s n a,.mk k' s' n' a'=>k==k'&&(s==s'&&(n==n'&&eTy a a'))
def eTy:List Ty→List Ty→Bool
 |[],[]=>true
 |x::xs,y::ys=>eA3 x y&&eTy xs ys
 |_,_=>false
end
mutual
def eqPt(pl:Bool):Pt→Pt→Bool
 |.mk k s n a p,.mk k' s' n' a' p'=>k==k'&&(s==s'&&(n==n'&&((!pl||p==p')&&eqP pl a a')))
def eqP(pl:Bool):List Pt→List Pt→Bool
 |[],[]=>true
 |x::xs,y::ys=>eqPt pl x y&&eqP pl xs ys
 |_,_=>false
end
mutual
def eA1(pl:Bool):Ex'→Ex'→Bool
 |.mk k s r n a b p,.mk k' s' r' n' a' b' p'=>k==k'&&(s==s'&&(r==r'&&(n==n'&&((!pl||p==p')&&(eqP pl b b'&&eqx pl a a')))))
def eqx(pl:Bool):List Ex'→List Ex'→Bool
 |[],[]=>true
 |x::xs,y::ys=>eA1 pl x y&&eqx pl xs ys
 |_,_=>false
end
theorem eTb(xs ys:List Ty):eTy xs ys=eqy eA3 xs ys:=by
 induction xs generalizing ys with
 |nil=>cases ys<;>rfl
 |cons x xs ih=>cases ys with
  |nil=>rfl
  |cons y ys=>simp only[eTy,eqy,ih]
theorem ePs(pl:Bool)(xs ys:List Pt):eqP pl xs ys=eqy (eqPt pl) xs ys:=by
 induction xs generalizing ys with
 |nil=>cases ys<;>rfl
 |cons x xs ih=>cases ys with
  |nil=>rfl
  |cons y ys=>simp only[eqP,eqy,ih]
theorem eEs(pl:Bool)(xs ys:List Ex'):eqx pl xs ys=eqy (eA1 pl) xs ys:=by
 induction xs generalizing ys with
 |nil=>cases ys<;>rfl
 |cons x xs ih=>cases ys with
  |nil=>rfl
  |cons y ys=>simp only[eqx,eqy,ih]
theorem eqm{α β γ δ:Type}{f:α→β→Bool}{g:γ→α}{h:δ→β}:∀{xs:List γ} {ys:List δ},eqy f (xs.map g) (ys.map h)=eqy (λa b=>f (g a) (h b)) xs ys
 |[],[]=>rfl
 |[],_::_=>rfl
 |_::_,[]=>rfl
 |x::xs,y::ys=>by simp only[List.map_cons,eqy,eqm]
end Go.Proofs.YtiheejdkkjfenaaGreatDoor.Pa
