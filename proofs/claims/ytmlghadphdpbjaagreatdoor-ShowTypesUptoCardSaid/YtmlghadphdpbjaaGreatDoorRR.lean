/- Lexing, plainly: numbers, tokens, texts. What functions of the program do, printed by wip/tools/sx/sx.py. -/
import Derived.Test.YtmlghadphdpbjaaGreatDoorRQ
set_option linter.all false
set_option autoImplicit false
set_option maxRecDepth 100000
namespace Go.Proofs.YtmlghadphdpbjaaGreatDoor.Pa
open Go Go.Proofs.YtmlghadphdpbjaaGreatDoor.Am
def valF(acc:Nat)(D:Str):Nat:=D.foldl (λa c=>a*10+(c.toNat-48)) acc
theorem valF_nil(acc:Nat):valF acc []=acc:=rfl
theorem valF_cons(acc:Nat)(c:UInt8)(r:Str):valF acc (c::r)=valF (acc*10+(c.toNat-48)) r:=by
 unfold valF
 rw[List.foldl_cons]
def Dig(D:Str):Prop:=∀c∈D,48≤c.toNat∧c.toNat≤57
theorem Dig.tail{c:UInt8}{D:Str}(h:Dig (c::D)):Dig D:=λx hx=>h x (List.mem_cons_of_mem _ hx)
theorem pow_step(a n:Nat):a*10^(n+1)=a*10*10^n:=by rw[Nat.pow_succ,Nat.mul_assoc,Nat.mul_comm 10 (10^n)]
theorem le_pow(a n:Nat):a≤a*10^n:=Nat.le_mul_of_pos_right _ (Nat.pow_pos (by decide))
theorem pu_val(D:Str):∀(acc:Nat),Dig D→(acc+1)*10^D.length≤1000000000000000→Lib.parseUint10 acc D=.ok (valF acc D)∧valF acc D+1≤(acc+1)*10^D.length:=by
 induction D with
 |nil=>intro acc _ _;exact⟨by rw[Lib.parseUint10,valF_nil],by rw[valF_nil,List.length_nil,Nat.pow_zero,Nat.mul_one];exact Nat.le_refl _⟩
 |cons c r ih=>
  intro acc h hb
  have hc:=h c (by simp)
  rw[List.length_cons,pow_step] at hb⊢
  have h0:=le_pow (acc+1) r.length
  have h1:(acc*10+(c.toNat-48)+1)*10^r.length≤(acc+1)*10*10^r.length:=Nat.mul_le_mul_right _ (by omega)
  have h2:=le_pow ((acc+1)*10) r.length
  obtain⟨i1,i2⟩:=ih (acc*10+(c.toNat-48)) h.tail (Nat.le_trans h1 hb)
  rw[valF_cons]
  refine⟨?_,Nat.le_trans i2 h1⟩
  simp only[Lib.parseUint10]
  rw[if_pos hc,if_neg (by omega),if_neg (by omega)]
  exact i1
theorem pu_low:∀(D:Str) (acc u:Nat),Lib.parseUint10 acc D=.ok u→acc*10^D.length≤u
 |[],acc,u,h=>by
  simp only[Lib.parseUint10] at h
  injection h with h
  simp[h]
 |c::r,acc,u,h=>by
  simp only[Lib.parseUint10] at h
  split at h
  ·split at h
   ·cases h
   ·split at h
    ·cases h
    ·have:=pu_low r _ u h
     rw[List.length_cons,pow_step]
     refine Nat.le_trans (Nat.mul_le_mul_right _ ?_) this
     omega
  ·cases h
def numR(neg:Bool)(D:Str):Option Int:=
 if D=[]∨(1<D.length∧D.head?=some 48)∨10<D.length then none
 else if inI (if neg then -(valF 0 D:Int) else valF 0 D) then some (if neg then -(valF 0 D:Int) else valF 0 D) else none
theorem inI_iff{n:Int}:inI n=true↔(-1073741824≤n∧n<1073741824):=by
 unfold inI
 rw[Bool.and_eq_true,decide_eq_true_eq,decide_eq_true_eq]
 omega
theorem numOf_eq(neg:Bool){D:Str}(hd:Dig D):numOf neg D=numR neg D:=by
 unfold numOf numR
 cases D with
 |nil=>rw[if_pos (.inl rfl)];rfl
 |cons c r=>
  have hc:=hd c (by simp)
  have hat:Lib.atoiAll (c::r)=(match Lib.parseUint10 0 (c::r) with
   |.syntax=>.syntax
   |.range=>.range
   |.ok u=>if 9223372036854775808≤u then .range else .ok (u:Int)):=by
   have n1:¬c.toNat=43:=by omega
   have n2:¬c.toNat=45:=by omega
   simp only[Lib.atoiAll,n1,n2,or_self,if_false,Lib.parseMag,List.cons_ne_nil,not_false_eq_true,true_and,false_and]
   cases Lib.parseUint10 0 (c::r)<;>rfl
  rw[hat]
  by_cases hl:10<(c::r).length
  ·rw[if_pos (.inr (.inr hl))]
   cases hp:Lib.parseUint10 0 (c::r) with
   |range=>rfl
   |ok u=>
    dsimp only
    by_cases hu:9223372036854775808≤u
    ·rw[if_pos hu]
    ·rw[if_neg hu]
     dsimp only
     rw[if_pos]
     by_cases h48:c=48
     ·exact .inl ⟨by omega,by rw[h48];rfl⟩
     ·right
      have hlow:10^10≤u:=by
       have hp:=hp
       simp only[Lib.parseUint10] at hp
       rw[if_pos hc,if_neg (by omega),if_neg (by omega)] at hp
       have h1:=pu_low _ _ _ hp
       have h2:1≤c.toNat-48:=by
        have:c.toNat≠48:=λe=>h48 (UInt8.toNat_inj.1 (by rw[e];rfl))
        omega
       have h3:10^10≤10^r.length:=Nat.pow_le_pow_right (by decide) (by rw[List.length_cons] at hl;omega)
       have h4:1*10^r.length≤(0*10+(c.toNat-48))*10^r.length:=Nat.mul_le_mul_right _ (by omega)
       omega
      cases neg
      ·simp only[Bool.false_eq_true,if_false]
       omega
      ·simp only[if_true]
       rw[wrap_id (by omega) (by omega)]
       omega
   |_=>rfl
  ·obtain⟨p1,p2⟩:=pu_val (c::r) 0 hd (by
    have:10^(c::r).length≤10^10:=Nat.pow_le_pow_right (by decide) (by omega)
    omega)
   have hv:valF 0 (c::r)<10^10:=by
    have:10^(c::r).length≤10^10:=Nat.pow_le_pow_right (by decide) (by omega)
    omega
   rw[p1]
   dsimp only
   rw[if_neg (by omega)]
   dsimp only
   have hn:(if neg then IntKind.i64.wrap (0-((valF 0 (c::r):Nat):Int)) else((valF 0 (c::r):Nat):Int))=(if neg then -((valF 0 (c::r):Nat):Int) else((valF 0 (c::r):Nat):Int)):=by
    cases neg
    ·rfl
    ·simp only[if_true]
     rw[wrap_id (by omega) (by omega)]
     omega
   rw[hn]
   by_cases h48:1<(c::r).length∧(c::r).head?=some 48
   ·rw[if_pos (.inl h48),if_pos (.inr (.inl h48))]
   ·rw[if_neg (show ¬(c::r=[]∨(1<(c::r).length∧(c::r).head?=some 48)∨10<(c::r).length) from λh=>h.elim (λh=>by cases h) λh=>h.elim h48 hl)]
    by_cases hi:inI (if neg then -((valF 0 (c::r):Nat):Int) else((valF 0 (c::r):Nat):Int))=true
    ·rw[if_pos hi,if_neg]
     exact λh=>h.elim h48 λh=>h (inI_iff.1 hi)
    ·rw[if_neg hi,if_pos]
     exact .inr λh=>hi (inI_iff.2 h)
theorem numTok_neg{D:Str}(hd:Dig D):numTok (126::D)=numR true D:=by
 rw[←numOf_eq true hd]
 rfl
theorem numTok_pos{c:UInt8}{r:Str}(hd:Dig (c::r)):numTok (c::r)=numR false (c::r):=by
 rw[←numOf_eq false hd]
 have hc:=hd c (by simp)
 have h1:c≠126:=by
  rintro rfl
  have:=hc.2
  revert this
  decide
 have h2:Lib.hasPrefix (c::r) [126]=false:=by
  simp only[Lib.hasPrefix,List.isPrefixOf,Bool.and_eq_false_iff,beq_eq_false_iff_ne,ne_eq]
  exact .inl λe=>h1 e.symm
 unfold numTok numDig Lib.trimPrefix
 rw[h2]
 simp
def tw(p:Int→Bool)(r:Str):Str:=r.takeWhile λc=>p c.toNat
theorem tw_len(p:Int→Bool)(r:Str):(tw p r).length=runN p r:=rfl
theorem take_tw(p:Int→Bool):∀r:Str,r.take (runN p r)=tw p r
 |[]=>rfl
 |c::r=>by
  have ih:=take_tw p r
  unfold runN tw at ih⊢
  cases h:p c.toNat
  ·simp[h]
  ·simp only[List.takeWhile_cons,h,if_true,List.length_cons,List.take_succ_cons,ih]
theorem take1_tw(p:Int→Bool)(c:UInt8)(r:Str):(c::r).take (1+runN p r)=c::tw p r:=by
 rw[Nat.add_comm,List.take_succ_cons,take_tw]
theorem tw_all(p:Int→Bool):∀r:Str,∀c∈tw p r,p c.toNat=true
 |[],c,h=>by cases h
 |d::r,c,h=>by
  unfold tw at h
  rw[List.takeWhile_cons] at h
  split at h
  ·rename_i hd
   rcases List.mem_cons.1 h with rfl|h
   ·exact hd
   ·exact tw_all p r c h
  ·cases h
theorem tw_dig(r:Str):Dig (tw dgB r):=λc hc=>by
 have:=tw_all dgB r c hc
 unfold dgB at this
 rw[Bool.and_eq_true,decide_eq_true_eq,decide_eq_true_eq] at this
 omega
theorem wordF_ok{k:Int}{s:Str}(h:(wordF k s).2=0):s.length≤32∧(wordF k s).1=(if k==1&&keyB s then 5 else k,s,0):=by
 unfold wordF at h⊢
 split at h
 ·cases h
 ·rename_i hl
  rw[if_neg hl]
  exact⟨by omega,rfl⟩
theorem wordB_tw{low:Bool}{c:UInt8}{r:Str}(hc:(bif low then smB c.toNat else cpB c.toNat)=true)(hl:(c::tw ptB r).length≤32):wordB low (c::tw ptB r)=true:=by
 simp only[wordB,hc,Bool.true_and,Bool.and_eq_true,decide_eq_true_eq,List.all_eq_true]
 rw[List.length_cons] at hl
 exact⟨by omega,tw_all ptB r⟩
theorem signF_mem:∀{l:List Str} {s x:Str},signF s l=some x→x∈l∧x<+:s
 |[],s,x,h=>by cases h
 |y::l,s,x,h=>by
  simp only[signF] at h
  split at h
  ·rename_i hp
   cases h
   exact⟨by simp,List.isPrefixOf_iff_prefix.1 hp⟩
  ·obtain⟨h1,h2⟩:=signF_mem h
   exact⟨List.mem_cons_of_mem _ h1,h2⟩
theorem numR_in{neg:Bool}{D:Str}{n:Int}(h:numR neg D=some n):inI n=true:=by
 unfold numR at h
 split at h
 ·cases h
 ·by_cases hi:inI (if neg then -(valF 0 D:Int) else valF 0 D)=true
  ·rw[if_pos hi] at h
   injection h with h
   rw[←h]
   exact hi
  ·rw[if_neg hi] at h
   cases h
theorem good_mk{k:Int}{s:Str}{n p:Int}(hp:0≤p)(hs:s.length≤2^40)(hk:k≠0)(hn:k≠4→n=0)(ht:k=4→s=[])(h5:k=5→keyB s=true)(h6:k=6→s∈signL)(h1:k=1→wLow s=true)(h2:k=2→wUp s=true)(h3:k=3→wVar s=true)(h4:k=4→inI n=true):GoodTk ((k,s,n),p):=
 ⟨hs,hk,hp,hn,ht,h5,h6,h1,h2,h3,h4⟩
theorem signL_len:∀s∈signL,1≤s.length∧s.length≤2:=by decide
theorem numS{c:UInt8}{r:Str}{n:Int}(h:numTok ((c::r).take (1+runN dgB r))=some n)(hc:(c.toNat==126||dgB c.toNat)=true):inI n=true:=by
 rw[take1_tw] at h
 by_cases h1:c=126
 ·subst h1
  rw[numTok_neg (tw_dig r)] at h
  exact numR_in h
 ·have h2:dgB c.toNat=true:=by
   rw[Bool.or_eq_true] at hc
   rcases hc with hc|hc
   ·exact absurd (UInt8.toNat_inj.1 (by rw[beq_iff_eq.1 hc];rfl)) h1
   ·exact hc
  rw[numTok_pos (λx hx=>by
   rcases List.mem_cons.1 hx with rfl|hx
   ·unfold dgB at h2
    rw[Bool.and_eq_true,decide_eq_true_eq,decide_eq_true_eq] at h2
    omega
   ·exact tw_dig r x hx)] at h
  exact numR_in h
def quoteB(c:UInt8)(r:Str):Bool:=c.toNat==39&&(decide (1<1+runN ptB r)&&(match r with|d::_=>smB d.toNat|[]=>false))
def numB(c:UInt8):Bool:=c.toNat==126||dgB c.toNat
theorem tokF_eq(c:UInt8)(r:Str):tokF (c::r)=
 if smB c.toNat then((wordF 1 (c::tw ptB r)).1,1+runN ptB r,(wordF 1 (c::tw ptB r)).2)
 else if cpB c.toNat then((wordF 2 (c::tw ptB r)).1,1+runN ptB r,(wordF 2 (c::tw ptB r)).2)
 else if quoteB c r then((wordF 3 (tw ptB r)).1,1+runN ptB r,(wordF 3 (tw ptB r)).2)
 else if numB c then((numF (c::tw dgB r)).1,1+runN dgB r,(numF (c::tw dgB r)).2)
 else match signF (c::r) signL with
  |some x=>((6,x,0),x.length,0)
  |none=>((0,[],0),0,110):=by
 rw[←take1_tw,←take1_tw,←take_tw]
 rfl
theorem tokF_good{c:UInt8}{r:Str}{p:Int}(hp:0≤p)(h:(tokF (c::r)).2.2=0):GoodTk ((tokF (c::r)).1,p)∧1≤(tokF (c::r)).2.1∧(tokF (c::r)).2.1≤(c::r).length:=by
 have hn:=runN_le ptB r
 have hm:=runN_le dgB r
 have hlen:(c::r).length=1+r.length:=by rw[List.length_cons];omega
 rw[tokF_eq] at h⊢
 by_cases q1:smB c.toNat=true
 ·rw[if_pos q1] at h⊢
  obtain⟨h1,h2⟩:=wordF_ok h
  refine⟨?_,by dsimp only;omega,by dsimp only;omega⟩
  dsimp only
  rw[h2]
  have hw:wordB true (c::tw ptB r)=true:=wordB_tw q1 h1
  cases hk:keyB (c::tw ptB r) with
  |true=>exact good_mk hp (by omega) (by simp) (λ_=>rfl) (by simp) (λ_=>hk) (by simp) (by simp) (by simp) (by simp) (by simp)
  |false=>exact good_mk hp (by omega) (by simp) (λ_=>rfl) (by simp) (by simp) (by simp) (λ_=>by rw[wLow,hw,hk];rfl) (by simp) (by simp) (by simp)
 rw[if_neg q1] at h⊢
 by_cases q2:cpB c.toNat=true
 ·rw[if_pos q2] at h⊢
  obtain⟨h1,h2⟩:=wordF_ok h
  refine⟨?_,by dsimp only;omega,by dsimp only;omega⟩
  dsimp only
  rw[h2]
  exact good_mk hp (by omega) (by simp) (λ_=>rfl) (by simp) (by simp) (by simp) (by simp) (λ_=>wordB_tw (low:=false) q2 h1) (by simp) (by simp)
 rw[if_neg q2] at h⊢
 by_cases q3:quoteB c r=true
 ·rw[if_pos q3] at h⊢
  obtain⟨h1,h2⟩:=wordF_ok h
  refine⟨?_,by dsimp only;omega,by dsimp only;omega⟩
  dsimp only
  rw[h2]
  unfold quoteB at q3
  rw[Bool.and_eq_true,Bool.and_eq_true] at q3
  obtain⟨_,_,q5⟩:=q3
  cases r with
  |nil=>cases q5
  |cons d r=>
   have q5:smB d.toNat=true:=q5
   have hd:ptB d.toNat=true:=by unfold ptB;rw[q5];rfl
   have htw:tw ptB (d::r)=d::tw ptB r:=by simp[tw,hd]
   rw[htw] at h1⊢
   exact good_mk hp (by omega) (by simp) (λ_=>rfl) (by simp) (by simp) (by simp) (by simp) (by simp) (λ_=>wordB_tw (low:=true) q5 h1) (by simp)
 rw[if_neg q3] at h⊢
 by_cases q4:numB c=true
 ·rw[if_pos q4] at h⊢
  refine⟨?_,by dsimp only;omega,by dsimp only;omega⟩
  dsimp only at h⊢
  unfold numF at h⊢
  cases hnt:numTok (c::tw dgB r) with
  |none=>rw[hnt] at h;cases h
  |some n=>
   exact good_mk hp (by simp) (by simp) (by simp) (λ_=>rfl) (by simp) (by simp) (by simp) (by simp) (by simp) (λ_=>numS (by rw[take1_tw];exact hnt) q4)
 rw[if_neg q4] at h⊢
 cases hx:signF (c::r) signL with
 |none=>rw[hx] at h;cases h
 |some x=>
  obtain⟨h1,h2⟩:=signF_mem hx
  have h3:=signL_len x h1
  have h4:=h2.length_le
  exact⟨good_mk hp (by omega) (by simp) (λ_=>rfl) (by simp) (by simp) (λ_=>h1) (by simp) (by simp) (by simp) (by simp),by dsimp only;omega,by dsimp only;omega⟩
def blank(c:UInt8):Bool:=c.toNat==9||(c.toNat==10||(c.toNat==13||c.toNat==32))
mutual
def skipN:Str→Nat
 |[]=>0
 |c::r=>if blank c then 1+skipN r else if c.toNat==35 then 1+comN r else 0
def comN:Str→Nat
 |[]=>0
 |c::r=>if c.toNat==10 then 1+skipN r else 1+comN r
end
mutual
theorem skipN_le:∀u:Str,skipN u≤u.length
 |[]=>by simp[skipN]
 |c::r=>by
  have h1:=skipN_le r
  have h2:=comN_le r
  simp only[skipN,List.length_cons]
  split
  ·omega
  ·split<;>omega
theorem comN_le:∀u:Str,comN u≤u.length
 |[]=>by simp[comN]
 |c::r=>by
  have h1:=skipN_le r
  have h2:=comN_le r
  simp only[comN,List.length_cons]
  split<;>omega
end
inductive LexR where
 |ok (l:List Pk)
 |err (at':Nat) (e:Int)
def lexErr(e:Int)(k:Nat):Int:=if e=0∧k=4096 then 3 else e
def lexF:Nat→Nat→Str→List Pk→LexR
 |0,_,_,_=>.err 0 0
 |n+1,a,u,acc=>
  match u.drop (skipN u) with
  |[]=>.ok acc
  |c::r=>if lexErr (tokF (c::r)).2.2 acc.length=0 then lexF n (a+skipN u+(tokF (c::r)).2.1) ((c::r).drop (tokF (c::r)).2.1) (acc++[((tokF (c::r)).1,((a+skipN u:Nat):Int))])
    else .err (a+skipN u) (lexErr (tokF (c::r)).2.2 acc.length)
theorem lexF_good:∀(n a:Nat) (u:Str) (acc:List Pk) (l:List Pk),(∀t∈acc,GoodTk t)→acc.length≤4096→lexF n a u acc=.ok l→(∀t∈l,GoodTk t)∧l.length≤4096
 |0,_,_,_,_,_,_,h=>by cases h
 |n+1,a,u,acc,l,hg,hl,h=>by
  rw[lexF] at h
  split at h
  ·cases h;exact⟨hg,hl⟩
  ·rename_i c r hd
   split at h
   ·rename_i he
    have h0:(tokF (c::r)).2.2=0∧acc.length≠4096:=by
     unfold lexErr at he
     split at he
     ·cases he
     ·rename_i hh
      exact⟨he,λe=>hh ⟨he,e⟩⟩
    refine lexF_good n _ _ _ l (λt ht=>?_) ?_ h
    ·rcases List.mem_append.1 ht with ht|ht
     ·exact hg t ht
     ·rw[List.mem_singleton.1 ht]
      exact(tokF_good (Int.natCast_nonneg _) h0.1).1
    ·rw[List.length_append,List.length_singleton]
     omega
   ·cases h
end Go.Proofs.YtmlghadphdpbjaaGreatDoor.Pa
namespace Go.Proofs.YtmlghadphdpbjaaGreatDoor.Pa
open Go Go.Proofs.YtmlghadphdpbjaaGreatDoor.Am
def L36_5(s0:List UInt8)(l5:List Dat)(n6:Int)(g:Glob)(Qf:OGP):Prop:=CutP TT Tryz.f36 [1,0,1,1,1,1,0,0] Qf (mkC TT 36 Tryz.f36 1 [(0,.v 9 (.str s0)),(5,.acc [(63,0)] 80 4 l5),(6,.v 3 (.int .i64 n6))] [] g)
def lo36:List CutI:=[⟨5,[(0,.keep),(5,.acc [63]),(6,.keep)],[]⟩]
theorem w36{s0:List UInt8}{g:Glob}{Qf:OGP}(h0:s0.length≤2^40)
 (h:Br (decide (8192<(↑s0.length:Int))) (∀(us:List Val),RetL us [.nil,.int .i64 0,.int .i64 2]→Qf (.val (.tuple us)) g) (L36_5 s0 [] 0 g Qf)):
 EvF TT 36 [.str s0] g Qf:=
 sx_fun (rk:=rk) (fn:=Tryz.f36) (loops:=lo36) (joins:=[]) (n:=100000) (args:=[(9,.str s0)]) rfl rfl rfl rfl ⟨tyStr rfl h0,trivial⟩ (by kernel_rfl) h
theorem w36_5{s0:List UInt8}{l5:List Dat}{n6:Int}{g:Glob}{Qf:OGP}
 (h:Br (decide (n6<(↑s0.length:Int)))
 (InB n6 s0.length∧
  Br (byteAt s0 n6==9) (Br (byteAt s0 n6==9) (L36_5 s0 l5 (IntKind.i64.wrap (n6+1)) g Qf) (Br (byteAt s0 n6==35) (InS n6 (↑s0.length:Int) s0.length∧EvF TT 74 [.str (subStr s0 n6 (↑s0.length:Int)),.int .u8 10] g (KQ Qf λv g'=>∃n,v=.d (.int .i64 n)∧Br (decide (n<0)) (∀(us:List Val),RetL us [slOf 4 l5,.int .i64 0,.int .i64 0]→Qf (.val (.tuple us)) g') (L36_5 s0 l5 (IntKind.i64.wrap (n6+n)) g' Qf))) (InS n6 (↑s0.length:Int) s0.length∧EvF TT 75 [.str (subStr s0 n6 (↑s0.length:Int))] g (KQ Qf λv g'=>∃x,HasTy TT 109 x∧∃n n_1,RetT v [x,.int .i64 n,.int .i64 n_1]∧Br (n_1==0) (Br ((↑l5.length:Int)==4096) (∀(us:List Val),RetL us [.nil,.int .i64 n6,.int .i64 3]→Qf (.val (.tuple us)) g') (Br (n_1 !=0) (∀(us:List Val),RetL us [.nil,.int .i64 n6,.int .i64 n_1]→Qf (.val (.tuple us)) g') (Fits (l5.length+[Dat.agg [.int .i64 (intOf (fld x 0)),.str (strOf (fld x 1)),.int .i64 (intOf (fld x 2)),.int .i64 n6]].length) 40∧L36_5 s0 (l5++[Dat.agg [.int .i64 (intOf (fld x 0)),.str (strOf (fld x 1)),.int .i64 (intOf (fld x 2)),.int .i64 n6]]) (IntKind.i64.wrap (n6+n)) g' Qf))) (Br (n_1 !=0) (∀(us:List Val),RetL us [.nil,.int .i64 n6,.int .i64 n_1]→Qf (.val (.tuple us)) g') (Fits (l5.length+[Dat.agg [.int .i64 (intOf (fld x 0)),.str (strOf (fld x 1)),.int .i64 (intOf (fld x 2)),.int .i64 n6]].length) 40∧L36_5 s0 (l5++[Dat.agg [.int .i64 (intOf (fld x 0)),.str (strOf (fld x 1)),.int .i64 (intOf (fld x 2)),.int .i64 n6]]) (IntKind.i64.wrap (n6+n)) g' Qf))))))
   (Br (byteAt s0 n6==10) (Br (byteAt s0 n6==10) (L36_5 s0 l5 (IntKind.i64.wrap (n6+1)) g Qf) (Br (byteAt s0 n6==35) (InS n6 (↑s0.length:Int) s0.length∧EvF TT 74 [.str (subStr s0 n6 (↑s0.length:Int)),.int .u8 10] g (KQ Qf λv g'=>∃n,v=.d (.int .i64 n)∧Br (decide (n<0)) (∀(us:List Val),RetL us [slOf 4 l5,.int .i64 0,.int .i64 0]→Qf (.val (.tuple us)) g') (L36_5 s0 l5 (IntKind.i64.wrap (n6+n)) g' Qf))) (InS n6 (↑s0.length:Int) s0.length∧EvF TT 75 [.str (subStr s0 n6 (↑s0.length:Int))] g (KQ Qf λv g'=>∃x,HasTy TT 109 x∧∃n n_1,RetT v [x,.int .i64 n,.int .i64 n_1]∧Br (n_1==0) (Br ((↑l5.length:Int)==4096) (∀(us:List Val),RetL us [.nil,.int .i64 n6,.int .i64 3]→Qf (.val (.tuple us)) g') (Br (n_1 !=0) (∀(us:List Val),RetL us [.nil,.int .i64 n6,.int .i64 n_1]→Qf (.val (.tuple us)) g') (Fits (l5.length+[Dat.agg [.int .i64 (intOf (fld x 0)),.str (strOf (fld x 1)),.int .i64 (intOf (fld x 2)),.int .i64 n6]].length) 40∧L36_5 s0 (l5++[Dat.agg [.int .i64 (intOf (fld x 0)),.str (strOf (fld x 1)),.int .i64 (intOf (fld x 2)),.int .i64 n6]]) (IntKind.i64.wrap (n6+n)) g' Qf))) (Br (n_1 !=0) (∀(us:List Val),RetL us [.nil,.int .i64 n6,.int .i64 n_1]→Qf (.val (.tuple us)) g') (Fits (l5.length+[Dat.agg [.int .i64 (intOf (fld x 0)),.str (strOf (fld x 1)),.int .i64 (intOf (fld x 2)),.int .i64 n6]].length) 40∧L36_5 s0 (l5++[Dat.agg [.int .i64 (intOf (fld x 0)),.str (strOf (fld x 1)),.int .i64 (intOf (fld x 2)),.int .i64 n6]]) (IntKind.i64.wrap (n6+n)) g' Qf))))))
    (Br (byteAt s0 n6==13) (Br (byteAt s0 n6==13) (L36_5 s0 l5 (IntKind.i64.wrap (n6+1)) g Qf) (Br (byteAt s0 n6==35) (InS n6 (↑s0.length:Int) s0.length∧EvF TT 74 [.str (subStr s0 n6 (↑s0.length:Int)),.int .u8 10] g (KQ Qf λv g'=>∃n,v=.d (.int .i64 n)∧Br (decide (n<0)) (∀(us:List Val),RetL us [slOf 4 l5,.int .i64 0,.int .i64 0]→Qf (.val (.tuple us)) g') (L36_5 s0 l5 (IntKind.i64.wrap (n6+n)) g' Qf))) (InS n6 (↑s0.length:Int) s0.length∧EvF TT 75 [.str (subStr s0 n6 (↑s0.length:Int))] g (KQ Qf λv g'=>∃x,HasTy TT 109 x∧∃n n_1,RetT v [x,.int .i64 n,.int .i64 n_1]∧Br (n_1==0) (Br ((↑l5.length:Int)==4096) (∀(us:List Val),RetL us [.nil,.int .i64 n6,.int .i64 3]→Qf (.val (.tuple us)) g') (Br (n_1 !=0) (∀(us:List Val),RetL us [.nil,.int .i64 n6,.int .i64 n_1]→Qf (.val (.tuple us)) g') (Fits (l5.length+[Dat.agg [.int .i64 (intOf (fld x 0)),.str (strOf (fld x 1)),.int .i64 (intOf (fld x 2)),.int .i64 n6]].length) 40∧L36_5 s0 (l5++[Dat.agg [.int .i64 (intOf (fld x 0)),.str (strOf (fld x 1)),.int .i64 (intOf (fld x 2)),.int .i64 n6]]) (IntKind.i64.wrap (n6+n)) g' Qf))) (Br (n_1 !=0) (∀(us:List Val),RetL us [.nil,.int .i64 n6,.int .i64 n_1]→Qf (.val (.tuple us)) g') (Fits (l5.length+[Dat.agg [.int .i64 (intOf (fld x 0)),.str (strOf (fld x 1)),.int .i64 (intOf (fld x 2)),.int .i64 n6]].length) 40∧L36_5 s0 (l5++[Dat.agg [.int .i64 (intOf (fld x 0)),.str (strOf (fld x 1)),.int .i64 (intOf (fld x 2)),.int .i64 n6]]) (IntKind.i64.wrap (n6+n)) g' Qf)))))) (Br (byteAt s0 n6==32) (L36_5 s0 l5 (IntKind.i64.wrap (n6+1)) g Qf) (Br (byteAt s0 n6==35) (InS n6 (↑s0.length:Int) s0.length∧EvF TT 74 [.str (subStr s0 n6 (↑s0.length:Int)),.int .u8 10] g (KQ Qf λv g'=>∃n,v=.d (.int .i64 n)∧Br (decide (n<0)) (∀(us:List Val),RetL us [slOf 4 l5,.int .i64 0,.int .i64 0]→Qf (.val (.tuple us)) g') (L36_5 s0 l5 (IntKind.i64.wrap (n6+n)) g' Qf))) (InS n6 (↑s0.length:Int) s0.length∧EvF TT 75 [.str (subStr s0 n6 (↑s0.length:Int))] g (KQ Qf λv g'=>∃x,HasTy TT 109 x∧∃n n_1,RetT v [x,.int .i64 n,.int .i64 n_1]∧Br (n_1==0) (Br ((↑l5.length:Int)==4096) (∀(us:List Val),RetL us [.nil,.int .i64 n6,.int .i64 3]→Qf (.val (.tuple us)) g') (Br (n_1 !=0) (∀(us:List Val),RetL us [.nil,.int .i64 n6,.int .i64 n_1]→Qf (.val (.tuple us)) g') (Fits (l5.length+[Dat.agg [.int .i64 (intOf (fld x 0)),.str (strOf (fld x 1)),.int .i64 (intOf (fld x 2)),.int .i64 n6]].length) 40∧L36_5 s0 (l5++[Dat.agg [.int .i64 (intOf (fld x 0)),.str (strOf (fld x 1)),.int .i64 (intOf (fld x 2)),.int .i64 n6]]) (IntKind.i64.wrap (n6+n)) g' Qf))) (Br (n_1 !=0) (∀(us:List Val),RetL us [.nil,.int .i64 n6,.int .i64 n_1]→Qf (.val (.tuple us)) g') (Fits (l5.length+[Dat.agg [.int .i64 (intOf (fld x 0)),.str (strOf (fld x 1)),.int .i64 (intOf (fld x 2)),.int .i64 n6]].length) 40∧L36_5 s0 (l5++[Dat.agg [.int .i64 (intOf (fld x 0)),.str (strOf (fld x 1)),.int .i64 (intOf (fld x 2)),.int .i64 n6]]) (IntKind.i64.wrap (n6+n)) g' Qf)))))))))
 (∀(us:List Val),RetL us [slOf 4 l5,.int .i64 0,.int .i64 0]→Qf (.val (.tuple us)) g)):
  L36_5 s0 l5 n6 g Qf:=sx_cut (rk:=rk) (loops:=lo36) (joins:=[]) (n:=100000) (by kernel_rfl) h
def lo74:List CutI:=[]
theorem w74{s0:List UInt8}{n1:Int}{g:Glob}{Qf:OGP}(h0:s0.length≤2^40)
 (h:EvF TT 110 [.str s0,.int .u8 n1] g (KQ Qf λv g'=>∃n,v=.d (.int .i64 n)∧Qf (.val (.d (.int .i64 n))) g')):
 EvF TT 74 [.str s0,.int .u8 n1] g Qf:=
 sx_fun (rk:=rk) (fn:=Tryz.f74) (loops:=lo74) (joins:=[]) (n:=100000) (args:=[(9,.str s0),(5,.int .u8 n1)]) rfl rfl rfl rfl ⟨tyStr rfl h0,tyInt rfl,trivial⟩ (by kernel_rfl) h
end Go.Proofs.YtmlghadphdpbjaaGreatDoor.Pa
