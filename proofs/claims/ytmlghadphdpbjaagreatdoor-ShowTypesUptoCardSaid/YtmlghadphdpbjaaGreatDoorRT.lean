/- Both lexers cut a text alike. What was read may have been read: types, patterns. -/
import Derived.Test.YtmlghadphdpbjaaGreatDoorRS
set_option linter.all false
set_option autoImplicit false
set_option maxRecDepth 100000
namespace Go.Proofs.YtmlghadphdpbjaaGreatDoor.Pa
open Go Go.Proofs.YtmlghadphdpbjaaGreatDoor.Am
variable{s:Str}{g:Glob}{Qf:OGP}{i:Nat}
def LexQ(Qf:OGP)(g:Glob):LexR→Prop
 |.ok l=>∀us,RetL us [slOf 4 (l.map pkD),.int .i64 0,.int .i64 0]→Qf (.val (.tuple us)) g
 |.err a e=>∀us,RetL us [.nil,.int .i64 (a:Int),.int .i64 e]→Qf (.val (.tuple us)) g
theorem drop_add{u:Str}{a j:Nat}(h:s.drop a=u):s.drop (a+j)=u.drop j:=by rw[←h,List.drop_drop]
theorem lexF_skip{n a j:Nat}{u:Str}{acc:List Pk}(h:skipN u=j+skipN (u.drop j)):lexF (n+1) a u acc=lexF (n+1) (a+j) (u.drop j) acc:=by
 rw[lexF,lexF,h]
 rw[show u.drop (j+skipN (u.drop j))=(u.drop j).drop (skipN (u.drop j)) by rw[List.drop_drop],show a+(j+skipN (u.drop j))=a+j+skipN (u.drop j) by omega]
theorem comN_idx:∀r:Str,(Lib.indexByte r 10=-1∧comN r=r.length)∨∃k:Nat,Lib.indexByte r 10=(k:Int)∧k<r.length∧comN r=k+skipN (r.drop k)
 |[]=>.inl ⟨rfl,by simp[comN]⟩
 |c::r=>by
  by_cases hc:c=10
  ·refine .inr ⟨0,?_,by simp,?_⟩
   ·simp[Lib.indexByte,hc]
   ·subst hc
    have e1:comN (10::r)=1+skipN r:=by simp only[comN];exact if_pos (by decide)
    have e2:skipN (10::r)=1+skipN r:=by simp only[skipN];exact if_pos (by decide)
    rw[List.drop_zero,e1,e2]
    omega
  ·have hn:(c==10)=false:=by simpa using hc
   have hm:¬(c.toNat==10)=true:=λh=>hc (UInt8.toNat_inj.1 (by rw[beq_iff_eq.1 h];rfl))
   have hcom:comN (c::r)=1+comN r:=by simp only[comN];rw[if_neg hm]
   have hidx:Lib.indexByte (c::r) 10=if Lib.indexByte r 10==-1 then -1 else Lib.indexByte r 10+1:=by
    simp only[Lib.indexByte,hn,Bool.false_eq_true,if_false]
   rw[hidx,hcom,List.length_cons]
   rcases comN_idx r with ⟨h1,h2⟩|⟨k,h1,h2,h3⟩
   ·left
    rw[h1,h2]
    exact⟨rfl,by omega⟩
   ·right
    refine⟨k+1,?_,by omega,?_⟩
    ·rw[h1,if_neg (by simp<;>omega)]
     omega
    ·rw[List.drop_succ_cons,h3]
     omega
def lexAll(s:Str):LexR:=if 8192<s.length then .err 0 2 else lexF (s.length+1) 0 s []
theorem indexByte_ok(hs:s.length≤2^40)(hQ:Qf (.val (.d (.int .i64 (Lib.indexByte s 10)))) g):EvF TT 74 [.str s,.int .u8 10] g Qf:=
 w74 hs (idx_ok ⟨_,rfl,hQ⟩)
theorem sub_end{a:Nat}:subStr s (a:Int) (s.length:Int)=s.drop a:=by
 simp only[subStr,Int.toNat_natCast,List.take_length]
theorem plex_go(hs:s.length≤2^40):∀(m n a:Nat) (acc:List Pk),(s.drop a).length≤m→a≤s.length→(∀t∈acc,GoodTk t)→acc.length≤4096→(s.drop a).length<n→LexQ Qf g (lexF n a (s.drop a) acc)→L36_5 s (acc.map pkD) (a:Int) g Qf:=by
 intro m
 induction m with
 |zero=>
  intro n a acc hm ha hg hl hn hQ
  obtain⟨n,rfl⟩:∃n',n=n'+1:=⟨n-1,by omega⟩
  have hu:s.drop a=[]:=List.eq_nil_of_length_eq_zero (by omega)
  rw[lexF,hu] at hQ
  exact w36_5 (Br_end (dropN hu ha) hQ)
 |succ m ih=>
  intro n a acc hm ha hg hl hn hQ
  obtain⟨n,rfl⟩:∃n',n=n'+1:=⟨n-1,by omega⟩
  have hld:(s.drop a).length=s.length-a:=List.length_drop ..
  have jump:∀j:Nat,1≤j→a+j≤s.length→skipN (s.drop a)=j+skipN ((s.drop a).drop j)→L36_5 s (acc.map pkD) ((a+j:Nat):Int) g Qf:=λj hj hjl he=>by
   rw[lexF_skip he,List.drop_drop] at hQ
   exact ih (n+1) (a+j) acc (by rw[List.length_drop];omega) hjl hg hl (by rw[List.length_drop];omega) hQ
  cases hu:s.drop a with
  |nil=>
   rw[lexF,hu] at hQ
   exact w36_5 (Br_end (dropN hu ha) hQ)
  |cons c r=>
   obtain⟨h1,h2,h3⟩:=dropC hu
   have hcl:(c::r).length=s.length-a:=by rw[←hu];exact List.length_drop ..
   have nx:blank c=true→L36_5 s (acc.map pkD) (IntKind.i64.wrap ((a:Int)+1)) g Qf:=λhb=>by
    rw[wrap_nat (by omega)]
    refine jump 1 (by omega) (by omega) ?_
    rw[hu,List.drop_succ_cons,List.drop_zero]
    simp only[skipN,hb,if_true]
   refine w36_5 (Br_len h1 ?_)
   rw[h2]
   refine⟨inB h1,Br_iff.2 ⟨λq=>Br_of q (nx (by simp at q;simp[blank];omega)),λq1=>Br_iff.2 ⟨λq=>Br_of q (nx (by simp at q;simp[blank];omega)),λq2=>Br_iff.2 ⟨λq=>Br_of q (nx (by simp at q;simp[blank];omega)),λq3=>Br_iff.2 ⟨λq=>nx (by simp at q;simp[blank];omega),λq4=>Br_iff.2 ⟨λq5=>⟨⟨by omega,by omega,by omega⟩,?_⟩,λq5=>⟨⟨by omega,by omega,by omega⟩,?_⟩⟩⟩⟩⟩⟩⟩
   all_goals
    have hb:blank c=false:=by
     simp at q1 q2 q3 q4
     simp[blank]
     omega
    rw[sub_end,hu]
   ·have hc:(c.toNat==35)=true:=by simp at q5⊢;omega
    have hc35:c=35:=UInt8.toNat_inj.1 (by rw[beq_iff_eq.1 hc];rfl)
    have hsk:skipN (c::r)=1+comN r:=by simp only[skipN,hb,Bool.false_eq_true,if_false];rw[if_pos hc]
    have hidx:Lib.indexByte (c::r) 10=if Lib.indexByte r 10==-1 then -1 else Lib.indexByte r 10+1:=by
     rw[hc35]
     rfl
    refine indexByte_ok (by omega) ⟨_,rfl,?_⟩
    rw[hidx]
    rcases comN_idx r with ⟨k1,k2⟩|⟨k,k1,k2,k3⟩
    ·rw[k1]
     refine Br_of rfl ?_
     rw[lexF,hu,hsk,k2,show(c::r).drop (1+r.length)=[] by rw[List.drop_eq_nil_of_le];simp;omega] at hQ
     exact hQ
    ·rw[k1,if_neg (by simp<;>omega)]
     rw[List.length_cons] at hcl
     refine Br_no (decide_eq_false (by omega)) ?_
     have hw:IntKind.i64.wrap ((a:Int)+((k:Int)+1))=((a+(k+1):Nat):Int):=by rw[wrap_id (by omega) (by omega)];omega
     rw[hw]
     refine jump (k+1) (by omega) (by omega) ?_
     rw[hu,hsk,k3,List.drop_succ_cons]
     omega
   ·have hc:¬(c.toNat==35)=true:=by simp at q5⊢;omega
    have hsk:skipN (c::r)=0:=by simp only[skipN,hb,Bool.false_eq_true,if_false];rw[if_neg hc]
    rw[lexF,hu,hsk,List.drop_zero] at hQ
    have hQ:LexQ Qf g (if lexErr (tokF (c::r)).2.2 acc.length=0 then lexF n (a+(tokF (c::r)).2.1) ((c::r).drop (tokF (c::r)).2.1) (acc++[((tokF (c::r)).1,(a:Int))]) else .err a (lexErr (tokF (c::r)).2.2 acc.length)):=hQ
    have hlm:((acc.map pkD).length:Int)=(acc.length:Int):=by rw[List.length_map]
    rw[hlm]
    refine lextoken_ok (by simp) (by omega) ?_
    by_cases h0:(tokF (c::r)).2.2=0
    ·obtain⟨hgt,hm1,hm2⟩:=tokF_good (p:=(a:Int)) (Int.natCast_nonneg _) h0
     have hz:((tokF (c::r)).2.2==0)=true:=by simpa using h0
     refine⟨_,ty_tok hgt.str,_,_,⟨rfl,rfl,rfl,trivial⟩,Br_of hz (Br_iff.2 ⟨λq=>?_,λq=>Br_no (by simp[bne,hz]) ⟨fit20 (by decide) (by show(acc.map pkD).length+1≤_;rw[List.length_map];omega),?_⟩⟩)⟩
     ·have hq:acc.length=4096:=by have:=beq_iff_eq.1 q;omega
      rw[h0,hq] at hQ
      exact hQ
     ·have hq:acc.length≠4096:=by have:=beq_eq_false_iff_ne.1 q;omega
      have he:lexErr (tokF (c::r)).2.2 acc.length=0:=by rw[h0];unfold lexErr;rw[if_neg (λh=>hq h.2)]
      rw[if_pos he] at hQ
      have hdd:(c::r).drop (tokF (c::r)).2.1=s.drop (a+(tokF (c::r)).2.1):=(drop_add hu).symm
      rw[hdd] at hQ
      have hw:IntKind.i64.wrap ((a:Int)+((tokF (c::r)).2.1:Nat))=((a+(tokF (c::r)).2.1:Nat):Int):=by rw[wrap_id (by omega) (by omega)];omega
      rw[hw]
      have:=ih n (a+(tokF (c::r)).2.1) (acc++[((tokF (c::r)).1,(a:Int))]) (by rw[List.length_drop];omega) (by omega) (λt ht=>by
       rcases List.mem_append.1 ht with ht|ht
       ·exact hg t ht
       ·rw[List.mem_singleton.1 ht];exact hgt) (by rw[List.length_append,List.length_singleton];omega) (by rw[List.length_drop];omega) hQ
      rw[List.map_append] at this
      exact this
    ·have he:lexErr (tokF (c::r)).2.2 acc.length=(tokF (c::r)).2.2:=by unfold lexErr;rw[if_neg (λh=>h0 h.1)]
     rw[he,if_neg h0] at hQ
     have hz:((tokF (c::r)).2.2==0)=false:=by simpa using h0
     exact⟨_,ty_tok (tokF_len (by omega)),_,_,⟨rfl,rfl,rfl,trivial⟩,Br_no hz (Br_of (by simp[bne,hz]) hQ)⟩
theorem plex_ok(hs:s.length≤2^40)(hQ:LexQ Qf g (lexAll s)):EvF TT 36 [.str s] g Qf:=by
 unfold lexAll at hQ
 refine w36 hs (Br_iff.2 ⟨λq=>?_,λq=>?_⟩)
 ·rw[if_pos (by have:=of_decide_eq_true q;omega)] at hQ
  exact hQ
 ·rw[if_neg (by have:=of_decide_eq_false q;omega)] at hQ
  exact plex_go hs s.length (s.length+1) 0 [] (by simp) (by omega) (λt h=>by cases h) (by simp) (by simp) (by simpa using hQ)
end Go.Proofs.YtmlghadphdpbjaaGreatDoor.Pa
namespace Go.Proofs.YtmlghadphdpbjaaGreatDoor.Pa
open Go Go.Proofs.YtmlghadphdpbjaaGreatDoor.Am
variable{en:Int}{r r1 r':List Pk}{α β:Type}
def AG(X r:List Pk):Prop:=r<:+X∧∀t∈X,GoodTk t
variable{X:List Pk}
theorem AG.tail(h:AG X r):AG X r.tail:=⟨(List.tail_suffix r).trans h.1,h.2⟩
theorem AG.mem(h:AG X r):∀t∈r,GoodTk t:=λt ht=>h.2 t (h.1.mem ht)
theorem need_ok'{k:Int}{s:Str}{u:Unit}(h:need en k s r=.ok u r'):r'=r.tail∧isK' k s r=true:=by
 unfold need at h
 split at h
 ·rename_i q;cases h;exact⟨rfl,q⟩
 ·cases h
theorem word_ok'{k:Int}{s:Str}(h:word1 en k r=.ok s r'):r'=r.tail∧s=txK r∧(kdK r==k)=true:=by
 unfold word1 at h
 split at h
 ·rename_i q;cases h;exact⟨rfl,rfl,q⟩
 ·cases h
theorem hd_of{k:Int}(hg:AG X r)(hk:k≠0)(q:(kdK r==k)=true):∃t r2,r=t::r2∧GoodTk t∧t.1.1=k:=by
 cases r with
 |nil=>exact absurd rfl (ne_nil hk q)
 |cons t r2=>exact⟨t,r2,rfl,hg.mem t (by simp),by simpa[kdK] using q⟩
theorem low_of(hg:AG X r)(q:(kdK r==1)=true):wLow (txK r)=true∧nmK r=0:=by
 obtain⟨t,r2,rfl,h,e⟩:=hd_of hg (by decide) q
 exact⟨h.low e,h.n0 (by rw[e];decide)⟩
theorem up_of(hg:AG X r)(q:(kdK r==2)=true):wUp (txK r)=true∧nmK r=0:=by
 obtain⟨t,r2,rfl,h,e⟩:=hd_of hg (by decide) q
 exact⟨h.up e,h.n0 (by rw[e];decide)⟩
theorem var_of(hg:AG X r)(q:(kdK r==3)=true):wVar (txK r)=true:=by
 obtain⟨t,r2,rfl,h,e⟩:=hd_of hg (by decide) q
 exact h.var e
theorem int_of(hg:AG X r)(q:(kdK r==4)=true):txK r=[]∧inI (nmK r)=true:=by
 obtain⟨t,r2,rfl,h,e⟩:=hd_of hg (by decide) q
 exact⟨h.t0 e,h.int e⟩
theorem okTys_app:∀{l l':List Ty},okTys (l++l')=(okTys l&&okTys l')
 |[],l'=>by simp[okTys]
 |x::l,l'=>by simp[okTys,okTys_app,Bool.and_assoc]
theorem ndTys_app:∀{l l':List Ty},ndTys (l++l')=ndTys l+ndTys l'
 |[],l'=>by simp[ndTys]
 |x::l,l'=>by simp only[List.cons_append,ndTys,ndTys_app];omega
theorem low_ok{s:Str}(h:wLow s=true):okTy (lowTy s)=true∧ndTy (lowTy s)=1:=by
 unfold lowTy
 by_cases q:s=kInt
 ·rw[if_pos (by simpa using q)]
  exact⟨by decide,by simp[ndTy,ndTys]⟩
 ·rw[if_neg (by simpa using q)]
  refine⟨?_,by simp[ndTy,ndTys]⟩
  have:(s==[105,110,116])=false:=by simpa[kInt] using q
  simp[okTy,okTy1,okTys,h,this]
theorem tyAdd_ok{t u:Ty}(hk:tyKind t=4)(ht:okTy t=true)(hu:okTy u=true):okTy (tyAdd t u)=true∧ndTy (tyAdd t u)=ndTy t+ndTy u:=by
 cases t with
 |mk k s n a=>
  have hk:k=4:=hk
  subst hk
  simp only[okTy,Bool.and_eq_true] at ht
  refine⟨?_,by simp only[tyAdd,ndTy,ndTys_app,ndTys];omega⟩
  simp only[tyAdd,okTy,okTys_app,okTys,ht.2,hu,Bool.and_true]
  have:=ht.1
  simp only[okTy1] at this⊢
  exact this
theorem gTy_ok:∀n:Nat,(∀(r:List Pk) v r',AG X r→gTyp en n r=.ok v r'→okTy v=true∧AG X r'∧ndTy v+2+3*r'.length≤3*r.length)∧(∀(r:List Pk) v r',AG X r→gTyapp en n r=.ok v r'→okTy v=true∧AG X r'∧ndTy v+2+3*r'.length≤3*r.length)∧
 (∀(t:Ty) (r:List Pk) v r',AG X r→okTy t=true→gTyArgs en n t r=.ok v r'→okTy v=true∧AG X r'∧ndTy v+3*r'.length≤ndTy t+3*r.length)∧(∀(r:List Pk) v r',AG X r→gTyatom en n r=.ok v r'→okTy v=true∧AG X r'∧ndTy v+2+3*r'.length≤3*r.length)
 |0=>⟨λ_ _ _ _ h=>by simp[gTyp] at h,λ_ _ _ _ h=>by simp[gTyapp] at h,λ_ _ _ _ _ _ h=>by simp[gTyArgs] at h,λ_ _ _ _ h=>by simp[gTyatom] at h⟩
 |n+1=>by
  obtain⟨i1,i2,i3,i4⟩:=gTy_ok n
  refine⟨λr v r' hg h=>?_,λr v r' hg h=>?_,λt r v r' hg ht h=>?_,λr v r' hg h=>?_⟩
  ·rw[gTyp] at h
   obtain⟨t,r1,h1,h2⟩:=bind_ok h
   obtain⟨a1,a2,a3⟩:=i2 _ _ _ hg h1
   split at h2
   ·rename_i q
    obtain⟨u,r2,h3,h4⟩:=bind_ok h2
    obtain⟨b1,b2,b3⟩:=i1 _ _ _ a2.tail h3
    have l3:=tail_lt' (by decide) q
    cases h4
    exact⟨by simp[okTy,okTy1,okTys,a1,b1],b2,by simp only[ndTy,ndTys];omega⟩
   ·cases h2;exact⟨a1,a2,a3⟩
  ·rw[gTyapp] at h
   split at h
   ·rename_i q
    have l1:=tail_lt (by decide) q
    obtain⟨c1,c2⟩:=low_ok (low_of hg q).1
    obtain⟨a1,a2,a3⟩:=i3 _ _ _ _ hg.tail c1 h
    exact⟨a1,a2,by omega⟩
   ·exact i4 _ _ _ hg h
  ·rw[gTyArgs] at h
   split at h
   ·split at h
    ·rename_i q
     obtain⟨u,r1,h1,h2⟩:=bind_ok h
     obtain⟨a1,a2,a3⟩:=i4 _ _ _ hg h1
     obtain⟨c1,c2⟩:=tyAdd_ok (by simpa using q) ht a1
     obtain⟨b1,b2,b3⟩:=i3 _ _ _ _ a2 c1 h2
     exact⟨b1,b2,by omega⟩
    ·cases h
   ·cases h;exact⟨ht,hg,Nat.le_refl _⟩
  ·rw[gTyatom] at h
   split at h
   ·rename_i q
    cases h
    have l1:=tail_lt (by decide) q
    obtain⟨c1,c2⟩:=low_ok (low_of hg q).1
    exact⟨c1,hg.tail,by omega⟩
   ·split at h
    ·rename_i q
     cases h
     have l1:=tail_lt (by decide) q
     exact⟨by simp[okTy,okTy1,okTys,var_of hg q],hg.tail,by simp only[ndTy,ndTys];omega⟩
    ·obtain⟨_,r1,h1,h2⟩:=bind_ok h
     obtain⟨t,r2,h3,h4⟩:=bind_ok h2
     obtain⟨_,r3,h5,h6⟩:=bind_ok h4
     obtain⟨rfl,q1⟩:=need_ok' h1
     obtain⟨a1,a2,a3⟩:=i1 _ _ _ hg.tail h3
     obtain⟨rfl,q2⟩:=need_ok' h5
     have l1:=tail_lt' (by decide) q1
     have l2:=tail_lt' (by decide) q2
     cases h6
     exact⟨a1,a2.tail,by omega⟩
theorem okPts_app:∀{l l':List Pt},okPts (l++l')=(okPts l&&okPts l')
 |[],l'=>by simp[okPts]
 |x::l,l'=>by simp[okPts,okPts_app,Bool.and_assoc]
theorem szPts_app:∀{l l':List Pt},szPts (l++l')=szPts l+szPts l'
 |[],l'=>by simp[szPts]
 |x::l,l'=>by simp only[List.cons_append,szPts,szPts_app];omega
def ptKind:Pt→Int
 |.mk k _ _ _ _=>k
theorem ptAdd_ok{t u:Pt}(hk:ptKind t=4)(ht:okPt t=true)(hu:okPt u=true):okPt (ptAdd t u)=true∧szPt (ptAdd t u)=szPt t+szPt u∧ptKind (ptAdd t u)=4:=by
 cases t with
 |mk k s n a p=>
  have hk:k=4:=hk
  subst hk
  simp only[okPt,Bool.and_eq_true] at ht
  refine⟨?_,by simp only[ptAdd,szPt,szPts_app,szPts];omega,rfl⟩
  simp only[ptAdd,okPt,okPts_app,okPts,ht.2,hu,Bool.and_true]
  have:=ht.1
  simp only[okPt1] at this⊢
  exact this
theorem conPt_ok{s:Str}{p:Int}(h:wUp s=true):okPt (.mk 4 s 0 [] p)=true∧szPt (.mk 4 s 0 [] p)=1:=⟨by simp[okPt,okPt1,okPts,h],by simp[szPt,szPts]⟩
theorem gPt_ok:∀n:Nat,(∀(r:List Pk) v r',AG X r→gPat en n r=.ok v r'→okPt v=true∧AG X r'∧szPt v+2+3*r'.length≤3*r.length)∧
 (∀(t:Pt) (r:List Pk) v r',AG X r→ptKind t=4→okPt t=true→gPatArgs en n t r=.ok v r'→okPt v=true∧AG X r'∧szPt v+3*r'.length≤szPt t+3*r.length)∧(∀(r:List Pk) v r',AG X r→gPatom en n r=.ok v r'→okPt v=true∧AG X r'∧szPt v+2+3*r'.length≤3*r.length)
 |0=>⟨λ_ _ _ _ h=>by simp[gPat] at h,λ_ _ _ _ _ _ _ h=>by simp[gPatArgs] at h,λ_ _ _ _ h=>by simp[gPatom] at h⟩
 |n+1=>by
  obtain⟨i1,i3,i4⟩:=gPt_ok n
  refine⟨λr v r' hg h=>?_,λt r v r' hg hk ht h=>?_,λr v r' hg h=>?_⟩
  ·rw[gPat] at h
   split at h
   ·rename_i q
    have l1:=tail_lt (by decide) q
    obtain⟨u1,u2⟩:=up_of hg q
    rw[u2] at h
    obtain⟨c1,c2⟩:=conPt_ok (p:=plK en r) u1
    obtain⟨a1,a2,a3⟩:=i3 _ _ _ _ hg.tail rfl c1 h
    exact⟨a1,a2,by omega⟩
   ·exact i4 _ _ _ hg h
  ·rw[gPatArgs] at h
   split at h
   ·obtain⟨u,r1,h1,h2⟩:=bind_ok h
    obtain⟨a1,a2,a3⟩:=i4 _ _ _ hg h1
    obtain⟨c1,c2,c3⟩:=ptAdd_ok hk ht a1
    obtain⟨b1,b2,b3⟩:=i3 _ _ _ _ a2 c3 c1 h2
    exact⟨b1,b2,by omega⟩
   ·cases h;exact⟨ht,hg,Nat.le_refl _⟩
  ·rw[gPatom] at h
   split at h
   ·rename_i q
    cases h
    have l1:=tail_lt (by decide) q
    obtain⟨u1,u2⟩:=low_of hg q
    exact⟨by simp[okPt,okPt1,okPts,u1,u2],hg.tail,by simp only[szPt,szPts];omega⟩
   ·split at h
    ·rename_i q
     cases h
     have l1:=tail_lt' (by decide) q
     have q6:=isAny_k q
     obtain⟨t,r2,rfl,ht,e⟩:=hd_of hg (by decide) q6
     have:nmK (t::r2)=0:=ht.n0 (by rw[e];decide)
     exact⟨by simp[okPt,okPt1,okPts,this],hg.tail,by simp only[szPt,szPts];omega⟩
    ·split at h
     ·rename_i q
      cases h
      have l1:=tail_lt (by decide) q
      obtain⟨u1,u2⟩:=int_of hg q
      exact⟨by simp[okPt,okPt1,okPts,u1,u2],hg.tail,by simp only[szPt,szPts];omega⟩
     ·split at h
      ·rename_i q
       cases h
       have l1:=tail_lt (by decide) q
       obtain⟨u1,u2⟩:=up_of hg q
       exact⟨by simp[okPt,okPt1,okPts,u1,u2],hg.tail,by simp only[szPt,szPts];omega⟩
      ·obtain⟨_,r1,h1,h2⟩:=bind_ok h
       obtain⟨t,r2,h3,h4⟩:=bind_ok h2
       obtain⟨_,r3,h5,h6⟩:=bind_ok h4
       obtain⟨rfl,q1⟩:=need_ok' h1
       obtain⟨a1,a2,a3⟩:=i1 _ _ _ hg.tail h3
       obtain⟨rfl,q2⟩:=need_ok' h5
       have l1:=tail_lt' (by decide) q1
       have l2:=tail_lt' (by decide) q2
       cases h6
       exact⟨a1,a2.tail,by omega⟩
end Go.Proofs.YtmlghadphdpbjaaGreatDoor.Pa
