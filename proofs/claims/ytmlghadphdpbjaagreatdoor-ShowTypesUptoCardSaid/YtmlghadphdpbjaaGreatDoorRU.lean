/- What was read may have been read: expressions, declarations, programs. Nothing of this seat. Proved: both packages read a text alike (the law ParseReads, in plain words). -/
import Derived.Test.YtmlghadphdpbjaaGreatDoorRT
set_option linter.all false
set_option autoImplicit false
set_option maxRecDepth 100000
namespace Go.Proofs.YtmlghadphdpbjaaGreatDoor.Pa
open Go Go.Proofs.YtmlghadphdpbjaaGreatDoor.Am
variable{en:Int}{X r r1 r':List Pk}{α β:Type}
theorem okExs_app:∀{l l':List Ex'},okExs (l++l')=(okExs l&&okExs l')
 |[],l'=>by simp[okExs]
 |x::l,l'=>by simp[okExs,okExs_app,Bool.and_assoc]
theorem szExs_app:∀{l l':List Ex'},szExs (l++l')=szExs l+szExs l'
 |[],l'=>by simp[szExs]
 |x::l,l'=>by simp only[List.cons_append,szExs,szExs_app];omega
theorem ex_var{s:Str}{p:Int}(h:wLow s=true):okEx (.mk 1 s [] 0 [] [] p)=true:=by simp[okEx,okEx1,okPts,okExs,h,pos0]
theorem ex_int{n p:Int}(h:inI n=true):okEx (.mk 2 [] [] n [] [] p)=true:=by simp[okEx,okEx1,okPts,okExs,h,pos0]
theorem ex_con0{s:Str}{p:Int}(h:wUp s=true):okEx (.mk 8 s [] 0 [] [] p)=true:=by simp[okEx,okEx1,okPts,okExs,h,pos0]
theorem ex_fun{s:Str}{p:Int}{e:Ex'}(h:wLow s=true)(he:okEx e=true):okEx (.mk 3 s [] 0 [e] [] p)=true:=by simp[okEx,okEx1,okPts,okExs,h,he,pos0]
theorem ex_app{p:Int}{a b:Ex'}(ha:okEx a=true)(hb:okEx b=true):okEx (.mk 4 [] [] 0 [a,b] [] p)=true:=by simp[okEx,okEx1,okPts,okExs,ha,hb,pos0]
theorem ex_let{s:Str}{p:Int}{a b:Ex'}(h:wLow s=true)(ha:okEx a=true)(hb:okEx b=true):okEx (.mk 5 s [] 0 [a,b] [] p)=true:=by simp[okEx,okEx1,okPts,okExs,h,ha,hb,pos0]
theorem ex_rec{s u:Str}{p:Int}{a b:Ex'}(h:wLow s=true)(hu:wLow u=true)(ha:okEx a=true)(hb:okEx b=true):okEx (.mk 6 s u 0 [a,b] [] p)=true:=by simp[okEx,okEx1,okPts,okExs,h,hu,ha,hb,pos0]
theorem ex_print{p:Int}{a:Ex'}(ha:okEx a=true):okEx (.mk 10 [] [] 0 [a] [] p)=true:=by simp[okEx,okEx1,okPts,okExs,ha,pos0]
theorem ex_prim{s:Str}{p:Int}{a b:Ex'}(h:pos0 (opN s)=true)(ha:okEx a=true)(hb:okEx b=true):okEx (.mk 9 s [] 0 [a,b] [] p)=true:=by
 have h1:pos0 0=false:=by decide
 simp[okEx,okEx1,okPts,okExs,h,ha,hb,h1]
theorem ex_case{p:Int}{a:List Ex'}{b:List Pt}(hl:a.length=b.length+1)(hb:b≠[])(ha:okExs a=true)(hp:okPts b=true):okEx (.mk 7 [] [] 0 a b p)=true:=by
 have h1:pos0 (b.length:Int)=true:=by
  have:=List.length_pos_iff.2 hb
  simp[pos0];omega
 have h2:((a.length:Int)==(b.length:Int)+1)=true:=by simp[hl]
 simp[okEx,okEx1,ha,hp,h1,h2]
theorem ex_conAdd{s:Str}{p:Int}{a:List Ex'}{x:Ex'}(h:okEx (.mk 8 s [] 0 a [] p)=true)(hx:okEx x=true):okEx (.mk 8 s [] 0 (a++[x]) [] p)=true:=by
 simp only[okEx,Bool.and_eq_true] at h
 simp only[okEx,okExs_app,okExs,hx,h.2.2,okPts,Bool.and_true]
 have h1:pos0 0=false:=by decide
 have:=h.1
 simp[okEx1,h1] at this⊢
 exact this
theorem con0_ok(s:Str)(p:Int)(h:wUp s=true:=by decide):okPt (con0 s p)=true:=(conPt_ok h).1
theorem sgns_op{l:Nat}(h:sgNext l r=true):pos0 (opN (txK r))=true:=by
 unfold sgNext at h
 rw[Bool.and_eq_true,List.any_eq_true] at h
 obtain⟨_,x,hx,e⟩:=h
 rw[←(beq_iff_eq.1 e)]
 match l,hx with
 |0,hx=>exact(by decide:∀x∈sgns 0,pos0 (opN x)=true) x hx
 |1,hx=>exact(by decide:∀x∈sgns 1,pos0 (opN x)=true) x hx
 |_+2,hx=>exact(by decide:∀x∈([[42],[47],[37]]:List Str),pos0 (opN x)=true) x hx
structure ExOk(X:List Pk)(en:Int)(n:Nat):Prop where
 ex:∀{r v r'},AG X r→gEx en n r=.ok v r'→okEx v=true∧AG X r'∧szEx v+2+3*r'.length≤3*r.length
 lt5:∀{s p r v r'},AG X r→wLow s=true→gLet en n (.mk 5 s [] 0 [] [] p) r=.ok v r'→okEx v=true∧AG X r'∧szEx v+2+3*r'.length≤3*r.length
 lt6:∀{s u p r v r'},AG X r→wLow s=true→wLow u=true→gLet en n (.mk 6 s u 0 [] [] p) r=.ok v r'→okEx v=true∧AG X r'∧szEx v+2+3*r'.length≤3*r.length
 br:∀{a b p r v r'},AG X r→a.length=b.length+1→okExs a=true→okPts b=true→gBr en n (.mk 7 [] [] 0 a b p) r=.ok v r'→okEx v=true∧AG X r'∧szEx v+3*r'.length≤1+szPts b+szExs a+3*r.length
 lev:∀{l r v r'},AG X r→gLev en n l r=.ok v r'→okEx v=true∧AG X r'∧szEx v+2+3*r'.length≤3*r.length
 ops:∀{l e r v r'},AG X r→okEx e=true→gOps en n l e r=.ok v r'→okEx v=true∧AG X r'∧szEx v+3*r'.length≤szEx e+3*r.length
 app:∀{r v r'},AG X r→gApp en n r=.ok v r'→okEx v=true∧AG X r'∧szEx v+2+3*r'.length≤3*r.length
 con:∀{s a p r v r'},AG X r→okEx (.mk 8 s [] 0 a [] p)=true→gConArgs en n (.mk 8 s [] 0 a [] p) r=.ok v r'→okEx v=true∧AG X r'∧szEx v+3*r'.length≤1+szExs a+3*r.length
 args:∀{e r v r'},AG X r→okEx e=true→gAppArgs en n e r=.ok v r'→okEx v=true∧AG X r'∧szEx v+3*r'.length≤szEx e+3*r.length
 atom:∀{r v r'},AG X r→gAtom en n r=.ok v r'→okEx v=true∧AG X r'∧szEx v+2+3*r'.length≤3*r.length
theorem exOk:∀n,ExOk X en n
 |0=>by constructor<;>intros<;>rename_i h<;>simp[gEx,gLet,gBr,gLev,gOps,gApp,gConArgs,gAppArgs,gAtom] at h
 |n+1=>by
  have I:=exOk n
  have P:=(gPt_ok (en:=en) (X:=X) n).1
  constructor
  ·intro r v r' hg h
   rw[gEx] at h
   split at h
   ·rename_i q
    obtain⟨_,r1,h1,h2⟩:=bind_ok h
    obtain⟨_,r2,h3,h4⟩:=bind_ok h2
    obtain⟨_,r3,h5,h6⟩:=bind_ok h4
    have l0:=tail_lt' (by decide) q
    obtain⟨rfl,rfl,q1⟩:=word_ok' h1
    have l1:=tail_lt (by decide) q1
    obtain⟨rfl,q2⟩:=need_ok' h3
    have l2:=tail_lt' (by decide) q2
    obtain⟨a1,a2,a3⟩:=I.ex hg.tail.tail.tail h5
    cases h6
    exact⟨ex_fun (low_of hg.tail q1).1 a1,a2,by simp only[szEx,szPts,szExs];omega⟩
   ·split at h
    ·rename_i q
     have l0:=tail_lt' (by decide) q
     split at h
     ·rename_i q1
      have l1:=tail_lt' (by decide) q1
      obtain⟨_,r1,h1,h2⟩:=bind_ok h
      obtain⟨_,r2,h3,h4⟩:=bind_ok h2
      obtain⟨rfl,rfl,q2⟩:=word_ok' h1
      have l2:=tail_lt (by decide) q2
      obtain⟨rfl,rfl,q3⟩:=word_ok' h3
      have l3:=tail_lt (by decide) q3
      obtain⟨a1,a2,a3⟩:=I.lt6 hg.tail.tail.tail.tail (low_of hg.tail.tail q2).1 (low_of hg.tail.tail.tail q3).1 h4
      exact⟨a1,a2,by omega⟩
     ·obtain⟨_,r1,h1,h2⟩:=bind_ok h
      obtain⟨rfl,rfl,q2⟩:=word_ok' h1
      have l2:=tail_lt (by decide) q2
      obtain⟨a1,a2,a3⟩:=I.lt5 hg.tail.tail (low_of hg.tail q2).1 h2
      exact⟨a1,a2,by omega⟩
    ·split at h
     ·rename_i q
      have l0:=tail_lt' (by decide) q
      obtain⟨_,r1,h1,h2⟩:=bind_ok h
      obtain⟨_,r2,h3,h4⟩:=bind_ok h2
      obtain⟨_,r3,h5,h6⟩:=bind_ok h4
      obtain⟨_,r4,h7,h8⟩:=bind_ok h6
      obtain⟨_,r5,h9,h10⟩:=bind_ok h8
      obtain⟨a1,a2,a3⟩:=I.ex hg.tail h1
      obtain⟨rfl,q1⟩:=need_ok' h3
      have l1:=tail_lt' (by decide) q1
      obtain⟨b1,b2,b3⟩:=I.ex a2.tail h5
      obtain⟨rfl,q2⟩:=need_ok' h7
      have l2:=tail_lt' (by decide) q2
      obtain⟨c1,c2,c3⟩:=I.ex b2.tail h9
      cases h10
      exact⟨ex_case rfl (by simp) (by simp[okExs,a1,b1,c1]) (by simp[okPts,con0_ok nTrue,con0_ok nFalse]),c2,by simp only[szEx,szPts,szExs,con0,szPt];omega⟩
     ·split at h
      ·rename_i q
       have l0:=tail_lt' (by decide) q
       obtain⟨_,r1,h1,h2⟩:=bind_ok h
       obtain⟨_,r2,h3,h4⟩:=bind_ok h2
       obtain⟨a1,a2,a3⟩:=I.ex hg.tail h1
       obtain⟨rfl,q1⟩:=need_ok' h3
       have l1:=tail_lt' (by decide) q1
       obtain⟨b1,b2,b3⟩:=I.br a2.tail rfl (by simp[okExs,a1]) rfl h4
       simp only[szPts,szExs] at b3
       exact⟨b1,b2,by omega⟩
      ·obtain⟨a,r1,h1,h2⟩:=bind_ok h
       obtain⟨a1,a2,a3⟩:=I.lev hg h1
       split at h2
       ·rename_i q
        have l0:=tail_lt' (by decide) q
        obtain⟨_,r2,h3,h4⟩:=bind_ok h2
        obtain⟨b1,b2,b3⟩:=I.ex a2.tail h3
        cases h4
        exact⟨ex_case rfl (by simp) (by simp[okExs,a1,b1]) (by simp[okPts,con0_ok nUnit]),b2,by simp only[szEx,szPts,szExs,con0,szPt];omega⟩
       ·cases h2;exact⟨a1,a2,a3⟩
  ·intro s p r v r' hg hs h
   rw[gLet] at h
   obtain⟨_,r1,h1,h2⟩:=bind_ok h
   obtain⟨_,r2,h3,h4⟩:=bind_ok h2
   obtain⟨_,r3,h5,h6⟩:=bind_ok h4
   obtain⟨_,r4,h7,h8⟩:=bind_ok h6
   obtain⟨rfl,q1⟩:=need_ok' h1
   have l1:=tail_lt' (by decide) q1
   obtain⟨a1,a2,a3⟩:=I.ex hg.tail h3
   obtain⟨rfl,q2⟩:=need_ok' h5
   have l2:=tail_lt' (by decide) q2
   obtain⟨b1,b2,b3⟩:=I.ex a2.tail h7
   cases h8
   exact⟨ex_let hs a1 b1,b2,by simp only[exAdd,List.nil_append,List.cons_append,szEx,szPts,szExs];omega⟩
  ·intro s u p r v r' hg hs hu h
   rw[gLet] at h
   obtain⟨_,r1,h1,h2⟩:=bind_ok h
   obtain⟨_,r2,h3,h4⟩:=bind_ok h2
   obtain⟨_,r3,h5,h6⟩:=bind_ok h4
   obtain⟨_,r4,h7,h8⟩:=bind_ok h6
   obtain⟨rfl,q1⟩:=need_ok' h1
   have l1:=tail_lt' (by decide) q1
   obtain⟨a1,a2,a3⟩:=I.ex hg.tail h3
   obtain⟨rfl,q2⟩:=need_ok' h5
   have l2:=tail_lt' (by decide) q2
   obtain⟨b1,b2,b3⟩:=I.ex a2.tail h7
   cases h8
   exact⟨ex_rec hs hu a1 b1,b2,by simp only[exAdd,List.nil_append,List.cons_append,szEx,szPts,szExs];omega⟩
  ·intro a b p r v r' hg hl ha hb h
   rw[gBr] at h
   obtain⟨x,r1,h1,h2⟩:=bind_ok h
   obtain⟨_,r2,h3,h4⟩:=bind_ok h2
   obtain⟨y,r3,h5,h6⟩:=bind_ok h4
   obtain⟨a1,a2,a3⟩:=P _ _ _ hg h1
   obtain⟨rfl,q1⟩:=need_ok' h3
   have l1:=tail_lt' (by decide) q1
   obtain⟨b1,b2,b3⟩:=I.ex a2.tail h5
   have e1:okExs (a++[y])=true:=by simp[okExs_app,okExs,ha,b1]
   have e2:okPts (b++[x])=true:=by simp[okPts_app,okPts,hb,a1]
   have e3:(a++[y]).length=(b++[x]).length+1:=by simp[hl]
   have e4:szExs (a++[y])=szExs a+szEx y:=by rw[szExs_app];simp[szExs]
   have e5:szPts (b++[x])=szPts b+szPt x:=by rw[szPts_app];simp[szPts]
   split at h6
   ·rename_i q
    have l0:=tail_lt' (by decide) q
    obtain⟨c1,c2,c3⟩:=I.br b2.tail e3 e1 e2 h6
    exact⟨c1,c2,by omega⟩
   ·obtain⟨_,r4,h7,h8⟩:=bind_ok h6
    obtain⟨rfl,q2⟩:=need_ok' h7
    have l2:=tail_lt' (by decide) q2
    cases h8
    exact⟨ex_case e3 (by simp) e1 e2,b2.tail,by simp only[exPat,exAdd,szEx,e4,e5];omega⟩
  ·intro l r v r' hg h
   rw[gLev] at h
   split at h
   ·exact I.app hg h
   ·obtain⟨_,r1,h1,h2⟩:=bind_ok h
    obtain⟨a1,a2,a3⟩:=I.lev hg h1
    obtain⟨b1,b2,b3⟩:=I.ops a2 a1 h2
    exact⟨b1,b2,by omega⟩
  ·intro l e r v r' hg he h
   rw[gOps] at h
   split at h
   ·rename_i q
    have l0:=sg_lt q
    obtain⟨b,r1,h1,h2⟩:=bind_ok h
    obtain⟨a1,a2,a3⟩:=I.lev hg.tail h1
    have e1:=ex_prim (p:=exAt e) (sgns_op q) he a1
    split at h2
    ·cases h2
     exact⟨e1,a2,by simp only[szEx,szPts,szExs];omega⟩
    ·obtain⟨b1,b2,b3⟩:=I.ops a2 e1 h2
     simp only[szEx,szPts,szExs] at b3
     exact⟨b1,b2,by omega⟩
   ·cases h;exact⟨he,hg,Nat.le_refl _⟩
  ·intro r v r' hg h
   rw[gApp] at h
   split at h
   ·rename_i q
    obtain⟨e,r1,h1,h2⟩:=bind_ok h
    obtain⟨u1,u2⟩:=up_of hg q
    have q0:kdK r=2:=by simpa using q
    have l0:=tail_lt (by decide) q
    match n,I,h1,h2 with
    |0,I,h1,h2=>simp[gAtom] at h1
    |n+1,I,h1,h2=>
     rw[gAtom,if_neg (by rw[q0];decide),if_neg (by rw[q0];decide),if_pos q,u2] at h1
     cases h1
     obtain⟨b1,b2,b3⟩:=I.con hg.tail (ex_con0 u1) h2
     simp only[szExs] at b3
     exact⟨b1,b2,by omega⟩
   ·split at h
    ·rename_i q
     have l0:=tail_lt' (by decide) q
     obtain⟨_,r1,h1,h2⟩:=bind_ok h
     obtain⟨a1,a2,a3⟩:=I.atom hg.tail h1
     cases h2
     exact⟨ex_print a1,a2,by simp only[szEx,szPts,szExs];omega⟩
    ·obtain⟨_,r1,h1,h2⟩:=bind_ok h
     obtain⟨a1,a2,a3⟩:=I.atom hg h1
     obtain⟨b1,b2,b3⟩:=I.args a2 a1 h2
     exact⟨b1,b2,by omega⟩
  ·intro s a p r v r' hg he h
   rw[gConArgs] at h
   split at h
   ·obtain⟨x,r1,h1,h2⟩:=bind_ok h
    obtain⟨a1,a2,a3⟩:=I.atom hg h1
    obtain⟨b1,b2,b3⟩:=I.con a2 (ex_conAdd he a1) h2
    rw[szExs_app] at b3
    simp only[szExs] at b3
    exact⟨b1,b2,by omega⟩
   ·cases h;exact⟨he,hg,by simp only[szEx,szPts];omega⟩
  ·intro e r v r' hg he h
   rw[gAppArgs] at h
   split at h
   ·obtain⟨_,r1,h1,h2⟩:=bind_ok h
    obtain⟨a1,a2,a3⟩:=I.atom hg h1
    obtain⟨b1,b2,b3⟩:=I.args a2 (ex_app (p:=exAt e) he a1) h2
    simp only[szEx,szPts,szExs] at b3
    exact⟨b1,b2,by omega⟩
   ·cases h;exact⟨he,hg,Nat.le_refl _⟩
  ·intro r v r' hg h
   rw[gAtom] at h
   split at h
   ·rename_i q
    cases h
    have l0:=tail_lt (by decide) q
    obtain⟨u1,u2⟩:=low_of hg q
    rw[u2]
    exact⟨ex_var u1,hg.tail,by simp only[szEx,szPts,szExs];omega⟩
   ·split at h
    ·rename_i q
     cases h
     have l0:=tail_lt (by decide) q
     obtain⟨u1,u2⟩:=int_of hg q
     rw[u1]
     exact⟨ex_int u2,hg.tail,by simp only[szEx,szPts,szExs];omega⟩
    ·split at h
     ·rename_i q
      cases h
      have l0:=tail_lt (by decide) q
      obtain⟨u1,u2⟩:=up_of hg q
      rw[u2]
      exact⟨ex_con0 u1,hg.tail,by simp only[szEx,szPts,szExs];omega⟩
     ·obtain⟨_,r1,h1,h2⟩:=bind_ok h
      obtain⟨_,r2,h3,h4⟩:=bind_ok h2
      obtain⟨_,r3,h5,h6⟩:=bind_ok h4
      obtain⟨rfl,q1⟩:=need_ok' h1
      have l1:=tail_lt' (by decide) q1
      obtain⟨a1,a2,a3⟩:=I.ex hg.tail h3
      obtain⟨rfl,q2⟩:=need_ok' h5
      have l2:=tail_lt' (by decide) q2
      cases h6
      exact⟨a1,a2.tail,by omega⟩
def FsOk(l:List Ty):Prop:=∀t∈l,okTy t=true∧ndTy t≤20000
theorem gFields_ok:∀(n:Nat) {l:List Ty} {r:List Pk} {v r'},AG X r→r.length≤5000→FsOk l→gFields en n l r=.ok v r'→FsOk v∧AG X r'
 |0,_,_,_,_,_,_,_,h=>by simp[gFields] at h
 |n+1,l,r,v,r',hg,hl,hf,h=>by
  rw[gFields] at h
  split at h
  ·obtain⟨u,r1,h1,h2⟩:=bind_ok h
   obtain⟨a1,a2,a3⟩:=(gTy_ok (en:=en) n).2.2.2 _ _ _ hg h1
   exact gFields_ok n a2 (by omega) (λt ht=>by
    rcases List.mem_append.1 ht with ht|ht
    ·exact hf t ht
    ·rw[List.mem_singleton.1 ht];exact⟨a1,by omega⟩) h2
  ·cases h;exact⟨hf,hg⟩
def CsOk(l:List Cn):Prop:=∀c∈l,wUp c.s=true∧FsOk c.fs
theorem gCons_ok:∀(n:Nat) {l:List Cn} {r:List Pk} {v r'},AG X r→r.length≤5000→CsOk l→gCons en n l r=.ok v r'→CsOk v∧v≠[]∧AG X r'
 |0,_,_,_,_,_,_,_,h=>by simp[gCons] at h
 |n+1,l,r,v,r',hg,hl,hf,h=>by
  rw[gCons] at h
  obtain⟨s,r1,h1,h2⟩:=bind_ok h
  obtain⟨a,r2,h3,h4⟩:=bind_ok h2
  obtain⟨rfl,rfl,q1⟩:=word_ok' h1
  have l1:=tail_lt (by decide) q1
  have l2:=gFields_len n h3
  obtain⟨a1,a2⟩:=gFields_ok n hg.tail (by omega) (λt ht=>by cases ht) h3
  have hc:CsOk (l++[⟨txK r,a⟩]):=λc hc=>by
   rcases List.mem_append.1 hc with hc|hc
   ·exact hf c hc
   ·rw[List.mem_singleton.1 hc];exact⟨(up_of hg q1).1,a1⟩
  split at h4
  ·rename_i q
   have l0:=tail_lt' (by decide) q
   exact gCons_ok n a2.tail (by omega) hc h4
  ·cases h4
   exact⟨hc,by simp,a2⟩
theorem gParams_ok:∀{r:List Pk},AG X r→(∀s∈(gParams r).1,wVar s=true)∧AG X (gParams r).2
 |[],h=>⟨λs hs=>(by cases hs),h⟩
 |t::r,h=>by
  have ih:=gParams_ok (r:=r) (AG.tail h)
  unfold gParams
  split
  ·rename_i q
   refine⟨λs hs=>?_,ih.2⟩
   rcases List.mem_cons.1 hs with rfl|hs
   ·exact(h.mem t (by simp)).var (by simpa using q)
   ·exact ih.1 s hs
  ·exact⟨λs hs=>(by cases hs),h⟩
structure DOk(d:Dc):Prop where
 s:wLow d.s=true
 ps:∀s∈d.ps,wVar s=true
 cs:CsOk d.cs
 ne:d.cs≠[]
theorem gDecl_ok{n:Nat}{r:List Pk}{v r'}(hg:AG X r)(hl:r.length≤5000)(h:gDecl en n r=.ok v r'):DOk v∧AG X r':=by
 unfold gDecl at h
 obtain⟨_,r1,h1,h2⟩:=bind_ok h
 obtain⟨_,r2,h3,h4⟩:=bind_ok h2
 obtain⟨_,r3,h5,h6⟩:=bind_ok h4
 obtain⟨_,r4,h7,h8⟩:=bind_ok h6
 obtain⟨_,r5,h9,h10⟩:=bind_ok h8
 obtain⟨rfl,q1⟩:=need_ok' h1
 obtain⟨rfl,rfl,q2⟩:=word_ok' h3
 obtain⟨p1,p2⟩:=gParams_ok hg.tail.tail
 obtain⟨rfl,q3⟩:=need_ok' h5
 have l1:=tail_lt' (by decide) q1
 have l2:=tail_lt (by decide) q2
 have l3:=tail_lt' (by decide) q3
 have l4:=gParams_len r.tail.tail
 obtain⟨c1,c2,c3⟩:=gCons_ok n p2.tail (by omega) (λc hc=>by cases hc) h7
 obtain⟨rfl,q4⟩:=need_ok' h9
 cases h10
 exact⟨⟨(low_of hg.tail q2).1,p1,c1,c2⟩,c3.tail⟩
structure POk(v:Pg):Prop where
 ds:∀d∈v.ds,DOk d
 ok:okEx v.e=true
 sz:szEx v.e≤20000
theorem gProg_ok:∀(n:Nat) {l:List Dc} {r:List Pk} {v r'},AG X r→r.length≤5000→(∀d∈l,DOk d)→gProg en n l r=.ok v r'→POk v
 |0,_,_,_,_,_,_,_,h=>by simp[gProg] at h
 |n+1,l,r,v,r',hg,hl,hd,h=>by
  rw[gProg] at h
  split at h
  ·obtain⟨d,r1,h1,h2⟩:=bind_ok h
   obtain⟨a1,a2⟩:=gDecl_ok hg hl h1
   have l1:=gDecl_len h1
   exact gProg_ok n a2 (by omega) (λx hx=>by
    rcases List.mem_append.1 hx with hx|hx
    ·exact hd x hx
    ·rw[List.mem_singleton.1 hx];exact a1) h2
  ·obtain⟨e,r1,h1,h2⟩:=bind_ok h
   obtain⟨a1,a2,a3⟩:=(exOk n).ex hg h1
   split at h2
   ·cases h2
    exact⟨hd,a1,by show szEx e≤_;omega⟩
   ·cases h2
mutual
theorem dp_nd:∀t:Ty,dpTy t≤ndTy t
 |.mk _ _ _ a=>by
  have:=dps_nds a
  simp only[dpTy,ndTy];omega
theorem dps_nds:∀l:List Ty,dpTys l≤ndTys l
 |[]=>Nat.le_refl _
 |x::l=>by
  have h1:=dp_nd x
  have h2:=dps_nds l
  simp only[dpTys,ndTys];omega
end
mutual
theorem dp_szP:∀t:Pt,dpPt t≤szPt t
 |.mk _ _ _ a _=>by
  have:=dps_szPs a
  simp only[dpPt,szPt];omega
theorem dps_szPs:∀l:List Pt,dpPts l≤szPts l
 |[]=>Nat.le_refl _
 |x::l=>by
  have h1:=dp_szP x
  have h2:=dps_szPs l
  simp only[dpPts,szPts];omega
end
mutual
theorem dp_szE:∀t:Ex',dpEx t≤szEx t
 |.mk _ _ _ _ a b _=>by
  have h1:=dps_szEs a
  have h2:=dps_szPs b
  simp only[dpEx,szEx];omega
theorem dps_szEs:∀l:List Ex',dpExs l≤szExs l
 |[]=>Nat.le_refl _
 |x::l=>by
  have h1:=dp_szE x
  have h2:=dps_szEs l
  simp only[dpExs,szExs];omega
end
theorem wordB_len{low:Bool}{s:Str}(h:wordB low s=true):s.length≤32:=by
 cases s with
 |nil=>cases h
 |cons c r=>
  simp only[wordB,Bool.and_eq_true,decide_eq_true_eq] at h
  rw[List.length_cons]
  omega
theorem wLow_len{s:Str}(h:wLow s=true):s.length≤32:=by
 unfold wLow at h
 rw[Bool.and_eq_true] at h
 exact wordB_len h.1
mutual
theorem ok_vr:∀t:Ty,okTy t=true→vrTy t=true
 |.mk k s n a,h=>by
  simp only[okTy,Bool.and_eq_true] at h
  have h2:=oks_vrs a h.2
  have hs:s.length<2^40:=by
   have h1:=h.1
   simp only[okTy1,Bool.and_eq_true] at h1
   have h1:=h1.1
   by_cases k1:k=1
   ·simp[k1] at h1;simp[h1.1]
   ·by_cases k2:k=2
    ·simp[k2] at h1
     have:=wordB_len h1.1
     omega
    ·by_cases k3:k=3
     ·simp[k3] at h1;simp[h1.1]
     ·by_cases k4:k=4
      ·simp[k4] at h1
       have:=wLow_len h1.1
       omega
      ·simp[k1,k2,k3,k4] at h1
  simp only[vrTy,h2,Bool.and_true]
  exact decide_eq_true hs
theorem oks_vrs:∀l:List Ty,okTys l=true→vrTys l=true
 |[],_=>rfl
 |x::l,h=>by
  simp only[okTys,Bool.and_eq_true] at h
  simp only[vrTys,ok_vr x h.1,oks_vrs l h.2,Bool.and_true]
end
theorem POk.pre{v:Pg}(h:POk v):Pre v where
 sz:=h.sz
 dp:=Nat.le_trans (dp_szE v.e) h.sz
 ds:=λd hd=>by
  have hk:=h.ds d hd
  refine⟨λs hs=>?_,λc hc t ht=>?_⟩
  ·have:=wordB_len (hk.ps s hs)
   omega
  ·obtain⟨t1,t2⟩:=(hk.cs c hc).2 t ht
   exact⟨t2,Nat.le_trans (dp_nd t) t2,ok_vr t t1⟩
end Go.Proofs.YtmlghadphdpbjaaGreatDoor.Pa
namespace Go.Proofs.YtmlghadphdpbjaaGreatDoor.Pa
open Go Go.Proofs.YtmlghadphdpbjaaGreatDoor.Am
variable{s:Str}{g:Glob}{Qf:OGP}
theorem lexF_err:∀(n a:Nat) (u:Str) (acc:List Pk) (b:Nat) (e:Int),u.length<n→lexF n a u acc=.err b e→e≠0∧b≤a+u.length
 |0,_,_,_,_,_,h,_=>by omega
 |n+1,a,u,acc,b,e,hn,h=>by
  rw[lexF] at h
  have hsk:=skipN_le u
  split at h
  ·cases h
  ·rename_i c r hd
   have hl:(c::r).length=u.length-skipN u:=by rw[←hd];exact List.length_drop ..
   split at h
   ·rename_i he
    have h0:(tokF (c::r)).2.2=0:=by
     unfold lexErr at he
     split at he
     ·cases he
     ·exact he
    obtain⟨_,m1,m2⟩:=tokF_good (p:=0) (Int.le_refl _) h0
    have hld:((c::r).drop (tokF (c::r)).2.1).length=(c::r).length-(tokF (c::r)).2.1:=List.length_drop ..
    obtain⟨k1,k2⟩:=lexF_err n _ _ _ b e (by omega) h
    exact⟨k1,by omega⟩
   ·rename_i he
    injection h with h1 h2
    subst h1 h2
    exact⟨he,by omega⟩
theorem lexAll_err{b:Nat}{e:Int}(h:lexAll s=.err b e):e≠0∧b≤s.length:=by
 unfold lexAll at h
 split at h
 ·injection h with h1 h2
  subst h1 h2
  exact⟨by decide,Nat.zero_le _⟩
 ·obtain⟨k1,k2⟩:=lexF_err _ _ _ _ _ _ (by omega) h
  exact⟨k1,by omega⟩
theorem lexAll_good{l:List Pk}(h:lexAll s=.ok l):(∀t∈l,GoodTk t)∧l.length≤4096:=by
 unfold lexAll at h
 split at h
 ·cases h
 ·exact lexF_good _ _ _ _ l (λt ht=>by cases ht) (by simp) h
inductive ParseR where
 |ok (v:Pg)
 |err (p e:Int)
def parseAll(s:Str):ParseR:=
 match lexAll s with
 |.err a e=>.err a e
 |.ok l=>match gProg s.length (16*l.length+9) [] l with
  |.ok v _=>if limF (!flEx v.e) v=0 then .ok v else .err 0 (limF (!flEx v.e) v)
  |.bad p=>.err p 120
  |.oof=>.err 0 0
def PEnd(Qf:OGP):ParseR→Prop
 |.ok v=>∀d g',absPg d=v→HasTy TT 44 d→Qf (.val (ansT d 0 0)) g'
 |.err p e=>∀g',Qf (.val (ansT zPg p e)) g'
theorem szTok:TT.size 109=some 4:=by kernel_rfl
theorem byTok:TT.bytes 109=some 40:=by kernel_rfl
theorem toks_ty{l:List Pk}(hg:∀t∈l,GoodTk t)(hl:l.length≤4096):HasTy TT 80 (slOf 4 (l.map pkD)):=
 sl_ty undToks szTok (slfit byTok (by decide) (by rw[List.length_map];omega)) λx hx=>by
  obtain⟨t,ht,rfl⟩:=List.mem_map.1 hx
  exact ty_tok (hg t ht).str
theorem pgback{x:Dat}(hx:HasTy TT 44 x)(h:Qf (.val (ansT x 0 0)) g):Qf (Out.val (Val.tuple [Val.d (Dat.agg [fld x 0,Dat.int IntKind.i64 (intOf (fld x 1)),Dat.str (strOf (fld x 2)),Dat.str (strOf (fld x 3)),Dat.int IntKind.i64 (intOf (fld x 4)),fld x 5,fld x 6,Dat.int IntKind.i64 (intOf (fld x 7))]),Val.d (Dat.int IntKind.i64 0),Val.d (Dat.int IntKind.i64 0)])) g:=by
 obtain⟨d1,k1,s1,r1,n1,a1,b1,p1,rfl,hd1,he1⟩:=prog_ty hx
 exact h
theorem pParse_ok(hs:s.length≤2^40)(hQ:PEnd Qf (parseAll s)):EvF TT 17 [.str s] g Qf:=by
 unfold parseAll at hQ
 refine w17 hs (plex_ok hs ?_)
 cases hl:lexAll s with
 |err a e=>
  rw[hl] at hQ
  intro us hus
  exact⟨.nil,.nil _ (by kernel_rfl),_,_,hus,Br_of (by simpa[bne] using(lexAll_err hl).1) (hQ g)⟩
 |ok l=>
  rw[hl] at hQ
  dsimp only at hQ
  obtain⟨hg,hlen⟩:=lexAll_good hl
  intro us hus
  refine⟨_,toks_ty hg hlen,_,_,hus,Br_no rfl ?_⟩
  refine parsed_ok (ts:=l) (n:=16*l.length+9) (by rw[slOf_els]) (toks_ty hg hlen) hlen hg (Int.natCast_nonneg _) ?_
  cases hp:gProg s.length (16*l.length+9) [] l with
  |oof=>exact absurd hp (gProg_ne _ (Nat.le_refl _))
  |bad p=>
   rw[hp] at hQ
   exact λg'=>⟨zPg,zPg_ty,_,_,⟨rfl,rfl,rfl,trivial⟩,Br_no rfl (Br_of rfl (hQ g'))⟩
  |ok v r'=>
   rw[hp] at hQ
   have hok:=gProg_ok _ ⟨List.suffix_refl _,hg⟩ (by omega) (λd hd=>by cases hd) hp
   intro d g' hd ht
   refine⟨d,ht,_,_,⟨rfl,rfl,rfl,trivial⟩,Br_of rfl (limited_ok ht (by rw[hd];exact hok.pre) ⟨_,rfl,?_⟩)⟩
   rw[hd,nw_flEx _ hok.ok]
   refine Br_iff.2 ⟨λq=>?_,λq=>pgback ht ?_⟩
   ·have hQ:PEnd Qf (if limF (!flEx v.e) v=0 then .ok v else .err 0 (limF (!flEx v.e) v)):=hQ
    rw[if_neg (by simpa[bne] using q)] at hQ
    exact hQ g'
   ·have hQ:PEnd Qf (if limF (!flEx v.e) v=0 then .ok v else .err 0 (limF (!flEx v.e) v)):=hQ
    rw[if_pos (by simpa[bne] using q)] at hQ
    exact hQ d g' hd ht
end Go.Proofs.YtmlghadphdpbjaaGreatDoor.Pa
