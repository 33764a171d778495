/- What was written is read: expressions. What was written is read: all of an expression. What was written is read: declared types, programs. -/
import Derived.Test.YtmlghadphdpbjaaGreatDoorVA
set_option linter.all false
set_option autoImplicit false
set_option maxRecDepth 100000
namespace Go.Proofs.YtmlghadphdpbjaaGreatDoor.Pa
open Go Go.Proofs.YtmlghadphdpbjaaGreatDoor.Am
structure EStop(X:List Pk):Prop where
 at':atNext X=false
 sg:∀l,sgNext l X=false
 se:isK' 6 sSemi X=false
theorem sg3{r:List Pk}(h0:sgNext 0 r=false)(h1:sgNext 1 r=false)(h2:sgNext 2 r=false):∀l,sgNext l r=false
 |0=>h0
 |1=>h1
 |_+2=>h2
theorem est_nil:EStop []:=⟨rfl,sg3 rfl rfl rfl,rfl⟩
theorem est_close{p:Int}{Y:List Pk}:EStop (((6,sClose,0),p)::Y):=⟨rfl,sg3 rfl rfl rfl,rfl⟩
theorem est_in{p:Int}{Y:List Pk}:EStop (((5,kIn,0),p)::Y):=⟨rfl,sg3 rfl rfl rfl,rfl⟩
theorem est_of{p:Int}{Y:List Pk}:EStop (((5,kOf,0),p)::Y):=⟨rfl,sg3 rfl rfl rfl,rfl⟩
theorem est_bar{p:Int}{Y:List Pk}:EStop (((6,sBar,0),p)::Y):=⟨rfl,sg3 rfl rfl rfl,rfl⟩
theorem est_end{p:Int}{Y:List Pk}:EStop (((5,kEnd,0),p)::Y):=⟨rfl,sg3 rfl rfl rfl,rfl⟩
variable{en:Int}
theorem noExs{a:List Ex'}(h:(a.length:Int)=0):a=[]:=List.eq_nil_of_length_eq_zero (by omega)
def AtTok(l:List Pk):Prop:=∃k s n p l',l=((k,s,n),p)::l'∧(k=1∨k=2∨k=4∨(k=6∧s=sOpen))
def HdTok(l:List Pk):Prop:=∃k s n p l',l=((k,s,n),p)::l'∧(k=1∨k=4∨(k=6∧s=sOpen))
def LvTok(l:List Pk):Prop:=∃k s n p l',l=((k,s,n),p)::l'∧(k=1∨k=2∨k=4∨(k=6∧s=sOpen)∨(k=5∧s=kPrint))
theorem HdTok.at'{l:List Pk}(h:HdTok l):AtTok l:=by
 obtain⟨k,s,n,p,l',e,h⟩:=h
 exact⟨k,s,n,p,l',e,by rcases h with h|h|h<;>simp[h]⟩
theorem AtTok.lv{l:List Pk}(h:AtTok l):LvTok l:=by
 obtain⟨k,s,n,p,l',e,h⟩:=h
 exact⟨k,s,n,p,l',e,by rcases h with h|h|h|h<;>simp[h]⟩
theorem AtTok.next{l Y:List Pk}(h:AtTok l):atNext (l++Y)=true:=by
 obtain⟨k,s,n,p,l',rfl,h⟩:=h
 rcases h with rfl|rfl|rfl|⟨rfl,rfl⟩<;>rfl
theorem HdTok.no{l Y:List Pk}(h:HdTok l):(kdK (l++Y)==2)=false∧isK' 5 kPrint (l++Y)=false:=by
 obtain⟨k,s,n,p,l',rfl,h⟩:=h
 rcases h with rfl|rfl|⟨rfl,rfl⟩<;>exact⟨rfl,by simp[isK',kdK]⟩
theorem LvTok.no{l Y:List Pk}(h:LvTok l):isK' 5 kFun (l++Y)=false∧isK' 5 kLet (l++Y)=false∧isK' 5 kIf (l++Y)=false∧isK' 5 kCase (l++Y)=false:=by
 obtain⟨k,s,n,p,l',rfl,h⟩:=h
 rcases h with rfl|rfl|rfl|⟨rfl,rfl⟩|⟨rfl,rfl⟩<;>refine⟨?_,?_,?_,?_⟩<;>simp[isK',kdK,txK,kPrint,kFun,kLet,kIf,kCase]
theorem LvTok.app{l m:List Pk}(h:LvTok l):LvTok (l++m):=by
 obtain⟨k,s,n,p,l',rfl,h⟩:=h
 exact⟨k,s,n,p,_,rfl,h⟩
theorem HdTok.app{l m:List Pk}(h:HdTok l):HdTok (l++m):=by
 obtain⟨k,s,n,p,l',rfl,h⟩:=h
 exact⟨k,s,n,p,_,rfl,h⟩
theorem AtTok.len{l:List Pk}(h:AtTok l):1≤l.length:=by
 obtain⟨k,s,n,p,l',rfl,h⟩:=h
 simp
theorem okEx_inv{k n p:Int}{s r:Str}{a:List Ex'}{b:List Pt}(h:okEx (.mk k s r n a b p)=true):ExK k s r n a.length b.length∧okPts b=true∧okExs a=true:=by
 unfold okEx at h
 rw[Bool.and_eq_true,Bool.and_eq_true] at h
 exact⟨okEx1_inv h.1,h.2.1,h.2.2⟩
theorem brkTok{ks:List Tk}{l:List Pk}(h:Is l (qbrk true ks)):HdTok l:=by
 obtain⟨p,l',q,rfl,_⟩:=is_brk h
 exact⟨6,sOpen,0,p,_,rfl,.inr (.inr ⟨rfl,rfl⟩)⟩
theorem atomTok{e:Ex'}{l:List Pk}(ho:okEx e=true)(h:Is l (qbrk (!(atomK e)) (qEx e))):AtTok l:=by
 cases hb:!(atomK e) with
 |true=>rw[hb] at h;exact(brkTok h).at'
 |false=>
  rw[hb] at h
  obtain⟨k,s,r,n,a,b,p⟩:=e
  have h:Is l (qEx (.mk k s r n a b p)):=h
  obtain⟨hk,_,_⟩:=okEx_inv ho
  unfold qEx at h
  have hb:(k==1||(k==2||k==8&&a.isEmpty))=true:=by
   have:atomK (.mk k s r n a b p)=(k==1||(k==2||k==8&&a.isEmpty)):=rfl
   rw[←this]
   simpa using hb
  by_cases h1:k=1
  ·subst h1
   obtain⟨q,rfl⟩:=is_one h
   exact⟨1,s,0,q,_,rfl,.inl rfl⟩
  by_cases h2:k=2
  ·subst h2
   obtain⟨q,rfl⟩:=is_one h
   exact⟨4,[],n,q,_,rfl,.inr (.inr (.inl rfl))⟩
  have h8:k=8:=by simp[h1,h2] at hb;exact hb.1
  subst h8
  obtain⟨q,l',rfl,_⟩:=is_cons h
  exact⟨2,s,0,q,_,rfl,.inr (.inl rfl)⟩
theorem headTok:∀(k:Nat) {e:Ex'} {l:List Pk},SizeOf.sizeOf e<k→okEx e=true→Is l (qbrk (!(kEx e==4)&&(kEx e==8||!(atomK e))) (qEx e))→HdTok l
 |0,_,_,hk,_,_=>by omega
 |K+1,e,l,hk,ho,h=>by
  cases hb:(!(kEx e==4)&&(kEx e==8||!(atomK e))) with
  |true=>rw[hb] at h;exact brkTok h
  |false=>
   rw[hb] at h
   obtain⟨k,s,r,n,a,b,p⟩:=e
   have h:Is l (qEx (.mk k s r n a b p)):=h
   obtain⟨hk',_,ho3⟩:=okEx_inv ho
   have hb:(!(k==4)&&(k==8||!(k==1||(k==2||k==8&&a.isEmpty))))=false:=hb
   unfold qEx at h
   by_cases h1:k=1
   ·subst h1
    obtain⟨q,rfl⟩:=is_one h
    exact⟨1,s,0,q,_,rfl,.inl rfl⟩
   by_cases h2:k=2
   ·subst h2
    obtain⟨q,rfl⟩:=is_one h
    exact⟨4,[],n,q,_,rfl,.inr (.inl rfl)⟩
   by_cases h4:k=4
   ·subst h4
    have ha:(a.length:Int)=2:=by
     rcases hk' with h|h|h|h|h|h|h|h|h|h<;>first|exact h.2.2.2.2.1|(exact absurd h.1 (by decide))
    obtain⟨x,y,rfl⟩:=twoOf ha
    have h:Is l (qH0 [x,y]):=h
    unfold qH0 at h
    obtain⟨l1,l2,rfl,i1,i2⟩:=is_app h
    unfold okExs at ho3
    rw[Bool.and_eq_true] at ho3
    exact(headTok K (by simp at hk⊢;omega) ho3.1 i1).app
   ·exfalso
    simp[h1,h2,h4] at hb
    exact h2 (by omega)
theorem lev3{m:Nat}{r Y:List Pk}{e:Ex'}(h:gApp en m r=.ok e Y):gLev en (m+1) 3 r=.ok e Y:=by rw[gLev,if_pos (by decide)];exact h
theorem ops_no{m l:Nat}{e:Ex'}{Y:List Pk}(h:sgNext l Y=false):gOps en (m+1) l e Y=.ok e Y:=by rw[gOps,h];rfl
theorem lev_down{m l:Nat}{r Y:List Pk}{e:Ex'}(hl:l<3)(h:gLev en (m+1) (l+1) r=.ok e Y)(hs:sgNext l Y=false):gLev en (m+2) l r=.ok e Y:=by
 rw[gLev,if_neg (by simp;omega),h]
 exact ops_no hs
theorem lev2{m:Nat}{r Y:List Pk}{e:Ex'}(h:gApp en m r=.ok e Y)(h2:sgNext 2 Y=false):gLev en (m+2) 2 r=.ok e Y:=lev_down (by omega) (lev3 h) h2
theorem lev1{m:Nat}{r Y:List Pk}{e:Ex'}(h:gApp en m r=.ok e Y)(h2:sgNext 2 Y=false)(h1:sgNext 1 Y=false):gLev en (m+3) 1 r=.ok e Y:=lev_down (by omega) (lev2 h h2) h1
theorem lev0{m:Nat}{r Y:List Pk}{e:Ex'}(h:gApp en m r=.ok e Y)(h2:sgNext 2 Y=false)(h1:sgNext 1 Y=false)(h0:sgNext 0 Y=false):gLev en (m+4) 0 r=.ok e Y:=lev_down (by omega) (lev1 h h2 h1) h0
structure RE(en:Int)(n:Nat):Prop where
 atom:∀(e:Ex') (l X:List Pk),okEx e=true→Is l (qbrk (!(atomK e)) (qEx e))→8*l.length≤n→∃e',gAtom en n (l++X)=.ok e' X∧exW PT e e'
 con:∀(a:List Ex') (k m p:Int) (s r:Str) (pre:List Ex') (b:List Pt) (l X:List Pk),okExs a=true→Is l (qAs a)→atNext X=false→8*l.length+1≤n→∃a',gConArgs en n (.mk k s r m pre b p) (l++X)=.ok (.mk k s r m (pre++a') b p) X∧exsW PT a a'
 ex:∀(e:Ex') (l X:List Pk),okEx e=true→Is l (qEx e)→EStop X→8*l.length+7≤n→∃e',gEx en n (l++X)=.ok e' X∧exW PT e e'
 exb:∀(e:Ex') (l X:List Pk),okEx e=true→atomK e=false→Is l (qbrk true (qEx e))→EStop X→8*l.length+7≤n→∃e',gEx en n (l++X)=.ok e' X∧exW PT e e'
 app:∀(e:Ex') (l X:List Pk),okEx e=true→(kEx e=1∨kEx e=2∨kEx e=4∨kEx e=8∨kEx e=10)→Is l (qEx e)→atNext X=false→8*l.length+2≤n→∃e',gApp en n (l++X)=.ok e' X∧exW PT e e'
 appA:∀(e:Ex') (l X:List Pk),okEx e=true→Is l (qbrk (!(atomK e)) (qEx e))→atNext X=false→8*l.length+2≤n→∃e',gApp en n (l++X)=.ok e' X∧exW PT e e'
 let':∀(x y:Ex') (k m p:Int) (s r:Str) (l X:List Pk),okEx x=true→okEx y=true→Is l ([(6,sEq,0)]++qIn [x,y])→EStop X→8*l.length≤n→∃x' y',gLet en n (.mk k s r m [] [] p) (l++X)=.ok (.mk k s r m [x',y'] [] p) X∧exW PT x x'∧exW PT y y'
 br:∀(q:Pt) (b:List Pt) (x:Ex') (a:List Ex') (k m p:Int) (s r:Str) (pre:List Ex') (preb:List Pt) (l X:List Pk),b.length=a.length→okPts (q::b)=true→okExs (x::a)=true→
  Is l (qPt q++([(6,sArrow,0)]++(qbrk (branchK (kEx x)) (qEx x)++qBr (6,sBar,0) b a)))→8*l.length+1≤n→
  ∃a' b',gBr en n (.mk k s r m pre preb p) (l++X)=.ok (.mk k s r m (pre++a') (preb++b') p) X∧exsW PT (x::a) a'∧ptsW PT (q::b) b'
theorem spine{n:Nat}(hA:∀m,m≤n→RE en m):∀(K:Nat) (e:Ex') (l Y:List Pk),SizeOf.sizeOf e<K→okEx e=true→Is l (qbrk (!(kEx e==4)&&(kEx e==8||!(atomK e))) (qEx e))→8*l.length≤n→
 ∃e' j,j+1≤l.length∧exW PT e e'∧((gAtom en n (l++Y)).bind λe r=>gAppArgs en n e r)=gAppArgs en (n-j) e' Y
 |0,_,_,_,hk,_,_,_=>by omega
 |K+1,e,l,Y,hk,ho,h,hn=>by
  by_cases h4:kEx e=4
  ·obtain⟨k,s,r,m,a,b,p⟩:=e
   have h4:k=4:=h4
   subst h4
   obtain⟨hk',_,ho3⟩:=okEx_inv ho
   have ⟨hs,hr,hm,ha,hb⟩:s=[]∧r=[]∧m=0∧(a.length:Int)=2∧(b.length:Int)=0:=by
    rcases hk' with h|h|h|h|h|h|h|h|h|h<;>first|exact h.2|(exact absurd h.1 (by decide))
   subst hs hr hm
   have hb:=noPts hb
   subst hb
   obtain⟨x,y,rfl⟩:=twoOf ha
   have h:Is l (qH0 [x,y]):=h
   unfold qH0 qA0 at h
   obtain⟨l1,l2,rfl,i1,i2⟩:=is_app h
   have i2:Is l2 (qbrk (!(atomK y)) (qEx y)):=i2
   unfold okExs okExs at ho3
   rw[Bool.and_eq_true,Bool.and_eq_true] at ho3
   obtain⟨ox,oy,_⟩:=ho3
   rw[List.length_append] at hn
   obtain⟨x',j,hj,ex,hx⟩:=spine hA K x l1 (l2++Y) (by simp at hk⊢;omega) ox i1 (by omega)
   have ty:=atomTok oy i2
   have hlen:=ty.len
   obtain⟨q,hq⟩:∃q,n-j=q+1:=⟨n-j-1,by omega⟩
   obtain⟨y',hy,ey⟩:=(hA q (by omega)).atom y l2 Y oy i2 (by omega)
   refine⟨.mk 4 [] [] 0 [x',y'] [] (exAt x'),j+1,by rw[List.length_append];omega,mkW (ecW ex (ecW ey e0W)) p0W trivial,?_⟩
   rw[List.append_assoc,hx,hq,gAppArgs,ty.next,if_pos rfl,hy,ok_bind]
   congr 1
   omega
  ·have hb:(!(kEx e==4)&&(kEx e==8||!(atomK e)))=(kEx e==8||!(atomK e)):=by simp[h4]
   rw[hb] at h
   have hh:∃e',gAtom en n (l++Y)=.ok e' Y∧exW PT e e':=by
    cases ha:!(atomK e) with
    |true=>
     have h':Is l (qbrk (!(atomK e)) (qEx e)):=by
      rw[ha] at h⊢
      simpa using h
     exact(hA n (Nat.le_refl _)).atom e l Y ho h' hn
    |false=>
     rw[ha,Bool.or_false] at h
     cases h8:kEx e==8 with
     |false=>
      rw[h8] at h
      exact(hA n (Nat.le_refl _)).atom e l Y ho (by rw[ha];exact h) hn
     |true=>
      rw[h8] at h
      obtain⟨p,l',q,rfl,h'⟩:=is_brk h
      simp only[List.length_cons,List.length_append,List.length_nil] at hn
      obtain⟨j,rfl⟩:∃j,n=j+1:=⟨n-1,by omega⟩
      obtain⟨e',e1,e2⟩:=(hA j (by omega)).ex e l' (((6,sClose,0),q)::Y) ho h' est_close (by omega)
      refine⟨e',?_,e2⟩
      rw[gAtom,List.cons_append,List.append_assoc,if_neg (by simp[kdK]),if_neg (by simp[kdK]),if_neg (by simp[kdK]),need_hit]
      simp only[ok_bind,List.cons_append,List.nil_append,e1,need_hit]
   obtain⟨e',h1,h2⟩:=hh
   have hlen:1≤l.length:=by
    obtain⟨k,s,m,p,l',rfl,_⟩:=headTok (SizeOf.sizeOf e+1) (Nat.lt_succ_self _) ho (l:=l) (by rw[hb];exact h)
    simp
   exact⟨e',0,by omega,h2,by rw[h1];rfl⟩
end Go.Proofs.YtmlghadphdpbjaaGreatDoor.Pa
namespace Go.Proofs.YtmlghadphdpbjaaGreatDoor.Pa
open Go Go.Proofs.YtmlghadphdpbjaaGreatDoor.Am
variable{en:Int}
theorem op_lev{s:Str}(h:pos0 (opN s)=true):∃L,L<3∧∀(p:Int) (r:List Pk),sgNext L (((6,s,0),p)::r)=true∧(∀L',L'≠L→L'<3→sgNext L' (((6,s,0),p)::r)=false)∧atNext (((6,s,0),p)::r)=false:=by
 have hm:s∈opL:=by
  have key:∀(l:List Str) (i:Int),0<i→ixF s l i≠0→s∈l:=by
   intro l
   induction l with
   |nil=>intro i _ h;exact absurd rfl h
   |cons x l ih=>
    intro i hi h
    unfold ixF at h
    cases q:x==s with
    |true=>rw[beq_iff_eq.1 q];exact List.mem_cons_self
    |false=>rw[q] at h;exact List.mem_cons_of_mem _ (ih (i+1) (by omega) h)
  refine key opL 1 (by decide) λe=>?_
  unfold pos0 opN at h
  rw[e] at h
  cases h
 have go:∀L,L<3→(∀L',L'<3→(sgns L').any (λt=>t==s)=decide (L'=L))→(s==sOpen)=false→∃L,L<3∧∀(p:Int) (r:List Pk),sgNext L (((6,s,0),p)::r)=true∧(∀L',L'≠L→L'<3→sgNext L' (((6,s,0),p)::r)=false)∧atNext (((6,s,0),p)::r)=false:=λL hL h ho=>
  ⟨L,hL,λp r=>⟨by show(true&&(sgns L).any (λt=>t==s))=true;rw[h L hL];simp,λL' hne hL'=>by show(true&&(sgns L').any (λt=>t==s))=false;rw[h L' hL'];simp[hne],by
    show(false||false||false||(true&&(s==sOpen)))=false
    rw[ho];rfl⟩⟩
 have three:∀{P:Nat→Prop},P 0→P 1→P 2→∀L',L'<3→P L':=λh0 h1 h2 L' h=>by
  match L',h with
  |0,_=>exact h0
  |1,_=>exact h1
  |2,_=>exact h2
 simp only[opL,List.mem_cons,List.not_mem_nil,or_false] at hm
 rcases hm with rfl|rfl|rfl|rfl|rfl|rfl|rfl
 ·exact go 1 (by decide) (three (by decide) (by decide) (by decide)) (by decide)
 ·exact go 1 (by decide) (three (by decide) (by decide) (by decide)) (by decide)
 ·exact go 2 (by decide) (three (by decide) (by decide) (by decide)) (by decide)
 ·exact go 2 (by decide) (three (by decide) (by decide) (by decide)) (by decide)
 ·exact go 2 (by decide) (three (by decide) (by decide) (by decide)) (by decide)
 ·exact go 0 (by decide) (three (by decide) (by decide) (by decide)) (by decide)
 ·exact go 0 (by decide) (three (by decide) (by decide) (by decide)) (by decide)
theorem gEx_lev{n:Nat}{r:List Pk}{e:Ex'}{Y:List Pk}(hf:isK' 5 kFun r=false∧isK' 5 kLet r=false∧isK' 5 kIf r=false∧isK' 5 kCase r=false)(h:gLev en n 0 r=.ok e Y)(hs:isK' 6 sSemi Y=false):gEx en (n+1) r=.ok e Y:=by
 obtain⟨h1,h2,h3,h4⟩:=hf
 rw[gEx,h1,h2,h3,h4,if_neg (by simp),if_neg (by simp),if_neg (by simp),if_neg (by simp),h,ok_bind,hs]
 rfl
theorem gEx_fun{n:Nat}{q:Int}{r:List Pk}:gEx en (n+1) (((5,kFun,0),q)::r)=(word1 en 1 r).bind λx r=>(need en 6 sArrow r).bind λ_ r=>(gEx en n r).bind λe r=>.ok (.mk 3 x [] 0 [e] [] q) r:=by
 rw[gEx,if_pos (by simp[isK',kdK,txK])]
 rfl
theorem gEx_let{n:Nat}{q p:Int}{s:Str}{r:List Pk}:gEx en (n+1) (((5,kLet,0),q)::((1,s,0),p)::r)=gLet en n (.mk 5 s [] 0 [] [] q) r:=by
 rw[gEx,if_neg (by simp[isK',kdK,txK,kFun,kLet]),if_pos (by simp[isK',kdK,txK]),if_neg (by simp[isK',kdK]),List.tail_cons,word_hit]
 rfl
theorem gEx_rec{n:Nat}{q p p1 p2:Int}{s u:Str}{r:List Pk}:gEx en (n+1) (((5,kLet,0),q)::((5,kRec,0),p)::((1,s,0),p1)::((1,u,0),p2)::r)=gLet en n (.mk 6 s u 0 [] [] q) r:=by
 rw[gEx,if_neg (by simp[isK',kdK,txK,kFun,kLet]),if_pos (by simp[isK',kdK,txK]),if_pos (by simp[isK',kdK,txK]),List.tail_cons,List.tail_cons,word_hit,ok_bind,word_hit]
 rfl
theorem gEx_case{n:Nat}{q:Int}{r:List Pk}:gEx en (n+1) (((5,kCase,0),q)::r)=(gEx en n r).bind λa r=>(need en 5 kOf r).bind λ_ r=>gBr en n (.mk 7 [] [] 0 [a] [] q) r:=by
 rw[gEx,if_neg (by simp[isK',kdK,txK,kFun,kCase]),if_neg (by simp[isK',kdK,txK,kLet,kCase]),if_neg (by simp[isK',kdK,txK,kIf,kCase]),if_pos (by simp[isK',kdK,txK])]
 rfl
theorem RE.opers{n:Nat}(hR:RE en n)(hR':∀m,m≤n→RE en m){s:Str}(hs:pos0 (opN s)=true){x y:Ex'}{l1 l2 X:List Pk}{p:Int}(ox:okEx x=true)(oy:okEx y=true)(i1:Is l1 (qbrk (!(atomK x)) (qEx x)))(i2:Is l2 (qbrk (!(atomK y)) (qEx y)))(hX:EStop X)
 (hn:8*l1.length+8*l2.length+4≤n):∃x' y',gLev en (n+4) 0 (l1++(((6,s,0),p)::(l2++X)))=.ok (.mk 9 s [] 0 [x',y'] [] (exAt x')) X∧exW PT x x'∧exW PT y y':=by
 obtain⟨L,hL,hop⟩:=op_lev hs
 obtain⟨s1,s2,s3⟩:=hop p (l2++X)
 obtain⟨x',gx,ex⟩:=hR.appA x l1 (((6,s,0),p)::(l2++X)) ox i1 s3 (by omega)
 obtain⟨j,rfl⟩:∃j,n=j+1:=⟨n-1,by omega⟩
 obtain⟨y',gy,ey⟩:=(hR' j (by omega)).appA y l2 X oy i2 hX.at' (by omega)
 refine⟨x',y',?_,ex,ey⟩
 match L,hL with
 |2,_=>
  have g2:gLev en (j+1+2) 2 (l1++(((6,s,0),p)::(l2++X)))=.ok (.mk 9 s [] 0 [x',y'] [] (exAt x')) X:=by
   rw[gLev,if_neg (by simp),lev3 gx,ok_bind,gOps,s1,if_pos rfl,List.tail_cons,lev3 gy,ok_bind]
   obtain⟨i,rfl⟩:∃i,j=i+1:=⟨j-1,by omega⟩
   exact ops_no (hX.sg 2)
  exact lev_down (by omega) (lev_down (by omega) g2 (hX.sg 1)) (hX.sg 0)
 |1,_=>
  have g1:gLev en (j+1+3) 1 (l1++(((6,s,0),p)::(l2++X)))=.ok (.mk 9 s [] 0 [x',y'] [] (exAt x')) X:=by
   rw[gLev,if_neg (by simp),lev2 gx (s2 2 (by decide) (by decide)),ok_bind,gOps,s1,if_pos rfl,List.tail_cons,lev2 gy (hX.sg 2),ok_bind]
   exact ops_no (hX.sg 1)
  exact lev_down (by omega) g1 (hX.sg 0)
 |0,_=>
  rw[gLev,if_neg (by simp),lev1 gx (s2 2 (by decide) (by decide)) (s2 1 (by decide) (by decide)),ok_bind,gOps,s1,if_pos rfl,List.tail_cons,lev1 gy (hX.sg 2) (hX.sg 1),ok_bind]
  rfl
theorem rEx0:RE en 0 where
 atom:=λe l X ho h hn=>by have:=(atomTok ho h).len;omega
 con:=λ_ _ _ _ _ _ _ _ _ _ _ _ _ h=>by omega
 ex:=λ_ _ _ _ _ _ h=>by omega
 exb:=λ_ _ _ _ _ _ _ h=>by omega
 app:=λ_ _ _ _ _ _ _ h=>by omega
 appA:=λ_ _ _ _ _ _ h=>by omega
 let':=λx y k m p s r l X _ _ h _ hn=>by
  obtain⟨q,l',rfl,_⟩:=is_cons h
  simp at hn
 br:=λ_ _ _ _ _ _ _ _ _ _ _ _ _ _ _ _ _ h=>by omega
theorem rExS{n:Nat}(ih:∀m,m≤n→RE en m):RE en (n+1):=by
 have I:=ih n (Nat.le_refl _)
 have hatom:∀(e:Ex') (l X:List Pk),okEx e=true→Is l (qbrk (!(atomK e)) (qEx e))→8*l.length≤n+1→∃e',gAtom en (n+1) (l++X)=.ok e' X∧exW PT e e':=λe l X ho h hn=>by
  cases hb:!(atomK e) with
  |true=>
   rw[hb] at h
   obtain⟨p,l',q,rfl,h'⟩:=is_brk h
   simp only[List.length_cons,List.length_append,List.length_nil] at hn
   obtain⟨e',e1,e2⟩:=I.ex e l' (((6,sClose,0),q)::X) ho h' est_close (by omega)
   refine⟨e',?_,e2⟩
   rw[gAtom,List.cons_append,List.append_assoc,if_neg (by simp[kdK]),if_neg (by simp[kdK]),if_neg (by simp[kdK]),need_hit]
   simp only[ok_bind,List.cons_append,List.nil_append,e1,need_hit]
  |false=>
   rw[hb] at h
   obtain⟨k,s,r,m,a,b,p⟩:=e
   have h:Is l (qEx (.mk k s r m a b p)):=h
   obtain⟨hk,_,_⟩:=okEx_inv ho
   unfold qEx at h
   have hb:(k==1||(k==2||k==8&&a.isEmpty))=true:=by
    have:atomK (.mk k s r m a b p)=(k==1||(k==2||k==8&&a.isEmpty)):=rfl
    rw[←this]
    simpa using hb
   rcases hk with ⟨rfl,hs,rfl,rfl,ha,hb'⟩|⟨rfl,rfl,rfl,hi,ha,hb'⟩|⟨rfl,_⟩|⟨rfl,_⟩|⟨rfl,_⟩|⟨rfl,_⟩|⟨rfl,_⟩|⟨rfl,hs,rfl,rfl,hb'⟩|⟨rfl,_⟩|⟨rfl,_⟩
   ·obtain⟨q,rfl⟩:=is_one h
    rw[noExs ha,noPts hb']
    exact⟨.mk 1 s [] 0 [] [] q,by rw[gAtom];rfl,mkW e0W p0W trivial⟩
   ·obtain⟨q,rfl⟩:=is_one h
    rw[noExs ha,noPts hb']
    exact⟨.mk 2 [] [] m [] [] q,by rw[gAtom];rfl,mkW e0W p0W trivial⟩
   ·cases hb
   ·cases hb
   ·cases hb
   ·cases hb
   ·cases hb
   ·have ha:a=[]:=by
     cases a with
     |nil=>rfl
     |cons _ _=>cases hb
    subst ha
    obtain⟨q,l',rfl,h'⟩:=is_cons h
    unfold qAs at h'
    rw[is_nil h',noPts hb']
    exact⟨.mk 8 s [] 0 [] [] q,by rw[gAtom];rfl,mkW e0W p0W trivial⟩
   ·cases hb
   ·cases hb
 have happA:∀(e:Ex') (l X:List Pk),okEx e=true→Is l (qbrk (!(atomK e)) (qEx e))→atNext X=false→8*l.length+2≤n+1→∃e',gApp en (n+1) (l++X)=.ok e' X∧exW PT e e':=λe l X ho h hX hn=>by
  have ht:=(atomTok ho h).len
  obtain⟨e',g,w⟩:=I.atom e l X ho h (by omega)
  obtain⟨j,rfl⟩:∃j,n=j+1:=⟨n-1,by omega⟩
  refine⟨e',?_,w⟩
  rw[gApp]
  cases hk:kdK (l++X)==2 with
  |true=>rw[if_pos rfl,g,ok_bind,gConArgs,hX];rfl
  |false=>
   have hp:isK' 5 kPrint (l++X)=false:=by
    obtain⟨k,s,m,p,l',el,hd⟩:=atomTok ho h
    rw[el]
    rcases hd with rfl|rfl|rfl|⟨rfl,_⟩<;>simp[isK',kdK]
   rw[if_neg (by simp),hp,if_neg (by simp),g,ok_bind,gAppArgs,hX]
   rfl
 refine⟨hatom,λa k m p s r pre b l X ho h hX hn=>?_,λe l X ho h hX hn=>?_,λe l X ho hb h hX hn=>?_,λe l X ho hk h hX hn=>?_,happA,λx y k m p s r l X ox oy h hX hn=>?_,λq b x a k m p s r pre preb l X hlen hpo heo h hn=>?_⟩
 ·cases a with
  |nil=>
   unfold qAs at h
   refine⟨[],?_,e0W⟩
   rw[is_nil h,List.nil_append,gConArgs,hX,List.append_nil]
   rfl
  |cons x a=>
   unfold qAs at h
   unfold okExs at ho
   rw[Bool.and_eq_true] at ho
   obtain⟨l1,l2,rfl,h1,h2⟩:=is_app (k1:=qbrk _ _) h
   have ht:=atomTok ho.1 h1
   have htl:=ht.len
   rw[List.length_append] at hn
   obtain⟨x',g1,gx⟩:=I.atom x l1 (l2++X) ho.1 h1 (by omega)
   obtain⟨a',g2,ga⟩:=I.con a k m p s r (pre++[x']) b l2 X ho.2 h2 hX (by omega)
   refine⟨x'::a',?_,ecW gx ga⟩
   rw[List.append_assoc,gConArgs,ht.next,if_pos rfl,g1,ok_bind]
   show gConArgs en n (.mk k s r m (pre++[x']) b p) (l2++X)=_
   rw[g2,List.append_assoc]
   rfl
 ·-- gEx
  obtain⟨k,s,r,m,a,b,p⟩:=e
  have ho0:=ho
  have h0:=h
  obtain⟨hk,hpo,heo⟩:=okEx_inv ho
  have low:(kEx (.mk k s r m a b p)=1∨kEx (.mk k s r m a b p)=2∨kEx (.mk k s r m a b p)=4∨kEx (.mk k s r m a b p)=8∨kEx (.mk k s r m a b p)=10)→LvTok l→∃e',gEx en (n+1) (l++X)=.ok e' X∧exW PT (.mk k s r m a b p) e':=λhk ht=>by
   obtain⟨j,rfl⟩:∃j,n=j+4:=⟨n-4,by omega⟩
   obtain⟨e',g,w⟩:=(ih j (by omega)).app _ l X ho0 hk h0 hX.at' (by omega)
   exact⟨e',gEx_lev ht.no (lev0 g (hX.sg 2) (hX.sg 1) (hX.sg 0)) hX.se,w⟩
  unfold qEx at h
  rcases hk with ⟨rfl,hs,rfl,rfl,ha,hb'⟩|⟨rfl,rfl,rfl,hi,ha,hb'⟩|⟨rfl,hs,rfl,rfl,ha,hb'⟩|⟨rfl,rfl,rfl,rfl,ha,hb'⟩|⟨rfl,hs,rfl,rfl,ha,hb'⟩|⟨rfl,hs,hr,rfl,ha,hb'⟩|⟨rfl,rfl,rfl,rfl,hb',ha⟩|⟨rfl,hs,rfl,rfl,hb'⟩|⟨rfl,hs,rfl,rfl,ha,hb'⟩|⟨rfl,rfl,rfl,rfl,ha,hb'⟩
  ·obtain⟨q,rfl⟩:=is_one h
   exact low (by simp[kEx]) ⟨1,s,0,q,_,rfl,.inl rfl⟩
  ·obtain⟨q,rfl⟩:=is_one h
   exact low (by simp[kEx]) ⟨4,[],m,q,_,rfl,.inr (.inr (.inl rfl))⟩
  ·obtain⟨x,rfl⟩:=oneOf ha
   have hb:=noPts hb'
   subst hb
   have h:Is l ([(5,kFun,0)]++([(1,s,0)]++([(6,sArrow,0)]++qE0 [x]))):=h
   obtain⟨q,l1,rfl,h1⟩:=is_cons h
   obtain⟨q1,l2,rfl,h2⟩:=is_cons h1
   obtain⟨q2,l3,rfl,h3⟩:=is_cons h2
   unfold qE0 at h3
   simp only[List.length_cons] at hn
   unfold okExs at heo
   rw[Bool.and_eq_true] at heo
   obtain⟨x',g,w⟩:=I.ex x l3 X heo.1 h3 hX (by omega)
   refine⟨.mk 3 s [] 0 [x'] [] q,?_,mkW (ecW w e0W) p0W trivial⟩
   rw[List.cons_append,List.cons_append,List.cons_append,gEx_fun,word_hit,ok_bind,need_hit,ok_bind,g]
   rfl
  ·obtain⟨x,y,rfl⟩:=twoOf ha
   have h:Is l (qH0 [x,y]):=h
   unfold qH0 at h
   obtain⟨l1,l2,rfl,i1,i2⟩:=is_app h
   unfold okExs at heo
   rw[Bool.and_eq_true] at heo
   exact low (by simp[kEx]) ((headTok _ (Nat.lt_succ_self _) heo.1 i1).at'.lv.app)
  ·obtain⟨x,y,rfl⟩:=twoOf ha
   have hb:=noPts hb'
   subst hb
   have h:Is l ([(5,kLet,0)]++([(1,s,0)]++([(6,sEq,0)]++qIn [x,y]))):=h
   obtain⟨q,l1,rfl,h1⟩:=is_cons h
   obtain⟨q1,l2,rfl,h2⟩:=is_cons h1
   simp only[List.length_cons] at hn
   unfold okExs okExs at heo
   rw[Bool.and_eq_true,Bool.and_eq_true] at heo
   obtain⟨x',y',g,wx,wy⟩:=I.let' x y 5 0 q s [] l2 X heo.1 heo.2.1 h2 hX (by omega)
   refine⟨.mk 5 s [] 0 [x',y'] [] q,?_,mkW (ecW wx (ecW wy e0W)) p0W trivial⟩
   rw[List.cons_append,List.cons_append,gEx_let]
   exact g
  ·obtain⟨x,y,rfl⟩:=twoOf ha
   have hb:=noPts hb'
   subst hb
   have h:Is l ([(5,kLet,0)]++([(5,kRec,0)]++([(1,s,0)]++([]++([(1,r,0)]++([(6,sEq,0)]++qIn [x,y])))))):=h
   obtain⟨q,l1,rfl,h1⟩:=is_cons h
   obtain⟨q1,l2,rfl,h2⟩:=is_cons h1
   obtain⟨q2,l3,rfl,h3⟩:=is_cons h2
   obtain⟨q3,l4,rfl,h4⟩:=is_cons (k:=(1,r,0)) h3
   simp only[List.length_cons] at hn
   unfold okExs okExs at heo
   rw[Bool.and_eq_true,Bool.and_eq_true] at heo
   obtain⟨x',y',g,wx,wy⟩:=I.let' x y 6 0 q s r l4 X heo.1 heo.2.1 h4 hX (by omega)
   refine⟨.mk 6 s r 0 [x',y'] [] q,?_,mkW (ecW wx (ecW wy e0W)) p0W trivial⟩
   rw[List.cons_append,List.cons_append,List.cons_append,List.cons_append,gEx_rec]
   exact g
  ·obtain⟨x,a',rfl⟩:∃x a',a=x::a':=by
    cases a with
    |nil=>simp at ha;omega
    |cons x a'=>exact⟨x,a',rfl⟩
   obtain⟨y,a2,rfl⟩:∃y a2,a'=y::a2:=by
    cases a' with
    |nil=>simp at ha;omega
    |cons y a2=>exact⟨y,a2,rfl⟩
   obtain⟨t,b',rfl⟩:∃t b',b=t::b':=by
    cases b with
    |nil=>simp at hb'
    |cons t b'=>exact⟨t,b',rfl⟩
   have h:Is l ([(5,kCase,0)]++qCa (t::b') (x::y::a2)):=h
   unfold qCa qBr at h
   obtain⟨q,l1,rfl,h1⟩:=is_cons h
   obtain⟨l2,l3,rfl,h2,h3⟩:=is_app h1
   obtain⟨q1,l4,rfl,h4⟩:=is_cons h3
   simp only[List.length_cons,List.length_append] at hn
   unfold okExs at heo
   rw[Bool.and_eq_true] at heo
   obtain⟨x',g,wx⟩:=I.ex x l2 (((5,kOf,0),q1)::(l4++X)) heo.1 h2 est_of (by omega)
   obtain⟨as',bs',g2,wa,wb⟩:=I.br t b' y a2 7 0 q [] [] [x'] [] l4 X (by simp at ha;omega) hpo heo.2 h4 (by omega)
   refine⟨.mk 7 [] [] 0 (x'::as') bs' q,?_,mkW (ecW wx wa) wb trivial⟩
   rw[List.cons_append,gEx_case,List.append_assoc,List.cons_append,g,ok_bind,need_hit,ok_bind]
   exact g2
  ·obtain⟨q,l',rfl,_⟩:=is_cons h
   exact low (by simp[kEx]) ⟨2,s,0,q,_,rfl,.inr (.inl rfl)⟩
  ·obtain⟨x,y,rfl⟩:=twoOf ha
   have hb:=noPts hb'
   subst hb
   have h:Is l (qPr s [x,y]):=h
   unfold qPr qA0 at h
   obtain⟨l1,l2,rfl,i1,i2⟩:=is_app h
   obtain⟨q,l3,rfl,i3⟩:=is_cons (k:=(6,s,0)) i2
   have i3:Is l3 (qbrk (!(atomK y)) (qEx y)):=i3
   unfold okExs okExs at heo
   rw[Bool.and_eq_true,Bool.and_eq_true] at heo
   simp only[List.length_cons,List.length_append] at hn
   obtain⟨j,rfl⟩:∃j,n=j+4:=⟨n-4,by omega⟩
   obtain⟨x',y',g,wx,wy⟩:=(ih j (by omega)).opers (λm hm=>ih m (by omega)) hs heo.1 heo.2.1 i1 i3 hX (p:=q) (by omega)
   refine⟨.mk 9 s [] 0 [x',y'] [] (exAt x'),gEx_lev (r:=(l1++(((6,s,0),q)::l3))++X) ((atomTok heo.1 i1).lv.app).no ?_ hX.se,mkW (ecW wx (ecW wy e0W)) p0W trivial⟩
   rw[List.append_assoc,List.cons_append]
   exact g
  ·obtain⟨q,l',rfl,_⟩:=is_cons h
   exact low (by simp[kEx]) ⟨5,kPrint,0,q,_,rfl,.inr (.inr (.inr (.inr ⟨rfl,rfl⟩)))⟩
 ·-- a bracketed expression
  obtain⟨j,rfl⟩:∃j,n=j+4:=⟨n-4,by omega⟩
  have h':Is l (qbrk (!(atomK e)) (qEx e)):=by rw[hb];exact h
  obtain⟨e',g,w⟩:=(ih j (by omega)).appA e l X ho h' hX.at' (by omega)
  exact⟨e',gEx_lev (atomTok ho h').lv.no (lev0 g (hX.sg 2) (hX.sg 1) (hX.sg 0)) hX.se,w⟩
 ·-- gApp
  obtain⟨k,s,r,m,a,b,p⟩:=e
  have ho0:=ho
  obtain⟨hk',hpo,heo⟩:=okEx_inv ho
  have hk:k=1∨k=2∨k=4∨k=8∨k=10:=hk
  have h0:=h
  unfold qEx at h
  rcases hk with rfl|rfl|rfl|rfl|rfl
  ·exact happA _ l X ho0 h0 hX hn
  ·exact happA _ l X ho0 h0 hX hn
  ·have ⟨hs,hr,hm,ha,hb⟩:s=[]∧r=[]∧m=0∧(a.length:Int)=2∧(b.length:Int)=0:=by
    rcases hk' with h|h|h|h|h|h|h|h|h|h<;>first|exact h.2|(exact absurd h.1 (by decide))
   obtain⟨e',j,hj,w,g⟩:=spine ih _ (.mk 4 s r m a b p) l X (Nat.lt_succ_self _) ho0 h0 (by omega)
   obtain⟨i,hi⟩:∃i,n-j=i+1:=⟨n-j-1,by omega⟩
   refine⟨e',?_,w⟩
   have ht:HdTok l:=headTok _ (Nat.lt_succ_self _) ho0 (l:=l) h0
   obtain⟨t1,t2⟩:=ht.no (Y:=X)
   rw[gApp,t1,t2,if_neg (by simp),if_neg (by simp),g,hi,gAppArgs,hX]
   rfl
  ·have ⟨hs,hr,hm,hb⟩:wUp s=true∧r=[]∧m=0∧(b.length:Int)=0:=by
    rcases hk' with h|h|h|h|h|h|h|h|h|h<;>first|exact h.2|(exact absurd h.1 (by decide))
   obtain rfl:=hr
   obtain rfl:=hm
   have hb:=noPts hb
   subst hb
   have h:Is l ([(2,s,0)]++qAs a):=h
   obtain⟨q,l',rfl,h'⟩:=is_cons h
   simp only[List.length_cons] at hn
   obtain⟨a',g,w⟩:=I.con a 8 0 q s [] [] [] l' X heo h' hX (by omega)
   refine⟨.mk 8 s [] 0 a' [] q,?_,mkW w p0W trivial⟩
   obtain⟨j,rfl⟩:∃j,n=j+1:=⟨n-1,by omega⟩
   rw[gApp,List.cons_append,if_pos (by simp[kdK]),show gAtom en (j+1) (((2,s,0),q)::(l'++X))=.ok (.mk 8 s [] 0 [] [] q) (l'++X) by rw[gAtom];rfl,ok_bind,g]
   rfl
  ·have ⟨hs,hr,hm,ha,hb⟩:s=[]∧r=[]∧m=0∧(a.length:Int)=1∧(b.length:Int)=0:=by
    rcases hk' with h|h|h|h|h|h|h|h|h|h<;>first|exact h.2|(exact absurd h.1 (by decide))
   subst hs hr hm
   have hb:=noPts hb
   subst hb
   obtain⟨x,rfl⟩:=oneOf ha
   have h:Is l ([(5,kPrint,0)]++qA0 [x]):=h
   unfold qA0 at h
   obtain⟨q,l',rfl,h'⟩:=is_cons h
   unfold okExs at heo
   rw[Bool.and_eq_true] at heo
   simp only[List.length_cons] at hn
   obtain⟨x',g,w⟩:=I.atom x l' X heo.1 h' (by omega)
   refine⟨.mk 10 [] [] 0 [x'] [] q,?_,mkW (ecW w e0W) p0W trivial⟩
   rw[gApp,List.cons_append,if_neg (by simp[kdK]),if_pos (by simp[isK',kdK,txK]),List.tail_cons,g]
   rfl
 ·-- gLet
  unfold qIn qE0 at h
  obtain⟨q,l1,rfl,h1⟩:=is_cons h
  obtain⟨l2,l3,rfl,h2,h3⟩:=is_app h1
  obtain⟨q1,l4,rfl,h4⟩:=is_cons h3
  simp only[List.length_cons,List.length_append] at hn
  obtain⟨x',g,wx⟩:=I.ex x l2 (((5,kIn,0),q1)::(l4++X)) ox h2 est_in (by omega)
  obtain⟨y',g2,wy⟩:=I.ex y l4 X oy h4 hX (by omega)
  refine⟨x',y',?_,wx,wy⟩
  rw[gLet,List.cons_append,need_hit,ok_bind,List.append_assoc,List.cons_append,g,ok_bind,need_hit,ok_bind,g2]
  rfl
 ·-- gBr
  obtain⟨l1,l2,rfl,h1,h2⟩:=is_app h
  obtain⟨q1,l3,rfl,h3⟩:=is_cons h2
  obtain⟨l4,l5,rfl,h4,h5⟩:=is_app h3
  unfold okPts at hpo
  unfold okExs at heo
  rw[Bool.and_eq_true] at hpo heo
  simp only[List.length_cons,List.length_append] at hn
  obtain⟨q',g,wq⟩:=(rPt (en:=en) n).2.2 q l1 (((6,sArrow,0),q1)::(l4++(l5++X))) hpo.1 h1 rfl (by omega)
  have body:∀Y,EStop Y→∃x',gEx en n (l4++Y)=.ok x' Y∧exW PT x x':=λY hY=>by
   cases hb:branchK (kEx x) with
   |true=>
    rw[hb] at h4
    refine I.exb x l4 Y heo.1 ?_ h4 hY (by omega)
    unfold branchK at hb
    unfold atomK
    simp only[Bool.or_eq_true,beq_iff_eq] at hb
    rcases hb with hb|hb|hb<;>(rw[hb];rfl)
   |false=>
    rw[hb] at h4
    exact I.ex x l4 Y heo.1 h4 hY (by omega)
  have first':gBr en (n+1) (.mk k s r m pre preb p) ((l1++(((6,sArrow,0),q1)::(l4++l5)))++X)=(gEx en n (l4++(l5++X))).bind λa r'=>if isK' 6 sBar r'=true then gBr en n (exAdd (exPat (.mk k s r m pre preb p) q') a) r'.tail else(need en 5 kEnd r').bind λ_ r'=>.ok (exAdd (exPat (.mk k s r m pre preb p) q') a) r':=by
   rw[gBr,List.append_assoc,List.cons_append,List.append_assoc,g,ok_bind,need_hit,ok_bind]
  cases b with
  |nil=>
   have ha:a=[]:=List.eq_nil_of_length_eq_zero (by simpa using hlen.symm)
   subst ha
   have h5:Is l5 [(5,kEnd,0)]:=by simpa[qBr] using h5
   obtain⟨q2,rfl⟩:=is_one h5
   obtain⟨x',gx,wx⟩:=body (((5,kEnd,0),q2)::X) est_end
   refine⟨[x'],[q'],?_,ecW wx e0W,pcW wq p0W⟩
   rw[first',List.cons_append,List.nil_append,gx,ok_bind,if_neg (by simp[isK',kdK]),need_hit,ok_bind]
   rfl
  |cons q2 b=>
   obtain⟨x2,a2,rfl⟩:∃x2 a2,a=x2::a2:=by
    cases a with
    |nil=>simp at hlen
    |cons x2 a2=>exact⟨x2,a2,rfl⟩
   unfold qBr at h5
   obtain⟨q3,l6,rfl,h6⟩:=is_cons h5
   obtain⟨x',gx,wx⟩:=body (((6,sBar,0),q3)::(l6++X)) est_bar
   simp only[List.length_cons] at hn hlen
   obtain⟨as',bs',g2,wa,wb⟩:=I.br q2 b x2 a2 k m p s r (pre++[x']) (preb++[q']) l6 X (by omega) hpo.2 heo.2 h6 (by omega)
   refine⟨x'::as',q'::bs',?_,ecW wx wa,pcW wq wb⟩
   rw[first',List.cons_append,gx,ok_bind,if_pos (by simp[isK',kdK,txK])]
   show gBr en n (.mk k s r m (pre++[x']) (preb++[q']) p) (l6++X)=_
   rw[g2,List.append_assoc,List.append_assoc]
   rfl
theorem rEx:∀n m,m≤n→RE en m
 |0,m,h=>by
  obtain rfl:m=0:=by omega
  exact rEx0
 |n+1,m,h=>by
  by_cases hm:m≤n
  ·exact rEx n m hm
  ·obtain rfl:m=n+1:=by omega
   exact rExS (rEx n)
end Go.Proofs.YtmlghadphdpbjaaGreatDoor.Pa
namespace Go.Proofs.YtmlghadphdpbjaaGreatDoor.Pa
open Go Go.Proofs.YtmlghadphdpbjaaGreatDoor.Am
variable{en:Int}
theorem rVs:∀(vs:List Str) (l X:List Pk),Is l (qVs vs)→(kdK X==3)=false→gParams (l++X)=(vs,X)
 |[],l,X,h,hX=>by
  rw[is_nil h,List.nil_append]
  cases X with
  |nil=>rfl
  |cons t r=>
   have:(t.1.1==3)=false:=hX
   rw[gParams,if_neg (by rw[this];simp)]
 |v::vs,l,X,h,hX=>by
  unfold qVs at h
  obtain⟨q,l1,rfl,h1⟩:=is_cons h
  rw[List.cons_append,gParams,if_pos (by rfl),rVs vs l1 X h1 hX]
end Go.Proofs.YtmlghadphdpbjaaGreatDoor.Pa
