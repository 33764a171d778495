/- Useful: values of a type; what is useful meets a value that nothing ahead meets. What functions of the program do, printed by wip/tools/sx/sx.py. -/
import Derived.Test.YtiheejdkkjfenaaGreatDoorSJ
set_option linter.all false
set_option autoImplicit false
set_option maxRecDepth 100000
namespace Go.Proofs.YtiheejdkkjfenaaGreatDoor.Pa
open Go Go.Proofs.YtiheejdkkjfenaaGreatDoor.Am
def kTy:Ty→Int
 |.mk k _ _ _=>k
def nameT:Ty→Str
 |.mk _ s _ _=>s
def argsT:Ty→List Ty
 |.mk _ _ _ a=>a
def lookT(s:Str):List Str→List Ty→Ty
 |p::ps,a::ts=>bif p==s then a else lookT s ps ts
 |[],_=>.mk 1 [] 0 []
 |_::_,[]=>.mk 1 [] 0 []
mutual
def fieldT(ps:List Str)(ts:List Ty):Ty→Ty
 |.mk k s n a=>bif k==2 then lookT s ps ts else .mk k s n (fieldTs ps ts a)
def fieldTs(ps:List Str)(ts:List Ty):List Ty→List Ty
 |[]=>[]
 |t::l=>fieldT ps ts t::fieldTs ps ts l
end
theorem fieldTs_map(ps:List Str)(ts l:List Ty):fieldTs ps ts l=l.map (fieldT ps ts):=by induction l with
 |nil=>rfl
 |cons x l ih=>rw[fieldTs,List.map_cons,ih]
def tyIx(D:List Dc)(t:Ty):Int:=bif kTy t==4 then declIx (nameT t) D 0 else -1
def all2{α β:Type}(p:α→β→Bool):List α→List β→Bool
 |a::l,b::k=>p a b&&all2 p l k
 |[],_=>true
 |_::_,[]=>true
def fitV(D:List Dc):Nat→Ty→Vl→Bool
 |0,_,_=>false
 |f+1,t,.mk i n a=>bif decide (tyIx D t<0) then i&&a.isEmpty else
  match D[(tyIx D t).toNat]? with
  |none=>false
  |some d=>!i&&(decide (0≤n)&&match d.cs[n.toNat]? with
   |none=>false
   |some c=>a.length==c.fs.length&&all2 (λq v=>fitV D f (fieldT d.ps (argsT t) q) v) c.fs a)
def typP(D:List Dc):Nat→Ty→Pt→Bool
 |0,_,_=>false
 |f+1,t,.mk k s n a _=>bif k==1||k==2 then a.isEmpty else bif k==3 then decide (tyIx D t<0)&&(!(kTy t==3)&&a.isEmpty) else
  (findDc s D 0).2.2&&((findDc s D 0).1==tyIx D t&&match D[(tyIx D t).toNat]? with
  |none=>false
  |some d=>match d.cs[(findDc s D 0).2.1.toNat]? with
   |none=>false
   |some c=>a.length==c.fs.length&&all2 (λq x=>typP D f (fieldT d.ps (argsT t) q) x) c.fs a)
def All2{α β:Type}(R:α→β→Prop):List α→List β→Prop
 |a::l,b::k=>R a b∧All2 R l k
 |[],[]=>True
 |[],_::_=>False
 |_::_,[]=>False
theorem All2.app{α β:Type}{R:α→β→Prop}:∀{l:List α} {k:List β} {l':List α} {k':List β},All2 R l k→All2 R l' k'→All2 R (l++l') (k++k')
 |[],[],_,_,_,h=>h
 |_::_,_::_,_,_,h1,h2=>⟨h1.1,All2.app h1.2 h2⟩
 |[],_::_,_,_,h,_=>h.elim
 |_::_,[],_,_,h,_=>h.elim
theorem all2_of{α β γ:Type}{p:γ→β→Bool}{g:α→γ}{R:γ→β→Prop}(hR:∀c b,p c b=true→R c b):∀{l:List α} {k:List β},all2 (λa b=>p (g a) b) l k=true→k.length=l.length→All2 R (l.map g) k
 |[],[],_,_=>trivial
 |a::l,b::k,h,hl=>by
  simp only[all2,Bool.and_eq_true] at h
  exact⟨hR _ _ h.1,all2_of hR h.2 (by simpa using hl)⟩
 |[],_::_,_,hl=>by simp at hl
 |_::_,[],_,hl=>by simp at hl
def Fit(D:List Dc)(t:Ty)(v:Vl):Prop:=∃f,fitV D f t v=true
def Typ(D:List Dc)(t:Ty)(x:Pt):Prop:=∃f,typP D f t x=true
theorem typ_any(D:List Dc)(t:Ty):Typ D t anyP:=⟨1,rfl⟩
theorem typ_anys(D:List Dc):∀(ts:List Ty),All2 (Typ D) ts (List.replicate ts.length anyP)
 |[]=>trivial
 |t::ts=>⟨typ_any D t,typ_anys D ts⟩
def ConU(D:List Dc):Prop:=∀(i k:Nat) (d:Dc) (c:Cn),D[i]?=some d→d.cs[k]?=some c→findDc c.s D 0=((i:Int),(k:Int),true)
theorem typ_con{D:List Dc}{t:Ty}{x:Pt}(h:Typ D t x)(hk:(kPt x==4)=true):
 ∃(i k:Nat) (d:Dc) (c:Cn),findDc (nameP x) D 0=((i:Int),(k:Int),true)∧tyIx D t=(i:Int)∧D[i]?=some d∧d.cs[k]?=some c∧(argsP x).length=c.fs.length∧All2 (Typ D) (c.fs.map (fieldT d.ps (argsT t))) (argsP x):=by
 obtain⟨f,h⟩:=h
 cases x with
 |mk k s n a p=>
 obtain rfl:k=4:=by simpa[kPt] using hk
 cases f with
 |zero=>cases h
 |succ f=>
  simp only[typP,show((4:Int)==1)=false from rfl,show((4:Int)==2)=false from rfl,show((4:Int)==3)=false from rfl,Bool.or_self,cond_false,Bool.and_eq_true,beq_iff_eq] at h
  obtain⟨h1,h2,h3⟩:=h
  rcases findDc_spec s D 0 with ⟨i,j,d,c,q1,q2,q3,_⟩|⟨q1,_⟩
  ·rw[q1] at h2 h3
   have hi:tyIx D t=(i:Int):=by rw[←h2];simp
   rw[hi] at h3
   simp only[Int.toNat_natCast,q2,q3,Bool.and_eq_true,beq_iff_eq] at h3
   exact⟨i,j,d,c,by rw[nameP,q1,Int.zero_add],hi,q2,q3,h3.1,all2_of (p:=λq x=>typP D f q x) (λc b hcb=>⟨f,hcb⟩) h3.2 h3.1⟩
  ·rw[q1] at h1;cases h1
theorem fit_con{D:List Dc}{t:Ty}{v:Vl}{i:Nat}{d:Dc}(h:Fit D t v)(hi:tyIx D t=(i:Int))(hd:D[i]?=some d):
 ∃(n:Nat) (a:List Vl) (c:Cn),v=.mk false (n:Int) a∧d.cs[n]?=some c∧a.length=c.fs.length∧All2 (Fit D) (c.fs.map (fieldT d.ps (argsT t))) a:=by
 obtain⟨f,h⟩:=h
 cases v with
 |mk b m a=>
 cases f with
 |zero=>cases h
 |succ f=>
  have hlt:decide (tyIx D t<0)=false:=by rw[hi];exact decide_eq_false (by omega)
  simp only[fitV,hlt,cond_false] at h
  rw[hi,Int.toNat_natCast] at h
  simp only[hd,Bool.and_eq_true,decide_eq_true_eq] at h
  obtain⟨h1,h2,h3⟩:=h
  cases hc:d.cs[m.toNat]? with
  |none=>rw[hc] at h3;cases h3
  |some c=>
   simp only[hc,Bool.and_eq_true,beq_iff_eq] at h3
   refine⟨m.toNat,a,c,?_,hc,h3.1,all2_of (p:=λq x=>fitV D f q x) (λc b hcb=>⟨f,hcb⟩) h3.2 h3.1⟩
   rw[Int.toNat_of_nonneg h2]
   cases b with
   |false=>rfl
   |true=>cases h1
theorem mtP_wild{D:List Dc}{x:Pt}(h:wildP x=true)(v:Vl):mtP D x v=true:=by
 cases x with
 |mk k s n a p=>
 cases v with
 |mk i m b=>
 simp only[wildP,kPt,Bool.or_eq_true] at h
 rw[mtP]
 rcases h with h|h
 ·rw[h];rfl
 ·rw[h];cases (k==1)<;>rfl
theorem mtP_con{D:List Dc}{x:Pt}(hk:(kPt x==4)=true)(i:Bool)(m:Int)(b:List Vl):
 mtP D x (.mk i m b)=((findDc (nameP x) D 0).2.2&&(!i&&(m==(findDc (nameP x) D 0).2.1&&(((b.length:Int)==((argsP x).length:Int))&&mtPs D (argsP x) b)))):=by
 cases x with
 |mk k s n a p=>
 obtain rfl:k=4:=by simpa[kPt] using hk
 rfl
theorem mtP_int{D:List Dc}{x:Pt}(hk:(kPt x==3)=true)(i:Bool)(m:Int)(b:List Vl):mtP D x (.mk i m b)=(i&&m==numP x):=by
 cases x with
 |mk k s n a p=>
 obtain rfl:k=3:=by simpa[kPt] using hk
 rfl
theorem mtPs_app(D:List Dc):∀(a:List Pt) (b:List Vl) (c:List Pt) (d:List Vl),a.length=b.length→mtPs D (a++c) (b++d)=(mtPs D a b&&mtPs D c d)
 |[],[],c,d,_=>by rw[mtPs_end];rfl
 |x::a,y::b,c,d,h=>by
  show(mtP D x y&&mtPs D (a++c) (b++d))=((mtP D x y&&mtPs D a b)&&mtPs D c d)
  rw[mtPs_app D a b c d (by simpa using h),Bool.and_assoc]
 |[],_::_,_,_,h=>by simp at h
 |_::_,[],_,_,h=>by simp at h
theorem mtPs_any(D:List Dc):∀(n:Nat) (a:List Vl),mtPs D (List.replicate n anyP) a=true
 |0,a=>mtPs_end D a
 |n+1,[]=>rfl
 |n+1,v::a=>by
  show(mtP D anyP v&&mtPs D (List.replicate n anyP) a)=true
  rw[mtP_wild rfl v,mtPs_any D n a]
  rfl
theorem turnR_mem{sem:Pt→Option (List Pt)}{rows:List (List Pt)}{q:List Pt}(hq:q∈rows.filterMap (turnR sem)):∃y k t,(y::t)∈rows∧sem y=some k∧q=k++t:=by
 obtain⟨q0,h1,h2⟩:=List.mem_filterMap.1 hq
 cases q0 with
 |nil=>cases h2
 |cons y t=>
  simp only[turnR] at h2
  cases hk:sem y with
  |none=>rw[hk] at h2;cases h2
  |some k=>rw[hk] at h2;cases h2;exact⟨y,k,t,h1,hk,rfl⟩
theorem turned_not{D:List Dc}{rows:List (List Pt)}{sem:Pt→Option (List Pt)}{v:Vl}{a vs:List Vl}(h:∀r∈rows,mtPs D r (v::vs)=false)
 (hs:∀y t k,(y::t)∈rows→sem y=some k→k.length=a.length∧(mtPs D k a=true→mtP D y v=true)):∀q∈rows.filterMap (turnR sem),mtPs D q (a++vs)=false:=λq hq=>by
 obtain⟨y,k,t,h1,h2,rfl⟩:=turnR_mem hq
 obtain⟨h3,h4⟩:=hs y t k h1 h2
 rw[mtPs_app D _ _ _ _ h3]
 cases hk:mtPs D k a with
 |false=>rfl
 |true=>
  have:(mtP D y v&&mtPs D t vs)=false:=h _ h1
  rw[h4 hk,Bool.true_and] at this
  rw[this];rfl
theorem turned_typ{D:List Dc}{rows:List (List Pt)}{sem:Pt→Option (List Pt)}{t0:Ty}{ts us:List Ty}(h:∀r∈rows,All2 (Typ D) (t0::ts) r)
 (hs:∀y k,Typ D t0 y→sem y=some k→All2 (Typ D) us k):∀q∈rows.filterMap (turnR sem),All2 (Typ D) (us++ts) q:=λq hq=>by
 obtain⟨y,k,t,h1,h2,rfl⟩:=turnR_mem hq
 have h3:=h _ h1
 exact(hs y k h3.1 h2).app h3.2
theorem firstCon_some:∀(rows:List (List Pt)) (s:Str),firstCon rows=some s→∃y t,(y::t)∈rows∧(kPt y==4)=true∧nameP y=s
 |[],s,h=>by cases h
 |[]::l,s,h=>by
  obtain⟨y,t,h1,h2⟩:=firstCon_some l s h
  exact⟨y,t,by simp[h1],h2⟩
 |(x::r)::l,s,h=>by
  simp only[firstCon] at h
  split at h
  ·rename_i hk;cases h;exact⟨x,r,by simp,hk,rfl⟩
  ·obtain⟨y,t,h1,h2⟩:=firstCon_some l s h
   exact⟨y,t,by simp[h1],h2⟩
theorem whole_some{D:List Dc}{rows:List (List Pt)}{cs:List Cn}(h:wholeF D rows=some cs):∃y t,(y::t)∈rows∧(kPt y==4)=true∧cs=consOf D (nameP y):=by
 unfold wholeF at h
 split at h
 ·cases h
 ·rename_i s hs
  split at h
  ·cases h
   obtain⟨y,t,h1,h2,h3⟩:=firstCon_some _ _ hs
   exact⟨y,t,h1,h2,by rw[h3]⟩
  ·cases h
theorem anyU_true{go:Nat→Cn→Option (Bool×Nat)}{c:Cn}(hc:∀m b m',go m c=some (b,m')→b=true):∀(l:List Cn) (m:Nat) (b:Bool) (m':Nat),c∈l→anyU go l m=some (b,m')→b=true
 |[],m,b,m',h,_=>by cases h
 |x::l,m,b,m',h,e=>by
  unfold anyU at e
  split at e
  ·cases e
  ·cases e;rfl
  ·rename_i m1 h1
   rcases List.mem_cons.1 h with rfl|h
   ·have:=hc _ _ _ h1;cases this
   ·exact anyU_true hc l _ _ _ h e
theorem useU_true{D:List Dc}(hu:ConU D):∀(f m:Nat) (rows:List (List Pt)) (row:List Pt) (b:Bool) (m':Nat) (ts:List Ty) (vs:List Vl),useU D f m rows row=some (b,m')→All2 (Fit D) ts vs→All2 (Typ D) ts row→
 (∀r∈rows,All2 (Typ D) ts r)→mtPs D row vs=true→(∀r∈rows,mtPs D r vs=false)→b=true
 |0,m,rows,row,b,m',ts,vs,e,_,_,_,_,_=>by cases e
 |f+1,0,rows,row,b,m',ts,vs,e,_,_,_,_,_=>by cases e
 |f+1,m+1,rows,[],b,m',ts,vs,e,hF,hT,hR,hm,hn=>by
  cases e
  cases ts with
  |cons t ts=>exact hT.elim
  |nil=>
   cases rows with
   |nil=>rfl
   |cons r rows=>
    have h1:=hR r (by simp)
    have h2:=hn r (by simp)
    cases r with
    |nil=>rw[mtPs_end] at h2;cases h2
    |cons x r=>exact h1.elim
 |f+1,m+1,rows,x::r,b,m',[],vs,e,hF,hT,hR,hm,hn=>hT.elim
 |f+1,m+1,rows,x::r,b,m',t::ts,[],e,hF,hT,hR,hm,hn=>hF.elim
 |f+1,m+1,rows,x::r,b,m',t::ts,v::vs,e,hF,hT,hR,hm,hn=>by
  have hm:(mtP D x v&&mtPs D r vs)=true:=hm
  rw[Bool.and_eq_true] at hm
  obtain⟨hm1,hm2⟩:=hm
  unfold useU at e
  split at e
  ·rename_i h4
   obtain⟨i,k,d,c,q1,q2,q3,q4,q5,q6⟩:=typ_con hT.1 h4
   obtain⟨n,a,c',rfl,p1,p2,p3⟩:=fit_con hF.1 q2 q3
   rw[mtP_con h4,q1] at hm1
   simp only[Bool.not_false,Bool.true_and,Bool.and_eq_true,beq_iff_eq] at hm1
   obtain⟨g1,g2,g3⟩:=hm1
   obtain rfl:n=k:=by omega
   rw[q4] at p1
   obtain rfl:c=c':=by simpa using p1
   refine useU_true hu f m _ _ b m' (c.fs.map (fieldT d.ps (argsT t))++ts) (a++vs) e (p3.app hF.2) (q6.app hT.2) (turned_typ hR λy l ty hy=>?_) (by rw[mtPs_app D _ _ _ _ (by omega),g3,hm2];rfl) (turned_not hn λy tl l hyr hy=>?_)
   ·unfold semCon at hy
    split at hy
    ·cases hy
     have:=typ_anys D (c.fs.map (fieldT d.ps (argsT t)))
     rw[List.length_map,←q5] at this
     exact this
    ·split at hy
     ·rename_i hc
      cases hy
      simp only[Bool.and_eq_true] at hc
      obtain⟨i2,k2,d2,c2,r1,r2,r3,r4,r5,r6⟩:=typ_con ty hc.1
      rw[eq_of_beq hc.2.1,q1] at r1
      simp only[Prod.mk.injEq,and_true] at r1
      obtain rfl:i=i2:=by omega
      obtain rfl:n=k2:=by omega
      rw[q3] at r3
      cases r3
      rw[q4] at r4
      cases r4
      exact r6
     ·cases hy
   ·refine⟨by rw[(semCon_ok (D:=D) y l hy).1];omega,λhl=>?_⟩
    unfold semCon at hy
    split at hy
    ·rename_i hw;exact mtP_wild hw _
    ·split at hy
     ·rename_i hc
      cases hy
      simp only[Bool.and_eq_true,beq_iff_eq] at hc
      rw[mtP_con (by rw[hc.1];rfl),hc.2.1,q1,hl]
      simp only[Bool.not_false,Bool.true_and,Bool.and_true,Bool.and_eq_true,beq_iff_eq]
      exact⟨trivial,by omega⟩
     ·cases hy
  ·split at e
   ·rename_i h4 h3
    cases v with
    |mk i n a=>
    rw[mtP_int h3,Bool.and_eq_true] at hm1
    refine useU_true hu f m _ _ b m' ts vs e hF.2 hT.2 (turned_typ (us:=[]) hR λy l ty hy=>?_) hm2 (turned_not (a:=[]) hn λy tl l hyr hy=>⟨(semInt_ok (D:=D) y l hy).1,λ_=>?_⟩)
    ·have hl:=(semInt_ok (D:=D) y l hy).1
     rw[List.eq_nil_of_length_eq_zero hl]
     trivial
    ·unfold semInt at hy
     split at hy
     ·rename_i hw;exact mtP_wild hw _
     ·split at hy
      ·rename_i hc
       simp only[Bool.and_eq_true,beq_iff_eq] at hc
       rw[mtP_int (by rw[hc.1];rfl),hm1.1,hc.2,hm1.2];rfl
      ·cases hy
   ·rename_i h4 h3
    split at e
    ·refine useU_true hu f m _ _ b m' ts vs e hF.2 hT.2 (turned_typ (us:=[]) hR λy l ty hy=>?_) hm2 (turned_not (a:=[]) hn λy tl l hyr hy=>⟨(semWild_ok (D:=D) y l hy).1,λ_=>?_⟩)
     ·have hl:=(semWild_ok (D:=D) y l hy).1
      rw[List.eq_nil_of_length_eq_zero hl]
      trivial
     ·unfold semWild at hy
      split at hy
      ·rename_i hw;exact mtP_wild hw _
      ·cases hy
    ·rename_i cs hcs
     obtain⟨y0,t0,y1,y2,rfl⟩:=whole_some hcs
     obtain⟨i,k,d,c,q1,q2,q3,q4,q5,q6⟩:=typ_con (hR _ y1).1 y2
     have hcons:consOf D (nameP y0)=d.cs:=by
      unfold consOf
      rw[q1,Int.toNat_natCast]
      simp only[q3]
     obtain⟨n,a,c',rfl,p1,p2,p3⟩:=fit_con hF.1 q2 q3
     have hcu:=hu i n d c' q3 p1
     refine anyU_true (c:=c') (λm1 b1 m2 e1=>?_) _ _ _ _ (by rw[hcons];exact List.mem_of_getElem? p1) e
     have ta:=typ_anys D (c'.fs.map (fieldT d.ps (argsT t)))
     rw[List.length_map] at ta
     refine useU_true hu f m1 _ _ b1 m2 (c'.fs.map (fieldT d.ps (argsT t))++ts) (a++vs) e1 (p3.app hF.2) (ta.app hT.2) (turned_typ hR λy l ty hy=>?_) (by rw[mtPs_app D _ _ _ _ (by rw[List.length_replicate];omega),mtPs_any,hm2];rfl) (turned_not hn λy tl l hyr hy=>?_)
     ·unfold semCon at hy
      split at hy
      ·cases hy;exact ta
      ·split at hy
       ·rename_i hc
        cases hy
        simp only[Bool.and_eq_true] at hc
        obtain⟨i2,k2,d2,c2,r1,r2,r3,r4,r5,r6⟩:=typ_con ty hc.1
        rw[eq_of_beq hc.2.1,hcu] at r1
        simp only[Prod.mk.injEq,and_true] at r1
        obtain rfl:i=i2:=by omega
        obtain rfl:n=k2:=by omega
        rw[q3] at r3
        cases r3
        rw[p1] at r4
        cases r4
        exact r6
       ·cases hy
     ·refine⟨by rw[(semCon_ok (D:=D) y l hy).1];omega,λhl=>?_⟩
      unfold semCon at hy
      split at hy
      ·rename_i hw;exact mtP_wild hw _
      ·split at hy
       ·rename_i hc
        cases hy
        simp only[Bool.and_eq_true,beq_iff_eq] at hc
        rw[mtP_con (by rw[hc.1];rfl),hc.2.1,hcu,hl]
        simp only[Bool.not_false,Bool.true_and,Bool.and_true,Bool.and_eq_true,beq_iff_eq]
        exact⟨trivial,by omega⟩
       ·cases hy
theorem asked_meets{D:List Dc}(hu:ConU D){t:Ty}{v:Vl}{ps:List Pt}{p:Pt}(hv:Fit D t v)(ht:∀q∈ps,Typ D t q)(hp:Typ D t p)(hm:mtP D p v=true)(h:askedF D (colOf ps) [p]=(false,0)):∃q∈ps,mtP D q v=true:=by
 unfold askedF at h
 split at h
 ·rename_i b m' e
  obtain rfl:b=false:=by simpa using h
  refine Classical.byContradiction λhno=>?_
  have:=useU_true hu _ _ _ _ _ _ [t] [v] e ⟨hv,trivial⟩ ⟨hp,trivial⟩ (λr hr=>?_) (by show(mtP D p v&&mtPs D [] [])=true;rw[hm];rfl) (λr hr=>?_)
  ·cases this
  ·obtain⟨q,hq,rfl⟩:=List.mem_map.1 hr
   exact⟨ht q hq,trivial⟩
  ·obtain⟨q,hq,rfl⟩:=List.mem_map.1 hr
   show(mtP D q v&&mtPs D [] [])=false
   cases hqv:mtP D q v with
   |false=>rfl
   |true=>exact absurd ⟨q,hq,hqv⟩ hno
 ·cases h
theorem exh_meets{D:List Dc}(hu:ConU D){t:Ty}{v:Vl}{ps:List Pt}(hv:Fit D t v)(ht:∀q∈ps,Typ D t q)(h:(exhF D ps).1=true):∃q∈ps,mtP D q v=true:=by
 unfold exhF at h
 simp only[Bool.and_eq_true,Bool.not_eq_true',beq_iff_eq] at h
 refine asked_meets hu hv ht (typ_any D t) (mtP_wild rfl v) ?_
 unfold usefulF at h
 split at h
 ·exact Prod.ext h.1 h.2
 ·cases h.2
theorem findCn_at:∀(l:List Cn) (k:Nat) (c:Cn) (i:Int),(l.map (·.s)).Nodup→l[k]?=some c→findCn c.s l i=some (i+k)
 |[],k,c,i,_,h=>by cases h
 |x::l,0,c,i,hn,h=>by
  obtain rfl:x=c:=by simpa using h
  simp[findCn]
 |x::l,k+1,c,i,hn,h=>by
  have h:l[k]?=some c:=by simpa using h
  rw[List.map_cons,List.nodup_cons] at hn
  have hne:(x.s==c.s)=false:=by
   rw[beq_eq_false_iff_ne]
   intro e
   exact hn.1 (List.mem_map.2 ⟨c,List.mem_of_getElem? h,e.symm⟩)
  simp only[findCn,hne,cond_false]
  rw[findCn_at l k c (i+1) hn.2 h]
  congr 1
  omega
theorem findDc_at:∀(D:List Dc) (i k:Nat) (d:Dc) (c:Cn) (j:Int),(conNames D).Nodup→D[i]?=some d→d.cs[k]?=some c→findDc c.s D j=(j+i,(k:Int),true)
 |[],i,k,d,c,j,_,h,_=>by cases h
 |x::D,0,k,d,c,j,hn,h,hc=>by
  obtain rfl:x=d:=by simpa using h
  unfold conNames at hn
  rw[List.flatMap_cons,List.nodup_append] at hn
  simp only[findDc]
  rw[findCn_at x.cs k c 0 hn.1 hc]
  simp
 |x::D,i+1,k,d,c,j,hn,h,hc=>by
  have h:D[i]?=some d:=by simpa using h
  unfold conNames at hn
  rw[List.flatMap_cons,List.nodup_append] at hn
  have hm:c.s∈conNames D:=List.mem_flatMap.2 ⟨d,List.mem_of_getElem? h,List.mem_map.2 ⟨c,List.mem_of_getElem? hc,rfl⟩⟩
  simp only[findDc]
  rcases findCn_spec c.s x.cs 0 with ⟨k',c',h1,h2,h3⟩|⟨h1,h2⟩
  ·exfalso
   have h4:(x.cs.map (·.s)).contains c.s=true:=by rw[←cnFs_mem,h3];rfl
   exact hn.2.2 _ (by simpa using h4) _ hm rfl
  ·rw[h1]
   show findDc c.s D (j+1)=_
   rw[findDc_at D i k d c (j+1) hn.2.1 h hc]
   congr 1
   omega
theorem conU_of{D:List Dc}(h:(conNames D).Nodup):ConU D:=λi k d c h1 h2=>by rw[findDc_at D i k d c 0 h h1 h2,Int.zero_add]
theorem consBad_nodup(bf:List Dc):∀(cs:List Cn) (acc:List Str),consBad bf acc cs=false→(cs.map (·.s)).Nodup∧∀c∈cs,c.s ∉ acc∧c.s ∉ conNames bf
 |[],acc,_=>⟨List.nodup_nil,λc h=>by cases h⟩
 |x::cs,acc,h=>by
  simp only[consBad,Bool.or_eq_false_iff] at h
  obtain⟨h1,h2,h3⟩:=h
  obtain⟨g1,g2⟩:=consBad_nodup bf cs _ h3
  rw[dcFs_mem] at h1
  refine⟨?_,λc hc=>?_⟩
  ·rw[List.map_cons,List.nodup_cons]
   refine⟨λhm=>?_,g1⟩
   obtain⟨c,hc,e⟩:=List.mem_map.1 hm
   exact(g2 c hc).1 (by simp[e])
  ·rcases List.mem_cons.1 hc with rfl|hc
   ·exact⟨by simpa using h2,by simpa using h1⟩
   ·exact⟨λhm=>(g2 c hc).1 (by simp[hm]),(g2 c hc).2⟩
theorem firstBad_nodup:∀(ds bf:List Dc),(conNames bf).Nodup→firstBad bf ds=none→(conNames (bf++ds)).Nodup
 |[],bf,h,_=>by rw[List.append_nil];exact h
 |d::ds,bf,h,e=>by
  simp only[firstBad] at e
  cases hb:declBad bf d with
  |true=>rw[hb] at e;cases e
  |false=>
   rw[hb] at e
   simp only[declBad,Bool.or_eq_false_iff] at hb
   obtain⟨g1,g2⟩:=consBad_nodup bf d.cs [] hb.2.2.2
   have:=firstBad_nodup ds (bf++[d]) ?_ e
   ·rw[List.append_assoc] at this;exact this
   ·unfold conNames at h⊢
    rw[List.flatMap_append,List.nodup_append]
    refine⟨h,?_,λa ha b hb e=>?_⟩
    ·simpa using g1
    ·subst e
     obtain⟨c,hc,rfl⟩:∃c∈d.cs,c.s=a:=by simpa using hb
     exact(g2 c hc).2 ha
theorem base_nodup:(conNames (baseL.map absDc)).Nodup:=by
 have:conNames (baseL.map absDc)=[[85,110,105,116],[70,97,108,115,101],[84,114,117,101],[78,105,108],[67,111,110,115]]:=rfl
 rw[this]
 decide
theorem conU_all{P:Pg}(h:(chk14 P).1=0):ConU (allDc P):=by
 obtain⟨h1,hr⟩:=chk14_zero h
 unfold chk14 at h
 rw[hr] at h
 simp only[cond_true] at h
 unfold chkNames at h
 split at h
 ·cases h
 ·rename_i hp
  exact conU_of (firstBad_nodup _ _ base_nodup hp)
end Go.Proofs.YtiheejdkkjfenaaGreatDoor.Pa
namespace Go.Proofs.YtiheejdkkjfenaaGreatDoor.Pa
open Go Go.Proofs.YtiheejdkkjfenaaGreatDoor.Am
def L6_9(x5:Dat)(x7:Dat)(n10:Int)(y6:Dat)(y4:Dat)(g:Glob)(Qf:OGP):Prop:=CutP TT Tryz.f6 [1,1,1,1,1,0,1,0] Qf (mkC TT 6 Tryz.f6 1 [(4,.loc 4 0 0),(5,.v 24 (x5)),(6,.loc 6 0 0),(7,.v 22 (x7)),(10,.v 3 (.int .i64 n10))] [(6,.whole 55 y6),(4,.whole 61 y4)] g)
def L6_17(x5:Dat)(x7:Dat)(b11:Bool)(n12:Int)(x13:Dat)(n14:Int)(n15:Int)(n16:Int)(y6:Dat)(g:Glob)(Qf:OGP):Prop:=CutP TT Tryz.f6 [1,1,1,1,1,1,1,1,1,0,1,0] Qf (mkC TT 6 Tryz.f6 1 [(5,.v 24 (x5)),(6,.loc 6 0 0),(7,.v 22 (x7)),(11,.v 4 (.bool b11)),(12,.v 33 (.int .i64 n12)),(13,.v 46 (x13)),(14,.v 33 (.int .i64 n14)),(15,.v 3 (.int .i64 n15)),(16,.v 3 (.int .i64 n16))] [(6,.whole 55 y6)] g)
def L6_24(x13:Dat)(n14:Int)(n15:Int)(n17:Int)(g:Glob)(Qf:OGP):Prop:=CutP TT Tryz.f6 [1,1,1,1,1,1,1,1,1,1,1,0,1,0] Qf (mkC TT 6 Tryz.f6 1 [(13,.v 46 (x13)),(14,.v 33 (.int .i64 n14)),(15,.v 3 (.int .i64 n15)),(17,.v 3 (.int .i64 n17))] [] g)
def lo6:List CutI:=[⟨9,[(4,.keep),(5,.keep),(6,.keep),(7,.keep),(10,.keep)],[(6,.whole 55),(4,.whole 61)]⟩,⟨17,[(5,.keep),(6,.keep),(7,.keep),(11,.keep),(12,.keep),(13,.keep),(14,.keep),(15,.keep),(16,.keep)],[(6,.whole 55)]⟩,⟨24,[(13,.keep),(14,.keep),(15,.keep),(17,.keep)],[]⟩]
theorem w6{x0:Dat}{g:Glob}{Qf:OGP}(h0:HasTy TT 63 x0)
 (h:EvF TT 26 [fld (.agg [fld x0 0,.int .i64 0,.str [],.str [],.int .i64 0,.nil,.nil,.int .i64 0]) 0] g (KQ Qf λv g'=>∃b,v=.d (.bool b)∧Br b (EvF TT 9 [] g' (KQ Qf λv g'=>∃b,v=.d (.bool b)∧Qf (.val (.d (.bool b))) g')) (EvF TT 27 [sub x0 1 4] g' (KQ Qf λv g'=>∃b,v=.d (.bool b)∧Br b (EvF TT 9 [] g' (KQ Qf λv g'=>∃b,v=.d (.bool b)∧Qf (.val (.d (.bool b))) g')) (EvF TT 14 [fld (.agg [fld x0 0,.int .i64 0,.str [],.str [],.int .i64 0,.nil,.nil,.int .i64 0]) 0,fld x0 5] g' (KQ Qf λv g'=>∃b,v=.d (.bool b)∧Br b (EvF TT 9 [] g' (KQ Qf λv g'=>∃b,v=.d (.bool b)∧Qf (.val (.d (.bool b))) g')) (EvF TT 22 [sub x0 6 3] g' (KQ Qf λv g'=>∃b,v=.d (.bool b)∧Br b (EvF TT 9 [] g' (KQ Qf λv g'=>∃b,v=.d (.bool b)∧Qf (.val (.d (.bool b))) g')) (EvF TT 15 [.agg [fld x0 0,.int .i64 0,.str [],.str [],.int .i64 0,.nil,.nil,.int .i64 0]] g' (KQ Qf λv g'=>∃x,HasTy TT 22 x∧RetV v x∧EvF TT 28 [.agg [fld (.agg [fld x0 0,.int .i64 0,.str [],.str [],.int .i64 0,.nil,.nil,.int .i64 0]) 0,.int .i64 2,.str [],.str [],.int .i64 0,.nil,.nil,.int .i64 0]] g' (KQ Qf λv g'=>∃n n_1,RetT v [.int .i64 n,.int .i64 n_1]∧Br (n !=0) (EvF TT 9 [] g' (KQ Qf λv g'=>∃b,v=.d (.bool b)∧Qf (.val (.d (.bool b))) g')) (EvF TT 29 [x,sub x0 1 4,sub x0 6 3,.int .i64 200] g' (KQ Qf λv g'=>∃b,v=.d (.bool b)∧Br (!b) (EvF TT 9 [] g' (KQ Qf λv g'=>∃b,v=.d (.bool b)∧Qf (.val (.d (.bool b))) g')) (L6_9 (fld x0 5) x 0 (sub x0 6 3) (sub x0 1 4) g' Qf)))))))))))))):
 EvF TT 6 [x0] g Qf:=
 sx_fun (rk:=rk) (fn:=Tryz.f6) (loops:=lo6) (joins:=[]) (n:=100000) (args:=[(63,x0)]) rfl rfl rfl rfl ⟨h0,trivial⟩ (by kernel_rfl) h
theorem w6_9{x5:Dat}{x7:Dat}{n10:Int}{y6:Dat}{y4:Dat}{g:Glob}{Qf:OGP}
 (h:Br (decide (n10<(↑(elsOf x5).length:Int))) (InB n10 (elsOf x5).length∧Br (decide (intOf (fld (getE (elsOf x5) n10) 0)<1)) (EvF TT 9 [] g (KQ Qf λv g'=>∃b,v=.d (.bool b)∧Qf (.val (.d (.bool b))) g')) (InB n10 (elsOf x5).length∧Br (decide (4<intOf (fld (getE (elsOf x5) n10) 0))) (EvF TT 9 [] g (KQ Qf λv g'=>∃b,v=.d (.bool b)∧Qf (.val (.d (.bool b))) g')) (InB n10 (elsOf x5).length∧EvF TT 30 [x7,y4,getE (elsOf x5) n10,.int .i64 200] g (KQ Qf λv g'=>∃b,v=.d (.bool b)∧Br (!b) (EvF TT 9 [] g' (KQ Qf λv g'=>∃b,v=.d (.bool b)∧Qf (.val (.d (.bool b))) g')) (L6_9 x5 x7 (IntKind.i64.wrap (n10+1)) y6 y4 g' Qf))))) (EvF TT 17 [x7] g (KQ Qf λv g'=>∃x,HasTy TT 22 x∧RetV v x∧EvF TT 18 [x5] g' (KQ Qf λv g'=>∃x_1,HasTy TT 24 x_1∧RetV v x_1∧EvF TT 16 [x,x_1] g' (KQ Qf λv g'=>∃b n,RetT v [.bool b,.int .i64 n]∧EvF TT 17 [x7] g' (KQ Qf λv g'=>∃x,HasTy TT 22 x∧RetV v x∧EvF TT 18 [x5] g' (KQ Qf λv g'=>∃x_2,HasTy TT 24 x_2∧RetV v x_2∧EvF TT 19 [x,x_2] g' (KQ Qf λv g'=>∃x,HasTy TT 46 x∧∃n_1,RetT v [x,.int .i64 n_1]∧L6_17 x5 x7 b n x n_1 (-1) 0 y6 g' Qf)))))))):
 L6_9 x5 x7 n10 y6 y4 g Qf:=sx_cut (rk:=rk) (loops:=lo6) (joins:=[]) (n:=100000) (by kernel_rfl) h
theorem w6_17{x5:Dat}{x7:Dat}{b11:Bool}{n12:Int}{x13:Dat}{n14:Int}{n15:Int}{n16:Int}{y6:Dat}{g:Glob}{Qf:OGP}
 (h:Br (decide (n16<(↑(elsOf x5).length:Int))) (Br (decide (n15<0)) (EvF TT 17 [x7] g (KQ Qf λv g'=>∃x,HasTy TT 22 x∧RetV v x∧EvF TT 18 [x5] g' (KQ Qf λv g'=>∃x_1,HasTy TT 24 x_1∧RetV v x_1∧InB n16 (elsOf x_1).length∧EvF TT 24 [y6] g' (KQ Qf λv g'=>∃x_2,HasTy TT 55 x_2∧v=.d x_2∧EvF TT 23 [x,getE (elsOf x_1) n16,x_2] g' (KQ Qf λv g'=>∃b,v=.d (.bool b)∧Br b (L6_17 x5 x7 b11 n12 x13 n14 n16 (IntKind.i64.wrap (n16+1)) y6 g' Qf) (L6_17 x5 x7 b11 n12 x13 n14 n15 (IntKind.i64.wrap (n16+1)) y6 g' Qf)))))) (Br (n12==0) (Br b11 (Br (decide (n15<0)) (Qf (.val (.d (.bool false))) g) (L6_24 x13 n14 n15 0 g Qf)) (L6_24 x13 n14 n15 0 g Qf)) (L6_24 x13 n14 n15 0 g Qf))) (Br (n12==0) (Br b11 (Br (decide (n15<0)) (Qf (.val (.d (.bool false))) g) (L6_24 x13 n14 n15 0 g Qf)) (L6_24 x13 n14 n15 0 g Qf)) (L6_24 x13 n14 n15 0 g Qf))):
 L6_17 x5 x7 b11 n12 x13 n14 n15 n16 y6 g Qf:=sx_cut (rk:=rk) (loops:=lo6) (joins:=[]) (n:=100000) (by kernel_rfl) h
theorem w6_24{x13:Dat}{n14:Int}{n15:Int}{n17:Int}{g:Glob}{Qf:OGP}
 (h:Br (decide (n17<(↑(elsOf x13).length:Int))) (Br (n14==0) (InB n17 (elsOf x13).length∧Br (intOf (fld (getE (elsOf x13) n17) 0)==n15) (Qf (.val (.d (.bool false))) g) (L6_24 x13 n14 n15 (IntKind.i64.wrap (n17+1)) g Qf)) (EvF TT 9 [] g (KQ Qf λv g'=>∃b,v=.d (.bool b)∧Qf (.val (.d (.bool b))) g'))) (EvF TT 9 [] g (KQ Qf λv g'=>∃b,v=.d (.bool b)∧Qf (.val (.d (.bool b))) g'))):
 L6_24 x13 n14 n15 n17 g Qf:=sx_cut (rk:=rk) (loops:=lo6) (joins:=[]) (n:=100000) (by kernel_rfl) h
def L19_6(x0:Dat)(x6:Dat)(l7:List Dat)(x18:Dat)(n19:Int)(n20:Int)(g:Glob)(Qf:OGP):Prop:=CutP TT Tryz.f19 [1,1,1,1,0,1,0] Qf (mkC TT 19 Tryz.f19 2 [(0,.v 22 (x0)),(6,.v 86 (x6)),(7,.acc [(42,0)] 46 1 l7),(18,.v 86 (x18)),(19,.v 3 (.int .i64 n19)),(20,.v 3 (.int .i64 n20))] [] g)
def lo19:List CutI:=[⟨6,[(0,.keep),(6,.keep),(7,.acc [42]),(18,.keep),(19,.keep),(20,.keep)],[]⟩]
theorem w19{x0:Dat}{x1:Dat}{g:Glob}{Qf:OGP}(h0:HasTy TT 22 x0)(h1:HasTy TT 24 x1)
 (h:EvF TT 43 [x1] g (KQ Qf λv g'=>∃x,HasTy TT 86 x∧RetV v x∧EvF TT 46 [x0,x,.int .i64 1] g' (KQ Qf λv g'=>∃b,v=.d (.bool b)∧Br (!b) (∀(us:List Val),RetL us [.nil,.int .i64 1]→Qf (.val (.tuple us)) g') (L19_6 x0 x [] x (↑(elsOf x).length:Int) 0 g' Qf)))):
 EvF TT 19 [x0,x1] g Qf:=
 sx_fun (rk:=rk) (fn:=Tryz.f19) (loops:=lo19) (joins:=[]) (n:=100000) (args:=[(22,x0),(24,x1)]) rfl rfl rfl rfl ⟨h0,h1,trivial⟩ (by kernel_rfl) h
theorem w19_6{x0:Dat}{x6:Dat}{l7:List Dat}{x18:Dat}{n19:Int}{n20:Int}{g:Glob}{Qf:OGP}
 (h:Br (decide (n20<n19)) (InB n20 (elsOf x18).length∧InS 0 n20 (elsOf x6).length∧EvF TT 47 [x0,slSub 1 x6 (elsOf x6) 0 n20,fld (getE (elsOf x18) n20) 0] g (KQ Qf λv g'=>∃b n,RetT v [.bool b,.int .i64 n]∧Br (n !=0) (∀(us:List Val),RetL us [.nil,.int .i64 n]→Qf (.val (.tuple us)) g') (Br (!b) (Fits (l7.length+[Dat.int .i64 n20].length) 8∧L19_6 x0 x6 (l7++[Dat.int .i64 n20]) x18 n19 (IntKind.i64.wrap (n20+1)) g' Qf) (L19_6 x0 x6 l7 x18 n19 (IntKind.i64.wrap (n20+1)) g' Qf)))) (∀(us:List Val),RetL us [slOf 1 l7,.int .i64 0]→Qf (.val (.tuple us)) g)):
 L19_6 x0 x6 l7 x18 n19 n20 g Qf:=sx_cut (rk:=rk) (loops:=lo19) (joins:=[]) (n:=100000) (by kernel_rfl) h
def lo27:List CutI:=[]
theorem w27{x0:Dat}{g:Glob}{Qf:OGP}(h0:HasTy TT 61 x0)
 (h:EvF TT 51 [x0,.int .i64 0,.int .i64 0] g (KQ Qf λv g'=>∃n,v=.d (.int .i64 n)∧Qf (.val (.d (.bool (decide (n<0))))) g')):
 EvF TT 27 [x0] g Qf:=
 sx_fun (rk:=rk) (fn:=Tryz.f27) (loops:=lo27) (joins:=[]) (n:=100000) (args:=[(61,x0)]) rfl rfl rfl rfl ⟨h0,trivial⟩ (by kernel_rfl) h
def L29_11(x0:Dat)(n3:Int)(n9:Int)(n10:Int)(y6:Dat)(y5:Dat)(g:Glob)(Qf:OGP):Prop:=CutP TT Tryz.f29 [1,1,1,1,1,1,0,1,0] Qf (mkC TT 29 Tryz.f29 4 [(0,.v 22 (x0)),(3,.v 3 (.int .i64 n3)),(5,.loc 5 0 0),(6,.loc 6 0 0),(9,.v 3 (.int .i64 n9)),(10,.v 3 (.int .i64 n10))] [(6,.whole 55 y6),(5,.whole 61 y5)] g)
def lo29:List CutI:=[⟨11,[(0,.keep),(3,.keep),(5,.keep),(6,.keep),(9,.keep),(10,.keep)],[(6,.whole 55),(5,.whole 61)]⟩]
theorem w29{x0:Dat}{x1:Dat}{x2:Dat}{n3:Int}{g:Glob}{Qf:OGP}(h0:HasTy TT 22 x0)(h1:HasTy TT 61 x1)(h2:HasTy TT 55 x2)
 (h:Br (decide (n3<1)) (Qf (.val (.d (.bool false))) g) (Br (intOf (fld x1 0)==4) (EvF TT 56 [x0,.str (strOf (fld x1 1))] g (KQ Qf λv g'=>∃n,v=.d (.int .i64 n)∧Br (decide (n<0)) (Br (boolOf (fld x2 0)) (Qf (.val (.d (.bool ((↑(elsOf (fld x2 2)).length:Int)==0)))) g') (Qf (.val (.d (.bool false))) g')) (Br (boolOf (fld x2 0)) (Qf (.val (.d (.bool false))) g') (Br (decide (intOf (fld x2 1)<0)) (Qf (.val (.d (.bool false))) g') (InB n (elsOf x0).length∧Br (decide ((↑(elsOf (fld (getE (elsOf x0) n) 2)).length:Int)≤intOf (fld x2 1))) (Qf (.val (.d (.bool false))) g') (InB n (elsOf x0).length∧InB (intOf (fld x2 1)) (elsOf (fld (getE (elsOf x0) n) 2)).length∧Br ((↑(elsOf (fld x2 2)).length:Int)!=(↑(elsOf (fld (getE (elsOf (fld (getE (elsOf x0) n) 2)) (intOf (fld x2 1))) 1)).length:Int)) (Qf (.val (.d (.bool false))) g') (L29_11 x0 n3 n 0 x2 x1 g' Qf))))))) (Br (boolOf (fld x2 0)) (Qf (.val (.d (.bool ((↑(elsOf (fld x2 2)).length:Int)==0)))) g) (Qf (.val (.d (.bool false))) g)))):
 EvF TT 29 [x0,x1,x2,.int .i64 n3] g Qf:=
 sx_fun (rk:=rk) (fn:=Tryz.f29) (loops:=lo29) (joins:=[]) (n:=100000) (args:=[(22,x0),(61,x1),(55,x2),(3,.int .i64 n3)]) rfl rfl rfl rfl ⟨h0,h1,h2,tyInt rfl,trivial⟩ (by kernel_rfl) h
theorem w29_11{x0:Dat}{n3:Int}{n9:Int}{n10:Int}{y6:Dat}{y5:Dat}{g:Glob}{Qf:OGP}
 (h:Br (decide (n10<(↑(elsOf (fld y6 2)).length:Int))) (InB n9 (elsOf x0).length∧InB n9 (elsOf x0).length∧InB (intOf (fld y6 1)) (elsOf (fld (getE (elsOf x0) n9) 2)).length∧InB n10 (elsOf (fld (getE (elsOf (fld (getE (elsOf x0) n9) 2)) (intOf (fld y6 1))) 1)).length∧EvF TT 57 [getE (elsOf x0) n9,getE (elsOf (fld (getE (elsOf (fld (getE (elsOf x0) n9) 2)) (intOf (fld y6 1))) 1)) n10,fld y5 3] g λout g'=>Outc (λx=>InB n10 (elsOf (fld y6 2)).length∧Qf (.panic x) g') (λv=>∃x,HasTy TT 61 x∧v=.d x∧InB n10 (elsOf (fld y6 2)).length∧EvF TT 29 [x0,x,getE (elsOf (fld y6 2)) n10,.int .i64 (IntKind.i64.wrap (n3-1))] g' (KQ Qf λv g'=>∃b,v=.d (.bool b)∧Br (!b) (Qf (.val (.d (.bool false))) g') (L29_11 x0 n3 n9 (IntKind.i64.wrap (n10+1)) y6 y5 g' Qf))) out) (Qf (.val (.d (.bool true))) g)):
 L29_11 x0 n3 n9 n10 y6 y5 g Qf:=sx_cut (rk:=rk) (loops:=lo29) (joins:=[]) (n:=100000) (by kernel_rfl) h
def L30_16(x0:Dat)(n3:Int)(n9:Int)(n11:Int)(n13:Int)(y6:Dat)(y5:Dat)(g:Glob)(Qf:OGP):Prop:=CutP TT Tryz.f30 [1,1,1,1,1,1,1,0,1,0] Qf (mkC TT 30 Tryz.f30 4 [(0,.v 22 (x0)),(3,.v 3 (.int .i64 n3)),(5,.loc 5 0 0),(6,.loc 6 0 0),(9,.v 3 (.int .i64 n9)),(11,.v 3 (.int .i64 n11)),(13,.v 3 (.int .i64 n13))] [(6,.whole 52 y6),(5,.whole 61 y5)] g)
def lo30:List CutI:=[⟨16,[(0,.keep),(3,.keep),(5,.keep),(6,.keep),(9,.keep),(11,.keep),(13,.keep)],[(6,.whole 52),(5,.whole 61)]⟩]
theorem w30{x0:Dat}{x1:Dat}{x2:Dat}{n3:Int}{g:Glob}{Qf:OGP}(h0:HasTy TT 22 x0)(h1:HasTy TT 61 x1)(h2:HasTy TT 52 x2)
 (h:Br (decide (n3<1)) (Qf (.val (.d (.bool false))) g) (Br (intOf (fld x1 0)==4) (EvF TT 56 [x0,.str (strOf (fld x1 1))] g (KQ Qf λv g'=>∃n,v=.d (.int .i64 n)∧Br (intOf (fld x2 0)==1) (Br (intOf (fld x2 0)==1) (Qf (.val (.d (.bool ((↑(elsOf (fld x2 3)).length:Int)==0)))) g') (Br (intOf (fld x2 0)==3) (Br (decide (n<0)) (Br (intOf (fld x1 0)!=3) (Qf (.val (.d (.bool ((↑(elsOf (fld x2 3)).length:Int)==0)))) g') (Qf (.val (.d (.bool false))) g')) (Qf (.val (.d (.bool false))) g')) (EvF TT 50 [x0,.str (strOf (fld x2 1))] g' (KQ Qf λv g'=>∃n_1 n_2 b,RetT v [.int .i64 n_1,.int .i64 n_2,.bool b]∧Br (!b) (Qf (.val (.d (.bool false))) g') (Br (n_1 !=n) (Qf (.val (.d (.bool false))) g') (InB n (elsOf x0).length∧InB n_2 (elsOf (fld (getE (elsOf x0) n) 2)).length∧Br ((↑(elsOf (fld x2 3)).length:Int)!=(↑(elsOf (fld (getE (elsOf (fld (getE (elsOf x0) n) 2)) n_2) 1)).length:Int)) (Qf (.val (.d (.bool false))) g') (L30_16 x0 n3 n n_2 0 x2 x1 g' Qf))))))) (Br (intOf (fld x2 0)==2) (Qf (.val (.d (.bool ((↑(elsOf (fld x2 3)).length:Int)==0)))) g') (Br (intOf (fld x2 0)==3) (Br (decide (n<0)) (Br (intOf (fld x1 0)!=3) (Qf (.val (.d (.bool ((↑(elsOf (fld x2 3)).length:Int)==0)))) g') (Qf (.val (.d (.bool false))) g')) (Qf (.val (.d (.bool false))) g')) (EvF TT 50 [x0,.str (strOf (fld x2 1))] g' (KQ Qf λv g'=>∃n_1 n_2 b,RetT v [.int .i64 n_1,.int .i64 n_2,.bool b]∧Br (!b) (Qf (.val (.d (.bool false))) g') (Br (n_1 !=n) (Qf (.val (.d (.bool false))) g') (InB n (elsOf x0).length∧InB n_2 (elsOf (fld (getE (elsOf x0) n) 2)).length∧Br ((↑(elsOf (fld x2 3)).length:Int)!=(↑(elsOf (fld (getE (elsOf (fld (getE (elsOf x0) n) 2)) n_2) 1)).length:Int)) (Qf (.val (.d (.bool false))) g') (L30_16 x0 n3 n n_2 0 x2 x1 g' Qf))))))))) (Br (intOf (fld x2 0)==1) (Br (intOf (fld x2 0)==1) (Qf (.val (.d (.bool ((↑(elsOf (fld x2 3)).length:Int)==0)))) g) (Br (intOf (fld x2 0)==3) (Br (intOf (fld x1 0)!=3) (Qf (.val (.d (.bool ((↑(elsOf (fld x2 3)).length:Int)==0)))) g) (Qf (.val (.d (.bool false))) g)) (EvF TT 50 [x0,.str (strOf (fld x2 1))] g (KQ Qf λv g'=>∃n n_1 b,RetT v [.int .i64 n,.int .i64 n_1,.bool b]∧Br (!b) (Qf (.val (.d (.bool false))) g') (Br (n !=-1) (Qf (.val (.d (.bool false))) g') (InB (-1) (elsOf x0).length∧InB n_1 (elsOf (fld (getE (elsOf x0) (-1)) 2)).length∧Br ((↑(elsOf (fld x2 3)).length:Int)!=(↑(elsOf (fld (getE (elsOf (fld (getE (elsOf x0) (-1)) 2)) n_1) 1)).length:Int)) (Qf (.val (.d (.bool false))) g') (L30_16 x0 n3 (-1) n_1 0 x2 x1 g' Qf))))))) (Br (intOf (fld x2 0)==2) (Qf (.val (.d (.bool ((↑(elsOf (fld x2 3)).length:Int)==0)))) g) (Br (intOf (fld x2 0)==3) (Br (intOf (fld x1 0)!=3) (Qf (.val (.d (.bool ((↑(elsOf (fld x2 3)).length:Int)==0)))) g) (Qf (.val (.d (.bool false))) g)) (EvF TT 50 [x0,.str (strOf (fld x2 1))] g (KQ Qf λv g'=>∃n n_1 b,RetT v [.int .i64 n,.int .i64 n_1,.bool b]∧Br (!b) (Qf (.val (.d (.bool false))) g') (Br (n !=-1) (Qf (.val (.d (.bool false))) g') (InB (-1) (elsOf x0).length∧InB n_1 (elsOf (fld (getE (elsOf x0) (-1)) 2)).length∧Br ((↑(elsOf (fld x2 3)).length:Int)!=(↑(elsOf (fld (getE (elsOf (fld (getE (elsOf x0) (-1)) 2)) n_1) 1)).length:Int)) (Qf (.val (.d (.bool false))) g') (L30_16 x0 n3 (-1) n_1 0 x2 x1 g' Qf)))))))))):
 EvF TT 30 [x0,x1,x2,.int .i64 n3] g Qf:=
 sx_fun (rk:=rk) (fn:=Tryz.f30) (loops:=lo30) (joins:=[]) (n:=100000) (args:=[(22,x0),(61,x1),(52,x2),(3,.int .i64 n3)]) rfl rfl rfl rfl ⟨h0,h1,h2,tyInt rfl,trivial⟩ (by kernel_rfl) h
theorem w30_16{x0:Dat}{n3:Int}{n9:Int}{n11:Int}{n13:Int}{y6:Dat}{y5:Dat}{g:Glob}{Qf:OGP}
 (h:Br (decide (n13<(↑(elsOf (fld y6 3)).length:Int))) (InB n9 (elsOf x0).length∧InB n9 (elsOf x0).length∧InB n11 (elsOf (fld (getE (elsOf x0) n9) 2)).length∧InB n13 (elsOf (fld (getE (elsOf (fld (getE (elsOf x0) n9) 2)) n11) 1)).length∧EvF TT 57 [getE (elsOf x0) n9,getE (elsOf (fld (getE (elsOf (fld (getE (elsOf x0) n9) 2)) n11) 1)) n13,fld y5 3] g λout g'=>Outc (λx=>InB n13 (elsOf (fld y6 3)).length∧Qf (.panic x) g') (λv=>∃x,HasTy TT 61 x∧v=.d x∧InB n13 (elsOf (fld y6 3)).length∧EvF TT 30 [x0,x,getE (elsOf (fld y6 3)) n13,.int .i64 (IntKind.i64.wrap (n3-1))] g' (KQ Qf λv g'=>∃b,v=.d (.bool b)∧Br (!b) (Qf (.val (.d (.bool false))) g') (L30_16 x0 n3 n9 n11 (IntKind.i64.wrap (n13+1)) y6 y5 g' Qf))) out) (Qf (.val (.d (.bool true))) g)):
 L30_16 x0 n3 n9 n11 n13 y6 y5 g Qf:=sx_cut (rk:=rk) (loops:=lo30) (joins:=[]) (n:=100000) (by kernel_rfl) h
def L57_3(x2:Dat)(n7:Int)(y6:Dat)(y4:Dat)(y3:Dat)(g:Glob)(Qf:OGP):Prop:=CutP TT Tryz.f57 [1,0,1,0,0,1,0] Qf (mkC TT 57 Tryz.f57 3 [(2,.v 59 (x2)),(3,.loc 3 0 0),(4,.loc 4 0 0),(6,.loc 6 0 0),(7,.v 3 (.int .i64 n7))] [(6,.whole 61 y6),(4,.whole 61 y4),(3,.whole 84 y3)] g)
def L57_10(x2:Dat)(l8:List Dat)(n9:Int)(y6:Dat)(y4:Dat)(y3:Dat)(g:Glob)(Qf:OGP):Prop:=CutP TT Tryz.f57 [1,1,1,0,1,0] Qf (mkC TT 57 Tryz.f57 3 [(2,.v 59 (x2)),(3,.loc 3 0 0),(4,.loc 4 0 0),(6,.loc 6 0 0),(8,.acc [(56,0)] 59 4 l8),(9,.v 3 (.int .i64 n9))] [(6,.whole 61 y6),(4,.whole 61 y4),(3,.whole 84 y3)] g)
def lo57:List CutI:=[⟨3,[(2,.keep),(3,.keep),(4,.keep),(6,.keep),(7,.keep)],[(6,.whole 61),(4,.whole 61),(3,.whole 84)]⟩,⟨10,[(2,.keep),(3,.keep),(4,.keep),(6,.keep),(8,.acc [56]),(9,.keep)],[(6,.whole 61),(4,.whole 61),(3,.whole 84)]⟩]
theorem w57{x0:Dat}{x1:Dat}{x2:Dat}{g:Glob}{Qf:OGP}(h0:HasTy TT 84 x0)(h1:HasTy TT 61 x1)(h2:HasTy TT 59 x2)
 (h:Br (intOf (fld x1 0)==2) (L57_3 x2 0 (.agg [.int .i64 0,.str [],.int .i64 0,.nil]) x1 x0 g Qf) (L57_10 x2 [] 0 (.agg [.int .i64 0,.str [],.int .i64 0,.nil]) x1 x0 g Qf)):
 EvF TT 57 [x0,x1,x2] g Qf:=
 sx_fun (rk:=rk) (fn:=Tryz.f57) (loops:=lo57) (joins:=[]) (n:=100000) (args:=[(84,x0),(61,x1),(59,x2)]) rfl rfl rfl rfl ⟨h0,h1,h2,trivial⟩ (by kernel_rfl) h
theorem w57_3{x2:Dat}{n7:Int}{y6:Dat}{y4:Dat}{y3:Dat}{g:Glob}{Qf:OGP}
 (h:Br (decide (n7<(↑(elsOf (fld y3 1)).length:Int))) (Br (decide (n7<(↑(elsOf x2).length:Int))) (InB n7 (elsOf (fld y3 1)).length∧Br (strOf (fld (getE (elsOf (fld y3 1)) n7) 0)==strOf (fld y4 1)) (InB n7 (elsOf x2).length∧Qf (.val (.d (.agg [.int .i64 (intOf (fld (getE (elsOf x2) n7) 0)),.str (strOf (fld (getE (elsOf x2) n7) 1)),.int .i64 (intOf (fld (getE (elsOf x2) n7) 2)),fld (getE (elsOf x2) n7) 3]))) g) (L57_3 x2 (IntKind.i64.wrap (n7+1)) y6 y4 y3 g Qf)) (Qf (.val (.d (.agg [.int .i64 1,.str [],.int .i64 0,.nil]))) g)) (Qf (.val (.d (.agg [.int .i64 1,.str [],.int .i64 0,.nil]))) g)):
 L57_3 x2 n7 y6 y4 y3 g Qf:=sx_cut (rk:=rk) (loops:=lo57) (joins:=[]) (n:=100000) (by kernel_rfl) h
theorem w57_10{x2:Dat}{l8:List Dat}{n9:Int}{y6:Dat}{y4:Dat}{y3:Dat}{g:Glob}{Qf:OGP}
 (h:Br (decide (n9<(↑(elsOf (fld y4 3)).length:Int))) (InB n9 (elsOf (fld y4 3)).length∧EvF TT 57 [y3,getE (elsOf (fld y4 3)) n9,x2] g (KQ Qf λv g'=>∃x,HasTy TT 61 x∧v=.d x∧Fits (l8.length+[x].length) 56∧L57_10 x2 (l8++[x]) (IntKind.i64.wrap (n9+1)) y6 y4 y3 g' Qf)) (Qf (.val (.d (.agg [.int .i64 (intOf (.int .i64 (intOf (fld y4 0)))),.str (strOf (.str (strOf (fld y4 1)))),.int .i64 (intOf (.int .i64 (intOf (fld y4 2)))),fld (.agg [.int .i64 (intOf (fld y4 0)),.str (strOf (fld y4 1)),.int .i64 (intOf (fld y4 2)),slOf 4 l8]) 3]))) g)):
 L57_10 x2 l8 n9 y6 y4 y3 g Qf:=sx_cut (rk:=rk) (loops:=lo57) (joins:=[]) (n:=100000) (by kernel_rfl) h
end Go.Proofs.YtiheejdkkjfenaaGreatDoor.Pa
