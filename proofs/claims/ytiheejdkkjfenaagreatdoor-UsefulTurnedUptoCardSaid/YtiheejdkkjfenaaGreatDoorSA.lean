/- What functions of the program do, printed by wip/tools/sx/sx.py. All types that there are, and where a constructor is: the law ScopeFinds answers true. -/
import Derived.Test.YtiheejdkkjfenaaGreatDoorRI
set_option linter.all false
set_option autoImplicit false
set_option maxRecDepth 100000
namespace Go.Proofs.YtiheejdkkjfenaaGreatDoor.Pa
open Go Go.Proofs.YtiheejdkkjfenaaGreatDoor.Am
def lo15:List CutI:=[]
theorem w15{x0:Dat}{g:Glob}{Qf:OGP}(h0:HasTy TT 28 x0)
 (h:EvF TT 17 [fld x0 0] g (KQ Qf λv g'=>∃x,HasTy TT 22 x∧RetV v x∧Fits (3+(elsOf x).length) 72∧Qf (.val (.uq 4 (.agg [.str [117,110,105,116],.nil,.sl 2 [.agg [.str [85,110,105,116],.nil]],.int .i64 0]::.agg [.str [98,111,111,108],.nil,.sl 2 [.agg [.str [70,97,108,115,101],.nil],.agg [.str [84,114,117,101],.nil]],.int .i64 0]::.agg [.str [108,105,115,116],.sl 1 [.str [97]],.sl 2 [.agg [.str [78,105,108],.nil],.agg [.str [67,111,110,115],.sl 4 [.agg [.int .i64 2,.str [97],.int .i64 0,.nil],.agg [.int .i64 4,.str [108,105,115,116],.int .i64 0,.sl 4 [.agg [.int .i64 2,.str [97],.int .i64 0,.nil]]]]]],.int .i64 0]::(elsOf x)))) g')):
 EvF TT 15 [x0] g Qf:=
 sx_fun (rk:=rk) (fn:=Tryz.f15) (loops:=lo15) (joins:=[]) (n:=100000) (args:=[(28,x0)]) rfl rfl rfl rfl ⟨h0,trivial⟩ (by kernel_rfl) h
def L49_2(s1:List UInt8)(x11:Dat)(n12:Int)(n13:Int)(g:Glob)(Qf:OGP):Prop:=CutP TT Tryz.f49 [1,0,1,0] Qf (mkC TT 49 Tryz.f49 2 [(1,.v 9 (.str s1)),(11,.v 22 (x11)),(12,.v 3 (.int .i64 n12)),(13,.v 3 (.int .i64 n13))] [] g)
def L49_5(s1:List UInt8)(n7:Int)(x11:Dat)(n12:Int)(n13:Int)(x19:Dat)(n20:Int)(n21:Int)(g:Glob)(Qf:OGP):Prop:=CutP TT Tryz.f49 [1,0,1,0,0,1,1,0,0,1,1,0] Qf (mkC TT 49 Tryz.f49 2 [(1,.v 9 (.str s1)),(7,.v 3 (.int .i64 n7)),(11,.v 22 (x11)),(12,.v 3 (.int .i64 n12)),(13,.v 3 (.int .i64 n13)),(19,.v 81 (x19)),(20,.v 3 (.int .i64 n20)),(21,.v 3 (.int .i64 n21))] [] g)
def lo49:List CutI:=[⟨2,[(1,.keep),(11,.keep),(12,.keep),(13,.keep)],[]⟩,⟨5,[(1,.keep),(7,.keep),(11,.keep),(12,.keep),(13,.keep),(19,.keep),(20,.keep),(21,.keep)],[]⟩]
theorem w49{x0:Dat}{s1:List UInt8}{g:Glob}{Qf:OGP}(h0:HasTy TT 22 x0)(h1:s1.length≤2^40)
 (h:L49_2 s1 x0 (↑(elsOf x0).length:Int) 0 g Qf):
 EvF TT 49 [x0,.str s1] g Qf:=
 sx_fun (rk:=rk) (fn:=Tryz.f49) (loops:=lo49) (joins:=[]) (n:=100000) (args:=[(22,x0),(9,.str s1)]) rfl rfl rfl rfl ⟨h0,tyStr rfl h1,trivial⟩ (by kernel_rfl) h
theorem w49_2{s1:List UInt8}{x11:Dat}{n12:Int}{n13:Int}{g:Glob}{Qf:OGP}
 (h:Br (decide (n13<n12)) (InB n13 (elsOf x11).length∧L49_5 s1 n13 x11 n12 n13 (fld (getE (elsOf x11) n13) 2) (↑(elsOf (fld (getE (elsOf x11) n13) 2)).length:Int) 0 g Qf) (Qf (.val (.tuple [.d (.int .i64 0),.d (.int .i64 0),.d (.bool false)])) g)):
 L49_2 s1 x11 n12 n13 g Qf:=sx_cut (rk:=rk) (loops:=lo49) (joins:=[]) (n:=100000) (by kernel_rfl) h
theorem w49_5{s1:List UInt8}{n7:Int}{x11:Dat}{n12:Int}{n13:Int}{x19:Dat}{n20:Int}{n21:Int}{g:Glob}{Qf:OGP}
 (h:Br (decide (n21<n20)) (InB n21 (elsOf x19).length∧Br (strOf (fld (getE (elsOf x19) n21) 0)==s1) (Qf (.val (.tuple [.d (.int .i64 n7),.d (.int .i64 n21),.d (.bool true)])) g) (L49_5 s1 n7 x11 n12 n13 x19 n20 (IntKind.i64.wrap (n21+1)) g Qf)) (L49_2 s1 x11 n12 (IntKind.i64.wrap (n13+1)) g Qf)):
 L49_5 s1 n7 x11 n12 n13 x19 n20 n21 g Qf:=sx_cut (rk:=rk) (loops:=lo49) (joins:=[]) (n:=100000) (by kernel_rfl) h
end Go.Proofs.YtiheejdkkjfenaaGreatDoor.Pa
namespace Go.Proofs.YtiheejdkkjfenaaGreatDoor.Pa
open Go Go.Proofs.YtiheejdkkjfenaaGreatDoor.Am
def baseL:List Dat:=[Dat.agg [Dat.str [117,110,105,116],Dat.nil,Dat.sl 2 [Dat.agg [Dat.str [85,110,105,116],Dat.nil]],Dat.int IntKind.i64 0],Dat.agg [Dat.str [98,111,111,108],Dat.nil,Dat.sl 2 [Dat.agg [Dat.str [70,97,108,115,101],Dat.nil],Dat.agg [Dat.str [84,114,117,101],Dat.nil]],Dat.int IntKind.i64 0],Dat.agg [Dat.str [108,105,115,116],Dat.sl 1 [Dat.str [97]],Dat.sl 2 [Dat.agg [Dat.str [78,105,108],Dat.nil],Dat.agg [Dat.str [67,111,110,115],Dat.sl 4 [Dat.agg [Dat.int IntKind.i64 2,Dat.str [97],Dat.int IntKind.i64 0,Dat.nil],Dat.agg [Dat.int IntKind.i64 4,Dat.str [108,105,115,116],Dat.int IntKind.i64 0,Dat.sl 4 [Dat.agg [Dat.int IntKind.i64 2,Dat.str [97],Dat.int IntKind.i64 0,Dat.nil]]]]]],Dat.int IntKind.i64 0]]
theorem fitOf{e:TypeId}{b n:Nat}(he:TT.bytes e=some b)(hb:b≤200)(h:n≤2^30):SlFit TT e n:=⟨by omega,λb' hb'=>by
 rw[he] at hb'
 cases hb'
 have:=Nat.mul_le_mul h hb
 omega⟩
theorem baseL_ty:∀y∈baseL,HasTy TT 84 y:=by
 have nilS:HasTy TT 82 .nil:=.nil _ (by rw[undStrs];rfl)
 have nilT:HasTy TT 59 .nil:=.nil _ (by rw[undTypes];rfl)
 have st:∀s:Str,s.length≤30→s.length≤2^40:=λs h=>by omega
 have con:∀(s:Str) (a:Dat),s.length≤30→HasTy TT 59 a→HasTy TT 80 (.agg [.str s,a]):=λs a h1 h2=>ty_con (st s h1) h2
 have cons:∀(xs:List Dat),xs.length≤30→xs≠[]→(∀x∈xs,HasTy TT 80 x)→HasTy TT 81 (.sl 2 xs):=λxs h1 h2 h3=>by
  have:=sl_ty (xs:=xs) undCons szCon (fitOf byCon (by omega) (by omega)) h3
  cases xs with
  |nil=>exact absurd rfl h2
  |cons a l=>exact this
 have types:∀(xs:List Dat),xs.length≤30→xs≠[]→(∀x∈xs,HasTy TT 61 x)→HasTy TT 59 (.sl 4 xs):=λxs h1 h2 h3=>by
  have:=sl_ty (xs:=xs) undTypes szType (fitOf byType (by omega) (by omega)) h3
  cases xs with
  |nil=>exact absurd rfl h2
  |cons a l=>exact this
 have tv:HasTy TT 61 (Dat.agg [Dat.int IntKind.i64 2,Dat.str [97],Dat.int IntKind.i64 0,Dat.nil]):=ty_type (by simp) nilT
 have tl:HasTy TT 61 (Dat.agg [Dat.int IntKind.i64 4,Dat.str [108,105,115,116],Dat.int IntKind.i64 0,Dat.sl 4 [Dat.agg [Dat.int IntKind.i64 2,Dat.str [97],Dat.int IntKind.i64 0,Dat.nil]]]):=ty_type (by simp) (types _ (by simp) (by simp) (by simpa using tv))
 intro y hy
 simp only[baseL,List.mem_cons,List.not_mem_nil,or_false] at hy
 rcases hy with rfl|rfl|rfl
 ·exact ty_decl (by simp) nilS (cons _ (by simp) (by simp) (by simpa using con _ _ (by simp) nilT))
 ·exact ty_decl (by simp) nilS (cons _ (by simp) (by simp) (by simpa using⟨con _ _ (by simp) nilT,con _ _ (by simp) nilT⟩))
 ·exact ty_decl (by simp) (ty_strs (l:=[[97]]) (by simp) (by simp) (by simp)) (cons _ (by simp) (by simp) (by simpa using⟨con _ _ (by simp) nilT,con _ _ (by simp) (types _ (by simp) (by simp) (by simpa using⟨tv,tl⟩))⟩))
def allDc(P:Pg):List Dc:=baseL.map absDc++P.ds
theorem r14All_ok(x:Dat)(g:Glob)(hx:HasTy TT 28 x)(hn:(absPg x).ds.length≤2^22)(Qf:OGP)(hQ:∀r,HasTy TT 22 r→(elsOf r).map absDc=allDc (absPg x)→∀v,RetV v r→Qf (.val v) g):EvF TT 15 [x] g Qf:=by
 refine w15 hx ?_
 obtain⟨d1,k1,s1,r1,n1,a1,b1,p1,rfl,hd1,he1⟩:=prog_ty hx
 have ed:=hd1.els undDecls
 have hn:(elsOf d1).length≤2^22:=by
  have:(absPg (.agg [d1,.int .i64 k1,.str s1,.str r1,.int .i64 n1,a1,b1,.int .i64 p1])).ds.length=(elsOf d1).length:=List.length_map _
  omega
 refine copyDecls_ok d1 g hd1 _ λl hl hn' ha'=>?_
 have tl:HasTy TT 22 (slOf 4 l):=slOf_ty undDecls szDecl (by rw[hn'];exact ed.1) hl
 refine⟨slOf 4 l,tl,retOf_ret _ _,(fitOf byDecl (by omega) (by rw[slOf_els];omega)).fits byDecl,?_⟩
 rw[slOf_els]
 have hty:HasTy TT 22 (.sl 4 (baseL++l)):=sl_ty (xs:=baseL++l) undDecls szDecl (fitOf byDecl (by omega) (by simp[baseL];omega)) (λy hy=>(List.mem_append.1 hy).elim (baseL_ty y) (hl y))
 refine hQ (.sl 4 (baseL++l)) hty ?_ _ rfl
 rw[elsOf,List.map_append,ha']
 rfl
def findCn(s:Str):List Cn→Int→Option Int
 |[],_=>none
 |c::l,i=>bif c.s==s then some i else findCn s l (i+1)
def findDc(s:Str):List Dc→Int→Int×Int×Bool
 |[],_=>(0,0,false)
 |d::l,i=>match findCn s d.cs 0 with
  |some k=>(i,k,true)
  |none=>findDc s l (i+1)
def out3(r:Int×Int×Bool):Out:=.val (.tuple [.d (.int .i64 r.1),.d (.int .i64 r.2.1),.d (.bool r.2.2)])
theorem find_ok(x:Dat)(s:Str)(g:Glob)(hx:HasTy TT 22 x)(hs:s.length≤2^40)(Qf:OGP)(hQ:Qf (out3 (findDc s ((elsOf x).map absDc) 0)) g):EvF TT 49 [x,.str s] g Qf:=by
 have ed:=hx.els undDecls
 have edl:=ed.1.1
 refine w49 hx hs ?_
 refine loopUp (len:=(elsOf x).length) (λi=>Qf (out3 (findDc s (((elsOf x).drop i).map absDc) (i:Int))) g→L49_2 s x ((elsOf x).length:Int) (i:Int) g Qf) ?_ ?_ 0 (Nat.zero_le _) hQ
 ·intro hQ
  refine w49_2 ?_
  rw[Br_ge]
  rw[List.drop_length] at hQ
  exact hQ
 ·intro i hi ih hQ
  refine w49_2 ?_
  rw[Br_lt hi,getE_nat hi]
  rw[drop_map_cons hi,findDc,absDc_cs] at hQ
  obtain⟨s2,a2,b2,p2,e2,_,ha2,hb2⟩:=decl_ty (ed.2 _ (List.getElem_mem hi))
  rw[e2] at hQ⊢
  have f2:fld (Dat.agg [.str s2,a2,b2,.int .i64 p2]) 2=b2:=rfl
  rw[f2] at hQ⊢
  have eb:=hb2.els undCons
  have ebl:=eb.1.1
  refine⟨inB hi,?_⟩
  refine loopUp (len:=(elsOf b2).length) (λj=>Qf (match findCn s (((elsOf b2).drop j).map absCn) (j:Int) with|some k=>out3 ((i:Int),k,true)|none=>out3 (findDc s (((elsOf x).drop (i+1)).map absDc) ((i:Int)+1))) g→L49_5 s (i:Int) x ((elsOf x).length:Int) (i:Int) b2 ((elsOf b2).length:Int) (j:Int) g Qf) ?_ ?_ 0 (Nat.zero_le _) ?_
  ·intro hQ
   refine w49_5 ?_
   rw[Br_ge,wrap_nat (by omega)]
   rw[List.drop_length] at hQ
   exact ih hQ
  ·intro j hj ihj hQ
   refine w49_5 ?_
   rw[Br_lt hj,getE_nat hj]
   rw[drop_map_cons hj,findCn] at hQ
   refine⟨inB hj,?_⟩
   show Br ((absCn (elsOf b2)[j]).s==s) _ _
   cases hc:((absCn (elsOf b2)[j]).s==s) with
   |true=>rw[hc] at hQ;exact hQ
   |false=>
    rw[hc] at hQ
    rw[Br_false,wrap_nat (by omega)]
    exact ihj hQ
  ·rw[List.drop_zero]
   cases hf:findCn s ((elsOf b2).map absCn) 0 with
   |none=>
    rw[hf] at hQ
    exact hQ
   |some k=>
    rw[hf] at hQ
    exact hQ
theorem strB_len{x:Dat}(h:StrB x):(elsOf x).length≤2^21:=by
 cases h with
 |sl m xs hl h=>exact hl
 |_=>simp[elsOf]
end Go.Proofs.YtiheejdkkjfenaaGreatDoor.Pa
