/- Show: programs, expressions, types, of the program's and of the document's. -/
import Derived.Test.YtmlghadphdpbjaaGreatDoorSD
set_option linter.all false
set_option autoImplicit false
set_option maxRecDepth 100000
namespace Go.Proofs.YtmlghadphdpbjaaGreatDoor.Pa
open Go Go.Proofs.YtmlghadphdpbjaaGreatDoor.Am
section
variable{g:Glob}{q w:Nat}{b full:Str}{Qf:OGP}{x:Dat}
theorem declW(hx:HasTy TT 50 x)(hd:DcOk (absDc x))(hw:Wr g w q b)(hl:b.length+(tDc (absDc x)).length≤2^40)(hQ:∀g',Wr g' w q (b++tDc (absDc x))→Qf (.val (.tuple [])) g'):EvF TT 42 [.ptr (some (w,0)),x] g Qf:=by
 refine w42 hx ?_
 obtain⟨s1,a1,b1,p1,rfl,hs1,t1,u1⟩:=decl_ty hx
 have ea:=t1.els undStrs
 have eb:=u1.els undCons
 have eal:=ea.1.1
 have ebl:=eb.1.1
 have f0:strOf (fld (.agg [.str s1,a1,b1,.int .i64 p1]) 0)=s1:=rfl
 have f1:fld (.agg [.str s1,a1,b1,.int .i64 p1]) 1=a1:=rfl
 have f2:fld (.agg [.str s1,a1,b1,.int .i64 p1]) 2=b1:=rfl
 have e0:absDc (.agg [.str s1,a1,b1,.int .i64 p1])=⟨s1,(elsOf a1).map strOf,(elsOf b1).map absCn,p1⟩:=rfl
 rw[e0] at hd hl hQ
 have hcs:=hd.cs
 simp only[tDc] at hl hQ hcs
 generalize Dat.agg [.str s1,a1,b1,.int .i64 p1]=X at*
 rw[f0,f1]
 simp only[List.length_append,List.length_cons,List.length_nil] at hl
 refine put_ok hw rfl (by simp) (by simp[catD,strOf];omega) λg1 h1=>?_
 have cons:∀g1 b1',Wr g1 w q b1'→b1'++tCs tEqS ((elsOf b1).map absCn)=b++([116,121,112,101,32]++(s1++(tVs ((elsOf a1).map strOf)++tCs tEqS ((elsOf b1).map absCn))))→L42_9 w [32,61,32] b1 ((elsOf b1).length:Int) 0 g1 Qf:=λg1 b1' h1 h2=>by
  refine loopUp (len:=(elsOf b1).length) (λi=>∀g1 b1' hd,Wr g1 w q b1'→b1'++tCs hd (((elsOf b1).drop i).map absCn)=b++([116,121,112,101,32]++(s1++(tVs ((elsOf a1).map strOf)++tCs tEqS ((elsOf b1).map absCn))))→L42_9 w hd b1 ((elsOf b1).length:Int) (i:Int) g1 Qf) ?_ ?_ 0 (Nat.zero_le _) g1 b1' [32,61,32] h1 h2
  ·intro g1 b1' hd h1 h2
   have hlen:=congrArg List.length h2
   refine w42_9 ?_
   rw[Br_ge]
   rw[List.drop_length,List.map_nil,tCs] at h2 hlen
   simp only[List.length_append,List.length_cons,List.length_nil] at hlen
   exact put_ok h1 rfl (by simp) (by simp[catD,strOf];omega) λg3 hg3=>hQ g3 (by rw[←h2];simpa[catD,strOf] using hg3)
  ·intro i hi ih g1 b1' hd h1 h2
   rw[drop_map_cons hi,tCs] at h2
   have hlen:=congrArg List.length h2
   obtain⟨s3,f3,e3,hs3,hf3⟩:=con_ty (eb.2 _ (List.getElem_mem hi))
   have hok:=hcs _ (List.mem_map.2 ⟨_,List.getElem_mem hi,rfl⟩)
   refine w42_9 ?_
   rw[Br_lt hi,getE_nat hi]
   have ea:absCn (elsOf b1)[i]=⟨s3,(elsOf f3).map absTy⟩:=by rw[e3];show(⟨s3,absTyA f3⟩:Cn)=_;rw[absTyA_map]
   rw[ea] at h2 hlen hok
   rw[e3,show fld (.agg [.str s3,f3]) 1=f3 from rfl,show strOf (fld (.agg [.str s3,f3]) 0)=s3 from rfl]
   simp only[List.length_append,List.length_cons,List.length_nil] at hlen
   refine⟨inB hi,put_ok h1 rfl (by simp) (by simp[catD,strOf,fld,nth];omega) λg2 k2=>?_⟩
   have k3:Wr g2 w q (b1'++(hd++s3)):=by simpa[catD,strOf,fld,nth] using k2
   refine fields_ok (typ_ok _) (Nat.le_refl _) hf3 hok.2.1 k3 (by simp only[List.length_append];omega) λg3 h3=>⟨trivial,?_⟩
   rw[wrap_nat (by omega)]
   exact ih _ _ _ h3 (by rw[←h2];simp only[List.append_assoc];rfl)
 refine loopUp (len:=(elsOf a1).length) (λi=>∀g1 b1',Wr g1 w q b1'→b1'++(tVs (((elsOf a1).drop i).map strOf)++tCs tEqS ((elsOf b1).map absCn))=b++([116,121,112,101,32]++(s1++(tVs ((elsOf a1).map strOf)++tCs tEqS ((elsOf b1).map absCn))))→L42_3 w a1 ((elsOf a1).length:Int) (i:Int) X g1 Qf) ?_ ?_ 0 (Nat.zero_le _) g1 _ h1 (by simp[catD,strOf])
 ·intro g1 b1' h1 h2
  refine w42_3 ?_
  rw[Br_ge,f2]
  rw[List.drop_length,List.map_nil,tVs,List.nil_append] at h2
  exact cons _ _ h1 h2
 ·intro i hi ih g1 b1' h1 h2
  rw[drop_map_cons hi,tVs] at h2
  have hlen:=congrArg List.length h2
  obtain⟨s3,e3,hs3⟩:=str_ty (ea.2 _ (List.getElem_mem hi))
  refine w42_3 ?_
  rw[Br_lt hi,getE_nat hi]
  rw[e3] at h2 hlen⊢
  simp only[strOf,List.length_append,List.length_cons,List.length_nil] at hlen
  refine⟨inB hi,put_ok h1 rfl (by simp) (by simp[catD,strOf,fld];omega) λg2 k2=>?_⟩
  rw[wrap_nat (by omega)]
  exact ih _ _ k2 (by rw[←h2];simp[catD,strOf,fld])
end
def shS(ok:Bool)(s:Str):Str:=bif ok&&Nat.ble s.length 8192 then s else[]
def shN(ok:Bool)(s:Str):Int:=bif ok then(bif Nat.ble s.length 8192 then 0 else 2) else 1
theorem shS_len(ok:Bool)(s:Str):(shS ok s).length≤8192:=by
 unfold shS
 cases h:(ok&&Nat.ble s.length 8192) with
 |true=>rw[Bool.and_eq_true] at h;exact Nat.le_of_ble_eq_true h.2
 |false=>simp
theorem cut_sh(s:Str):cut s=[.str (shS true s),.int .i64 (shN true s)]:=by
 unfold shS shN
 by_cases h:s.length≤8192
 ·rw[cut_le h,Nat.ble_eq_true_of_le h];rfl
 ·rw[cut_gt (by omega),show Nat.ble s.length 8192=false from Bool.eq_false_iff.2 λe=>h (Nat.le_of_ble_eq_true e)];rfl
def Shown(ok:Bool)(s:Str)(Qf:OGP):Prop:=∀g',Qf (.val (.tuple [.d (.str (shS ok s)),.d (.int .i64 (shN ok s))])) g'
theorem wr_new(g:Glob):Wr (gnew (gnew g [.nil]) [.iface 63 (.ptr (some (g.boxes.length,0)))]) (gnew g [.nil]).boxes.length g.boxes.length []:=by
 refine⟨by simp[gnew],⟨.nil,by simp[gnew],.inl ⟨rfl,rfl⟩⟩,by simp[gnew]⟩
section
variable{g:Glob}{q w:Nat}{b full:Str}{Qf:OGP}{x:Dat}
theorem doneR(hw:Wr g w q b)(hl:b.length≤2^40)(hQ:Shown true b Qf):EvF TT 28 [.ptr (some (w,0))] g (KQ Qf λv g'=>∃s,s.length.le 1099511627776∧∃n,RetT v [Dat.str s,Dat.int IntKind.i64 n]∧Qf (Out.val (Val.tuple [Val.d (Dat.str s),Val.d (Dat.int IntKind.i64 n)])) g'):=by
 refine done_ok hw hl ?_
 rw[cut_sh]
 exact⟨shS true b,leLe (Nat.le_trans (shS_len _ _) (by omega)),shN true b,⟨rfl,rfl,trivial⟩,hQ _⟩
theorem showProgram_ok(hx:HasTy TT 44 x)(hp:Pre (absPg x))(hQ:Shown (rCheckP (absPg x)) (tPg (absPg x)) Qf):EvF TT 21 [x] g Qf:=by
 refine w21 hx (parseCheck_ok hx hp ⟨_,rfl,?_⟩)
 rw[checkP_eq]
 cases hc:rCheckP (absPg x) with
 |false=>rw[hc] at hQ;exact hQ g
 |true=>
  rw[hc] at hQ
  obtain⟨c1,c2,c3,c4⟩:=check_show hc
  have hpd:=hp.ds
  obtain⟨d1,k1,s1,r1,n1,a1,b1,p1,rfl,hd1,he1⟩:=prog_ty hx
  have ed:=hd1.els undDecls
  have edl:=ed.1.1
  have f0:fld (.agg [d1,.int .i64 k1,.str s1,.str r1,.int .i64 n1,a1,b1,.int .i64 p1]) 0=d1:=rfl
  have e0:(absPg (.agg [d1,.int .i64 k1,.str s1,.str r1,.int .i64 n1,a1,b1,.int .i64 p1])).ds=(elsOf d1).map absDc:=rfl
  have e1:(absPg (.agg [d1,.int .i64 k1,.str s1,.str r1,.int .i64 n1,a1,b1,.int .i64 p1])).e=absEx (.agg [.int .i64 k1,.str s1,.str r1,.int .i64 n1,a1,b1,.int .i64 p1]):=rfl
  have f1:sub (.agg [d1,.int .i64 k1,.str s1,.str r1,.int .i64 n1,a1,b1,.int .i64 p1]) 1 7=.agg [.int .i64 k1,.str s1,.str r1,.int .i64 n1,a1,b1,.int .i64 p1]:=rfl
  rw[e1] at c2 c3
  rw[e0] at c1 c4 hpd
  unfold tPg at hQ
  rw[e0,e1] at hQ
  have le:=tEx_len _ c3
  have ld:=tDs_len (l:=(elsOf d1).map absDc) λd hd=>tDc_len (c4 d hd) λc hc t ht=>(hpd d hd |>.2 c hc t ht).1
  generalize Dat.agg [d1,.int .i64 k1,.str s1,.str r1,.int .i64 n1,a1,b1,.int .i64 p1]=X at*
  generalize Dat.agg [.int .i64 k1,.str s1,.str r1,.int .i64 n1,a1,b1,.int .i64 p1]=Y at*
  rw[f0,Bool.not_true,Br_false]
  refine loopUp (len:=(elsOf d1).length) (λi=>∀g1 b1',Wr g1 (gnew g [.nil]).boxes.length g.boxes.length b1'→b1'++tDs (((elsOf d1).drop i).map absDc)=tDs ((elsOf d1).map absDc)→L21_5 (gnew g [.nil]).boxes.length d1 ((elsOf d1).length:Int) (i:Int) X g1 Qf) ?_ ?_ 0 (Nat.zero_le _) _ _ (wr_new g) rfl
  ·intro g1 b1' h1 h2
   refine w21_5 ?_
   rw[Br_ge,f1]
   rw[List.drop_length,List.map_nil,tDs,List.append_nil] at h2
   subst h2
   refine exprW _ Y g1 _ _ _ _ (Nat.lt_succ_self _) he1 c3 h1 (by omega) λg2 h2=>⟨trivial,put_ok h2 rfl (by simp) (by simp[catD,strOf];omega) λg3 h3=>doneR h3 (by simp[catD,strOf];omega) ?_⟩
   simpa[catD,strOf] using hQ
  ·intro i hi ih g1 b1' h1 h2
   rw[drop_map_cons hi,tDs] at h2
   have hlen:=congrArg List.length h2
   simp only[List.length_append] at hlen
   refine w21_5 ?_
   rw[Br_lt hi,getE_nat hi]
   refine⟨inB hi,declW (ed.2 _ (List.getElem_mem hi)) (c4 _ (List.mem_map.2 ⟨_,List.getElem_mem hi,rfl⟩)) h1 (by omega) λg2 h3=>⟨trivial,?_⟩⟩
   rw[wrap_nat (by omega)]
   exact ih _ _ h3 (by rw[←h2];simp only[List.append_assoc])
end
end Go.Proofs.YtmlghadphdpbjaaGreatDoor.Pa
