/- Show: programs, expressions, types, of the program's and of the document's. -/
import Derived.Test.YtmlghadphdpbjaaGreatDoorSD
set_option linter.all false
set_option autoImplicit false
set_option maxRecDepth 100000
namespace Go.Proofs.YtmlghadphdpbjaaGreatDoor.Pa
open Go Go.Proofs.YtmlghadphdpbjaaGreatDoor.Am
section
variable{g:Glob}{q w:Nat}{b full:Str}{Qf:OGP}{x:Dat}
end
def shS(ok:Bool)(s:Str):Str:=bif ok&&Nat.ble s.length 8192 then s else[]
def shN(ok:Bool)(s:Str):Int:=bif ok then(bif Nat.ble s.length 8192 then 0 else 2) else 1
theorem shS_len(ok:Bool)(s:Str):(shS ok s).length≤8192:=by
 unfold shS
 cases h:(ok&&Nat.ble s.length 8192) with
 |true=>rw[Bool.and_eq_true] at h;exact Nat.le_of_ble_eq_true h.2
 |false=>simp
theorem cut_sh(s:Str):cut s=[.str (shS true s),.int .i64 (shN true s)]:=by
 unfold shS shN
 by_cases h:s.length≤8192
 ·rw[cut_le h,Nat.ble_eq_true_of_le h];rfl
 ·rw[cut_gt (by omega),show Nat.ble s.length 8192=false from Bool.eq_false_iff.2 λe=>h (Nat.le_of_ble_eq_true e)];rfl
def Shown(ok:Bool)(s:Str)(Qf:OGP):Prop:=∀g',Qf (.val (.tuple [.d (.str (shS ok s)),.d (.int .i64 (shN ok s))])) g'
theorem wr_new(g:Glob):Wr (gnew (gnew g [.nil]) [.iface 63 (.ptr (some (g.boxes.length,0)))]) (gnew g [.nil]).boxes.length g.boxes.length []:=by
 refine⟨by simp[gnew],⟨.nil,by simp[gnew],.inl ⟨rfl,rfl⟩⟩,by simp[gnew]⟩
section
variable{g:Glob}{q w:Nat}{b full:Str}{Qf:OGP}{x:Dat}
theorem doneR(hw:Wr g w q b)(hl:b.length≤2^40)(hQ:Shown true b Qf):EvF TT 28 [.ptr (some (w,0))] g (KQ Qf λv g'=>∃s,s.length.le 1099511627776∧∃n,RetT v [Dat.str s,Dat.int IntKind.i64 n]∧Qf (Out.val (Val.tuple [Val.d (Dat.str s),Val.d (Dat.int IntKind.i64 n)])) g'):=by
 refine done_ok hw hl ?_
 rw[cut_sh]
 exact⟨shS true b,leLe (Nat.le_trans (shS_len _ _) (by omega)),shN true b,⟨rfl,rfl,trivial⟩,hQ _⟩
def tyDat(c:Str)(x:Dat):Dat:=.agg [.sl 4 [.agg [.str [116],.nil,.sl 2 [.agg [.str c,.sl 4 [x]]],.int .i64 0]],.int .i64 2,.str [],.str [],.int .i64 0,.nil,.nil,.int .i64 0]
theorem fitOne{e:TypeId}{b:Nat}(he:TT.bytes e=some b)(hb:b≤200):SlFit TT e 1:=⟨by omega,λb' hb'=>by
 rw[he] at hb'
 cases hb'
 omega⟩
theorem tyDat_ty{c:Str}(hc:c.length≤30)(hx:HasTy TT 28 x):HasTy TT 44 (tyDat c x):=by
 have nilS:HasTy TT 47 .nil:=.nil _ (by rw[undStrs];rfl)
 have nilE:HasTy TT 22 .nil:=.nil _ (by rw[undExprs];rfl)
 have nilP:HasTy TT 23 .nil:=.nil _ (by rw[undPats];rfl)
 have one:∀{t e:TypeId} {m:Nat} {d:Dat},TT.und t=some (.slice e)→TT.size e=some m→SlFit TT e 1→HasTy TT e d→HasTy TT t (.sl m [d]):=λhu hs hf hd=>
  .sl _ _ _ _ hu hs hf λy hy=>by simp only[List.mem_singleton] at hy;subst hy;exact hd
 exact ty_prog (one undDecls szDecl (fitOne byDecl (by omega)) (ty_decl (by simp) nilS (one undCons szCon (fitOne byCon (by omega)) (ty_con (by omega) (one undTypes szType (fitOne byType (by omega)) hx))))) (ty_expr (by simp) (by simp) nilE nilP)
theorem tyDat_abs(c:Str)(x:Dat):absPg (tyDat c x)=tyPg c (absTy x):=rfl
theorem showType_ok(hx:HasTy TT 28 x)(hp:Pre (tyPg [84] (absTy x)))(hQ:Shown (rCheckP (tyPg [67] (absTy x))) (tTy (absTy x)) Qf):EvF TT 14 [x] g Qf:=by
 refine w14 hx ?_
 refine parseCheck_ok (x:=tyDat [84] x) (tyDat_ty (by simp) hx) (by rw[tyDat_abs];exact hp) ⟨_,rfl,?_⟩
 rw[checkP_eq,tyDat_abs,tyPg_check]
 cases hc:rCheckP (tyPg [67] (absTy x)) with
 |false=>rw[hc] at hQ;exact hQ g
 |true=>
  rw[hc] at hQ
  have ho:=tyPg_ok hc
  have le:=tTy_len _ ho
  have hn:ndTy (absTy x)≤20000:=((hp.ds _ List.mem_cons_self).2 ⟨[84],[absTy x]⟩ List.mem_cons_self (absTy x) List.mem_cons_self).1
  rw[Bool.not_true,Br_false]
  refine typ_ok _ x _ _ _ [] _ (Nat.lt_succ_self _) hx ho (wr_new g) (by simp only[List.length_nil];omega) λg2 h2=>⟨trivial,doneR h2 (by simp only[List.nil_append];omega) ?_⟩
  simpa using hQ
end
end Go.Proofs.YtmlghadphdpbjaaGreatDoor.Pa
