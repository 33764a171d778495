/- Proved: the law ScopeRenames answers true for all arguments of bulk at most 1048576 together, and they read afterwards as before (towards the given statement ScopeRenamesUptoSaid). -/
import Derived.Test.YtgmapdcdmomioaaGreatDoorRE
import Derived.Test.YtgmapdcdmomioaaGreatDoorST
import Derived.Test.YtgmapdcdmomioaaGreatDoorCards
set_option linter.all false
set_option autoImplicit false
set_option maxRecDepth 100000
namespace Go.Proofs.YtgmapdcdmomioaaGreatDoor.Pa
open Go Go.Proofs.YtgmapdcdmomioaaGreatDoor.Am Go.ChangeShapes Go.WideShapes Go.ChangeAt Go.RowKit
theorem scopeRenames_contract(H:Type)(enc:TypeId×Value→H)(F:Stop.Interp)(W:World)(base:Nat)(args:Array Value)(ds gs:List (DataW H))(before:List MemPlace)
 (hval:∀(j:Nat) t v,Tryz.f13.params[j]?=some t→args[j]?=some v→Value.okWide Tryz.prog W .any base t v)
 (hW:DataW.Whole enc Tryz.prog Tryz.f13.params.toList Rows.scopeRenamesSpec.vars false W args.toList ds gs before) (hk:Rows.uptoSmall H (ds++gs)=true) (hlaid:ErrsIn W):
 Calls Tryz.prog 13 args W λe W'=>∃v,e=.returned v∧((Rows.OpenSpec.upto Rows.scopeRenamesSpec).at F).post enc Tryz.prog Tryz.f13 false true false false W args v W':=by
 have hW':=hW
 obtain⟨p,q,hA0,hV,rfl,hfz,hnd⟩:=hW
 have hA:DataW.TrodAll enc Tryz.prog W 0 (λ_=>true) true Tryz.f13.params.toList args.toList ds p:=hA0
 rw[Tryz.params13] at hA hval
 obtain⟨v0,vs0,d0,ds0,p0,q0,hargs,rfl,rfl,h0,r0⟩:=trodAll_cons hA
 obtain⟨rfl,rfl,rfl⟩:=trodAll_nil r0
 obtain rfl:args=#[v0]:=by cases args;simp_all
 obtain⟨rfl,rfl⟩:=trodVars_none hV
 have hb:Rows.uptoBulkAll ([d0]++([]:List (DataW H)))≤1048576:=of_decide_eq_true hk
 simp only[List.append_nil,Rows.uptoBulkAll] at hb
 have hlt:∀x∈p0++[],x.block<W.heap.size:=λx hx=>by simpa using hW'.lt x (by simpa using hx)
 have hback:∀(W':World),Below W.heap.size W W'→DataW.TrodAll enc Tryz.prog W' 0 (λb=>decide (b<W.heap.size)) true [29] [v0] [d0] (p0++[]):=λW' hn=>
  trodAll_cons_mk (Below.trod laidOut (by kernel_rfl) (of_decide_eq_true (by kernel_rfl)) h0 hn (λx hx=>hlt x (by simp[hx]))) trodAll_mk0
 obtain⟨a0,ha0,ra0,sb0⟩:=open_prog ⟨_,hval 0 29 v0 rfl rfl⟩ h0 (by omega)
 refine(renames_walk hlaid ha0 sb0 ra0).mono λe W' ⟨he,hn⟩=>?_
 subst he
 refine⟨_,rfl,_,_,_,[],_,[],hW',?_,hback _ hn,rfl,hn.frame _,λh=>by cases h⟩
 exact trodAll_mk1 (shut_bool Tryz.underlying4 _)
theorem scopeRenames_met(os:Os)(args:Array Value):laidMetH Tryz.prog Rows.scopeRenamesUptoRow.laid ((World.doorLaid Tryz.prog 62 os).forCall (λ_ _=>0) ⟨#[],args,[]⟩).memory:=
 laidMetH_of_parts3 (fuel:=8) (laidMet_of_run' 8 (by kernel_rfl) (by kernel_rfl)) (by kernel_rfl) (by kernel_rfl)
theorem scopeRenames_witness(os:Os)(H:Type)(enc:TypeId×Value→H):∃(w:World) (tape:Tape) (i:Input),w.os=os∧(w.forCall tape i).Shaped Tryz.checked.prog∧i.vars=[]∧Input.okWide Tryz.checked.prog (w.forCall tape i) .any w.heap.size 13 i∧
 (Rows.OpenSpec.upto Rows.scopeRenamesSpec).preRow enc Tryz.checked.prog Tryz.f13 Rows.scopeRenamesUptoRow.domain false Rows.scopeRenamesUptoRow.laid (w.forCall tape i).memory i.args∧({modest:=false}:Assume).holds Tryz.checked.prog (lone (Frame.enter Tryz.checked.prog 13 i.args .normal) [] (w.forCall tape i)):=by
 obtain⟨w,tape,i,h1,h2,h3,h4,h5,h6,_⟩:=OpenSpec.witness_stopped_atRef (enc:=enc) (C:=Tryz.checked) (fn:=Tryz.f13) (s:=Rows.OpenSpec.upto Rows.scopeRenamesSpec) (conds:=Rows.scopeRenamesUptoRow.domain) (apart:=false) (laid:=Rows.scopeRenamesUptoRow.laid) (f:=13) false
  (World.doorLaid Tryz.prog 62 os) #[.agg #[.slice none 0 0,.int .i64 0,.string ⟨#[]⟩,.string ⟨#[]⟩,.int .i64 0,.slice none 0 0,.slice none 0 0,.int .i64 0]] rfl (by kernel_rfl) (by kernel_rfl) (by kernel_rfl)
  (OpenSpec.preRow_of_cond 8 (x:=([.agg [.nil,.agg [.lit (.int .i64 0),.lit (.string []),.lit (.string []),.lit (.int .i64 0),.nil,.nil,.lit (.int .i64 0)]]],[],[])) (by kernel_rfl) (by kernel_rfl) (λk hk=>by cases hk;kernel_rfl) (by kernel_rfl) (scopeRenames_met os _)) (λ_ _ _=>0)
 exact⟨w,tape,i,h1,h2,h3,h4,h5,h6⟩
theorem scopeRenames_lifted(os:Os)(started:os.Started)(H:Type)(enc:TypeId×Value→H)(F:Stop.Interp):
 ReturnsInHanded {} Tryz.checked os 13 .any ((Rows.OpenSpec.upto Rows.scopeRenamesSpec).preRow enc Tryz.prog Tryz.f13 Rows.scopeRenamesUptoRow.domain false Rows.scopeRenamesUptoRow.laid) (((Rows.OpenSpec.upto Rows.scopeRenamesSpec).at F).post enc Tryz.prog Tryz.f13 false true false false):=by
 refine returnsInHanded_of_row (C:=Tryz.checked) (s:=Rows.OpenSpec.upto Rows.scopeRenamesSpec) ownTT started (by kernel_rfl) Tryz.func13 (scopeRenames_witness os H enc) ?_
 intro W base args ds gs before hval hW _ hk _ hlaid _ _
 exact scopeRenames_contract H enc F W base args ds gs before hval hW (hk _ rfl) (errs_of hlaid)
end Go.Proofs.YtgmapdcdmomioaaGreatDoor.Pa
