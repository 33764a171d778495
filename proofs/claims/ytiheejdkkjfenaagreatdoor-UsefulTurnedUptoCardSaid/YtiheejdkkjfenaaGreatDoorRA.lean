/- Contracts of the library at this program, as the kit's shelf lays them. What lex.number answers, from any memory that has the library's two errors. slices.Clone of strings, as the kit's shelf lays it, in the plain machine. -/
import Derived.Shelf.Strconv.AtoiAll
import Derived.Shelf.Small.Wraps
import Derived.Shelf.LaysC
import Derived.Test.YtiheejdkkjfenaaGreatDoorProg
import Derived.WalkKit
import Derived.BigCall
import Derived.Handy
import Derived.Shelf.Slices.Clone
import Derived.Test.YtiheejdkkjfenaaGreatDoorRB
set_option linter.all false
set_option autoImplicit false
namespace Go.Proofs
open Go.Shelf
def Tryz.lays103_ren:Go.Shelf.Ren:=⟨λ|103=>200|210=>221|206=>203|n=>n,λ|9=>9|4=>4|24=>228|3=>3|n=>n,λ|n=>n⟩
theorem Tryz.lays103:Go.Proofs.Lays.n103 Tryz.prog Tryz.lays103_ren:={
 mixed:=by kernel_rfl
 f103:=Tryz.func200.trans (congrArg some (by kernel_rfl))
 f206:=Tryz.func203.trans (congrArg some (by kernel_rfl))
 f210:=Tryz.func221.trans (congrArg some (by kernel_rfl))
 t3:=Tryz.underlying3
 a3:=Tryz.isAgg3
 z3:=Tryz.sizeOf3
 v3:=Tryz.zeroValue3
 t4:=Tryz.underlying4
 a4:=Tryz.isAgg4
 z4:=Tryz.sizeOf4
 v4:=Tryz.zeroValue4
 t9:=Tryz.underlying9
 a9:=Tryz.isAgg9
 z9:=Tryz.sizeOf9
 v9:=Tryz.zeroValue9
 t24:=Tryz.underlying228
 a24:=Tryz.isAgg228
 z24:=Tryz.sizeOf228
 v24:=Tryz.zeroValue228}
theorem Tryz.strings_CutPrefix(s p:ByteArray)(w:World):
 Calls Tryz.prog 200 #[.string s,.string p] w λe w'=>e=.returned (.tuple #[.string ⟨(Lib.trimPrefix s.data.toList p.data.toList).toArray⟩,.bool (Lib.hasPrefix s.data.toList p.data.toList)])∧w'=w:=Any.strings_CutPrefix Tryz.lays103 s p w
def Tryz.laysC172_ren:Go.Shelf.Ren:=⟨λ|172=>201|244=>222|245=>223|247=>235|279=>236|280=>237|281=>238|282=>239|287=>246|316=>247|171=>242|205=>248|321=>252|322=>253|243=>249|246=>254|283=>257|284=>258|285=>259|286=>260|129=>262|317=>261|318=>263|319=>264|320=>265|337=>266|338=>267|n=>n,λ|9=>9|3=>3|75=>231|76=>232|4=>4|5=>5|167=>251|37=>252|0=>0|85=>253|2=>2|168=>255|53=>217|175=>265|46=>173|210=>269|127=>271|145=>275|143=>273|21=>21|171=>280|173=>283|212=>287|51=>214|20=>20|213=>288|232=>291|233=>292|80=>264|n=>n,λ|15=>1|16=>2|17=>3|18=>4|19=>5|n=>n⟩
theorem Tryz.laysC172:Go.Proofs.LaysC.n172 Tryz.prog Tryz.laysC172_ren:={
 mixed:=by kernel_rfl
 f129:=Tryz.func262.trans (congrArg some (by kernel_rfl))
 f171:=Tryz.func242.trans (congrArg some (by kernel_rfl))
 f172:=Tryz.func201.trans (congrArg some (by kernel_rfl))
 f205:=Tryz.func248.trans (congrArg some (by kernel_rfl))
 f243:=Tryz.func249.trans (congrArg some (by kernel_rfl))
 f244:=Tryz.func222.trans (congrArg some (by kernel_rfl))
 f245:=Tryz.func223.trans (congrArg some (by kernel_rfl))
 f246:=Tryz.func254.trans (congrArg some (by kernel_rfl))
 f247:=Tryz.func235.trans (congrArg some (by kernel_rfl))
 f279:=Tryz.func236.trans (congrArg some (by kernel_rfl))
 f280:=Tryz.func237.trans (congrArg some (by kernel_rfl))
 f281:=Tryz.func238.trans (congrArg some (by kernel_rfl))
 f282:=Tryz.func239.trans (congrArg some (by kernel_rfl))
 f283:=Tryz.func257.trans (congrArg some (by kernel_rfl))
 f284:=Tryz.func258.trans (congrArg some (by kernel_rfl))
 f285:=Tryz.func259.trans (congrArg some (by kernel_rfl))
 f286:=Tryz.func260.trans (congrArg some (by kernel_rfl))
 f287:=Tryz.func246.trans (congrArg some (by kernel_rfl))
 f316:=Tryz.func247.trans (congrArg some (by kernel_rfl))
 f317:=Tryz.func261.trans (congrArg some (by kernel_rfl))
 f318:=Tryz.func263.trans (congrArg some (by kernel_rfl))
 f319:=Tryz.func264.trans (congrArg some (by kernel_rfl))
 f320:=Tryz.func265.trans (congrArg some (by kernel_rfl))
 f321:=Tryz.func252.trans (congrArg some (by kernel_rfl))
 f322:=Tryz.func253.trans (congrArg some (by kernel_rfl))
 f337:=Tryz.func266.trans (congrArg some (by kernel_rfl))
 f338:=Tryz.func267.trans (congrArg some (by kernel_rfl))
 t0:=Tryz.underlying0
 a0:=Tryz.isAgg0
 z0:=Tryz.sizeOf0
 v0:=Tryz.zeroValue0
 t2:=Tryz.underlying2
 a2:=Tryz.isAgg2
 z2:=Tryz.sizeOf2
 v2:=Tryz.zeroValue2
 t3:=Tryz.underlying3
 a3:=Tryz.isAgg3
 z3:=Tryz.sizeOf3
 v3:=Tryz.zeroValue3
 t4:=Tryz.underlying4
 a4:=Tryz.isAgg4
 z4:=Tryz.sizeOf4
 v4:=Tryz.zeroValue4
 t5:=Tryz.underlying5
 a5:=Tryz.isAgg5
 z5:=Tryz.sizeOf5
 v5:=Tryz.zeroValue5
 t9:=Tryz.underlying9
 a9:=Tryz.isAgg9
 z9:=Tryz.sizeOf9
 v9:=Tryz.zeroValue9
 t20:=Tryz.underlying20
 a20:=Tryz.isAgg20
 z20:=Tryz.sizeOf20
 v20:=Tryz.zeroValue20
 t21:=Tryz.underlying21
 a21:=Tryz.isAgg21
 z21:=Tryz.sizeOf21
 v21:=Tryz.zeroValue21
 t37:=Tryz.underlying252
 a37:=Tryz.isAgg252
 z37:=Tryz.sizeOf252
 v37:=Tryz.zeroValue252
 t46:=Tryz.underlying173
 a46:=Tryz.isAgg173
 z46:=Tryz.sizeOf173
 v46:=Tryz.zeroValue173
 t51:=Tryz.underlying214
 a51:=Tryz.isAgg214
 z51:=Tryz.sizeOf214
 v51:=Tryz.zeroValue214
 t53:=Tryz.underlying217
 a53:=Tryz.isAgg217
 z53:=Tryz.sizeOf217
 v53:=Tryz.zeroValue217
 t75:=Tryz.underlying231
 a75:=Tryz.isAgg231
 z75:=Tryz.sizeOf231
 v75:=Tryz.zeroValue231
 t76:=Tryz.underlying232
 a76:=Tryz.isAgg232
 z76:=Tryz.sizeOf232
 v76:=Tryz.zeroValue232
 t85:=Tryz.underlying253
 a85:=Tryz.isAgg253
 z85:=Tryz.sizeOf253
 v85:=Tryz.zeroValue253
 t127:=Tryz.underlying271
 a127:=Tryz.isAgg271
 z127:=Tryz.sizeOf271
 v127:=Tryz.zeroValue271
 t143:=Tryz.underlying273
 a143:=Tryz.isAgg273
 z143:=Tryz.sizeOf273
 v143:=Tryz.zeroValue273
 t145:=Tryz.underlying275
 a145:=Tryz.isAgg275
 z145:=Tryz.sizeOf275
 v145:=Tryz.zeroValue275
 t167:=Tryz.underlying251
 a167:=Tryz.isAgg251
 z167:=Tryz.sizeOf251
 v167:=Tryz.zeroValue251
 t168:=Tryz.underlying255
 a168:=Tryz.isAgg255
 z168:=Tryz.sizeOf255
 v168:=Tryz.zeroValue255
 t171:=Tryz.underlying280
 a171:=Tryz.isAgg280
 z171:=Tryz.sizeOf280
 v171:=Tryz.zeroValue280
 t173:=Tryz.underlying283
 a173:=Tryz.isAgg283
 z173:=Tryz.sizeOf283
 v173:=Tryz.zeroValue283
 t175:=Tryz.underlying265
 a175:=Tryz.isAgg265
 z175:=Tryz.sizeOf265
 v175:=Tryz.zeroValue265
 t210:=Tryz.underlying269
 a210:=Tryz.isAgg269
 z210:=Tryz.sizeOf269
 v210:=Tryz.zeroValue269
 t212:=Tryz.underlying287
 a212:=Tryz.isAgg287
 z212:=Tryz.sizeOf287
 v212:=Tryz.zeroValue287
 t213:=Tryz.underlying288
 a213:=Tryz.isAgg288
 z213:=Tryz.sizeOf288
 t232:=Tryz.underlying291
 a232:=Tryz.isAgg291
 z232:=Tryz.sizeOf291
 v232:=Tryz.zeroValue291
 t233:=Tryz.underlying292
 a233:=Tryz.isAgg292
 z233:=Tryz.sizeOf292
 v233:=Tryz.zeroValue292
 g15:=by kernel_rfl
 g16:=by kernel_rfl
 g17:=by kernel_rfl
 g18:=by kernel_rfl
 g19:=by kernel_rfl
 t80:=Tryz.underlying264
 a80:=Tryz.isAgg264
 z80:=Tryz.sizeOf264
 v80:=Tryz.zeroValue264
 i0:=by kernel_rfl
 i2:=by kernel_rfl
 i3:=by kernel_rfl
 i4:=by kernel_rfl
 i5:=by kernel_rfl
 i9:=by kernel_rfl
 i20:=by kernel_rfl
 i21:=by kernel_rfl
 i37:=by kernel_rfl
 i46:=by kernel_rfl
 i51:=by kernel_rfl
 i53:=by kernel_rfl
 i75:=by kernel_rfl
 i76:=by kernel_rfl
 i80:=by kernel_rfl
 i85:=by kernel_rfl
 i127:=by kernel_rfl
 i143:=by kernel_rfl
 i145:=by kernel_rfl
 i167:=by kernel_rfl
 i168:=by kernel_rfl
 i171:=by kernel_rfl
 i173:=by kernel_rfl
 i175:=by kernel_rfl
 i210:=by kernel_rfl
 i212:=by kernel_rfl
 i232:=by kernel_rfl
 i233:=by kernel_rfl
 m15:=by kernel_rfl
 m16:=by kernel_rfl
 m17:=by kernel_rfl
 m18:=by kernel_rfl
 m19:=by kernel_rfl
 c0:=by kernel_rfl
 c2:=by kernel_rfl
 c3:=by kernel_rfl
 c4:=by kernel_rfl
 c5:=by kernel_rfl
 c9:=by kernel_rfl
 c20:=by kernel_rfl
 c21:=by kernel_rfl
 c37:=by kernel_rfl
 c46:=by kernel_rfl
 c51:=by kernel_rfl
 c53:=by kernel_rfl
 c75:=by kernel_rfl
 c76:=by kernel_rfl
 c80:=by kernel_rfl
 c85:=by kernel_rfl
 c127:=by kernel_rfl
 c143:=by kernel_rfl
 c145:=by kernel_rfl
 c167:=by kernel_rfl
 c168:=by kernel_rfl
 c171:=by kernel_rfl
 c173:=by kernel_rfl
 c175:=by kernel_rfl
 c210:=by kernel_rfl
 c212:=by kernel_rfl
 c213:=by kernel_rfl
 c232:=by kernel_rfl
 c233:=by kernel_rfl}
open Go.RowKit in
theorem Tryz.strconv_Atoi_ok(s:ByteArray)(hmax:s.size≤9223372036854775806)(v:Int)(h:Lib.atoiAll s.data.toList=.ok v)(w:World):
 Calls Tryz.prog 201 #[.string s] w λe w'=>e=.returned (.tuple #[.int .i64 v,.nilIface])∧(w'=w∨∃t,w'=Lib.bytesWorld w 5 t):=Any.strconv_Atoi_ok Tryz.laysC172 s hmax v h w
open Go.RowKit in
theorem Tryz.strconv_Atoi_syntax(s:ByteArray)(hlim:s.size≤281474976710656)(h:Lib.atoiAll s.data.toList=.«syntax»)(ev:Value)(w:World)(hv:w.cell? ⟨1,0,none⟩=some ev)(hev:ev=.nilIface∨∃te pe,ev=.iface te pe):
 Calls Tryz.prog 201 #[.string s] w λe w'=>∃N,e=.returned (.tuple #[.int .i64 (0),.iface 255 (.pointer (some ⟨N,0,none⟩))])∧w.heap.size≤N∧w'.heap[N]?=some (.cells #[.string ⟨#[65,116,111,105]⟩,.string s,ev] 269 (0,0))∧Below w.heap.size w w':=Any.strconv_Atoi_syntax Tryz.laysC172 s hlim h ev w hv hev
open Go.RowKit in
theorem Tryz.strconv_Atoi_range(s:ByteArray)(hlim:s.size≤281474976710656)(h:Lib.atoiAll s.data.toList=.range)(ev:Value)(w:World)(hv:w.cell? ⟨2,0,none⟩=some ev)(hev:ev=.nilIface∨∃te pe,ev=.iface te pe):
 Calls Tryz.prog 201 #[.string s] w λe w'=>∃N,e=.returned (.tuple #[.int .i64 (Lib.atoiSat s.data.toList),.iface 255 (.pointer (some ⟨N,0,none⟩))])∧w.heap.size≤N∧w'.heap[N]?=some (.cells #[.string ⟨#[65,116,111,105]⟩,.string s,ev] 269 (0,0))∧Below w.heap.size w w':=Any.strconv_Atoi_range Tryz.laysC172 s hlim h ev w hv hev
end Go.Proofs
namespace Go.Proofs.YtiheejdkkjfenaaGreatDoor.Pa
open Go Go.RowKit
abbrev isErr(ev:Value):Prop:=ev=.nilIface∨∃te pe,ev=.iface te pe
def ErrsIn(w:World):Prop:=(∃ev,w.cell? ⟨1,0,none⟩=some ev∧isErr ev)∧(∃ev,w.cell? ⟨2,0,none⟩=some ev∧isErr ev)
def numDig(s:List UInt8):List UInt8:=Lib.trimPrefix s [126]
def numOf(B:Bool)(D:List UInt8):Option Int:=
 match Lib.atoiAll D with
 |.ok v=>
  let n:=if B then IntKind.i64.wrap (0-v) else v
  if (1<D.length∧D.head?=some 48)∨¬(-1073741824≤n∧n<1073741824) then none else some n
 |_=>none
def numTok(s:List UInt8):Option Int:=numOf (Lib.hasPrefix s [126]) (numDig s)
def tokVal(k:Int)(s:ByteArray)(n:Int):Value:=.agg #[.int .i64 k,.string s,.int .i64 n,.int .i64 0]
def numVal:Option Int→Value
 |some n=>.tuple #[tokVal 4 ⟨#[]⟩ n,.int .i64 0]
 |none=>.tuple #[tokVal 0 ⟨#[]⟩ 0,.int .i64 110]
theorem boxIn{w W1:World}{v0 v1 v2 v3:Value}{t:TypeId}(hb:Below (w.alloc (.cells #[v0,v1,v2,v3] t (0,0))).heap.size (w.alloc (.cells #[v0,v1,v2,v3] t (0,0))) W1):
 Below w.heap.size w W1∧W1.cell? ⟨w.heap.size,0,none⟩=some v0∧W1.cell? ⟨w.heap.size,1,none⟩=some v1∧W1.cell? ⟨w.heap.size,2,none⟩=some v2∧W1.cell? ⟨w.heap.size,3,none⟩=some v3∧
  W1.frozen? ⟨w.heap.size,0,none⟩=false∧W1.frozen? ⟨w.heap.size,1,none⟩=false∧W1.frozen? ⟨w.heap.size,2,none⟩=false∧W1.frozen? ⟨w.heap.size,3,none⟩=false:=by
 have hs:(w.alloc (.cells #[v0,v1,v2,v3] t (0,0))).heap.size=w.heap.size+1:=Array.size_push ..
 have hl:∀o,(⟨w.heap.size,o,none⟩:Addr).block<(w.alloc (.cells #[v0,v1,v2,v3] t (0,0))).heap.size:=λo=>by rw[hs];exact Nat.lt_succ_self _
 refine⟨((Below.refl w.heap.size w).alloc (Nat.le_refl _) _).trans (hb.mono (by rw[hs];exact Nat.le_succ _)),?_,?_,?_,?_,?_,?_,?_,?_⟩
 ·rw[hb.cell (hl 0)];go_simp
 ·rw[hb.cell (hl 1)];go_simp
 ·rw[hb.cell (hl 2)];go_simp
 ·rw[hb.cell (hl 3)];go_simp
 ·rw[hb.frozen (hl 0)];go_simp
 ·rw[hb.frozen (hl 1)];go_simp
 ·rw[hb.frozen (hl 2)];go_simp
 ·rw[hb.frozen (hl 3)];go_simp
set_option maxRecDepth 100000 in
set_option maxHeartbeats 4000000 in
theorem number_calls(s:ByteArray)(hs:s.size≤281474976710656)(w:World)(hw:ErrsIn w):
 Calls Tryz.prog 151 #[.string s] w λe w'=>e=.returned (numVal (numTok s.data.toList))∧Below w.heap.size w w':=by
 obtain⟨⟨ev0,hv0,he0⟩,ev1,hv1,he1⟩:=hw
 have hdl:(⟨(numDig s.data.toList).toArray⟩:ByteArray).size≤281474976710656:=by
  have:=Lib.trimPrefix_le s.data.toList [126]
  have h2:(⟨(numDig s.data.toList).toArray⟩:ByteArray).size=(numDig s.data.toList).length:=by simp[ByteArray.size]
  rw[h2]
  have h3:=Lib.size_eq s
  unfold numDig
  omega
 have hdt:(⟨(numDig s.data.toList).toArray⟩:ByteArray).data.toList=numDig s.data.toList:=rfl
 have cut:∀W:World,Calls Tryz.prog 200 #[.string s,.string ⟨#[126]⟩] W λe w'=>e=.returned (.tuple #[.string ⟨(numDig s.data.toList).toArray⟩,.bool (Lib.hasPrefix s.data.toList [126])])∧w'=W:=λW=>Tryz.strings_CutPrefix s ⟨#[126]⟩ W
 unfold numTok
 generalize hD:numDig s.data.toList=D at hdl cut hdt⊢
 generalize hB:Lib.hasPrefix s.data.toList [126]=B at cut⊢
 have keep:∀{W:World} {b:Nat} {ev:Value},Below w.heap.size w W→w.cell? ⟨b,0,none⟩=some ev→W.cell? ⟨b,0,none⟩=some ev:=λhb hv=>(hb.cell (Lib.lt_of_cell hv)).trans hv
 generalize hX:numVal (numOf B D)=X
 unfold numOf at hX
 cases h:Lib.atoiAll D with
 |range=>
  have atoi:∀W,Below w.heap.size w W→Calls Tryz.prog 201 #[.string ⟨D.toArray⟩] W λe w'=>∃N,e=.returned (.tuple #[.int .i64 (Lib.atoiSat D),.iface 255 (.pointer (some ⟨N,0,none⟩))])∧Below W.heap.size W w':=λW hW=>
   (Tryz.strconv_Atoi_range ⟨D.toArray⟩ hdl h ev1 W (keep hW hv1) he1).mono λe w' ⟨N,h1,_,_,h2⟩=>⟨N,h1,h2⟩
  cases B
  all_goals
   go_enter Tryz.func151,Tryz.ntmps151
   go_wp2_with (first|(go_at_call 200;refine(cut _).mono ?_;rintro e w' ⟨rfl,rfl⟩)|(go_at_call 201;refine(atoi _ ((Below.refl _ _).alloc (Nat.le_refl _) _)).mono ?_;rintro e W1 ⟨N,rfl,hb⟩;obtain⟨hb0,c0,c1,c2,c3,f0,f1,f2,f3⟩:=boxIn hb;clear hb)|go_in)
   refine bodyPost_ret (by simp[results,Tryz.results151,go_sem,c0,c1,c2,c3];try rfl) rfl ?_
   exact⟨by rw[←hX,h];rfl,(((hb0.setCell (Nat.le_refl _) _).setCell (Nat.le_refl _) _).setCell (Nat.le_refl _) _).setCell (Nat.le_refl _) _⟩
 |ok v=>
  have atoi:∀W,Below w.heap.size w W→Calls Tryz.prog 201 #[.string ⟨D.toArray⟩] W λe w'=>∃N:Nat,e=.returned (.tuple #[.int .i64 v,.nilIface])∧Below W.heap.size W w':=λW hW=>
   (Tryz.strconv_Atoi_ok ⟨D.toArray⟩ (by omega) v h W).mono λe w' ⟨h1,h2⟩=>⟨0,h1,by
    rcases h2 with rfl|⟨t,rfl⟩
    ·exact Below.refl _ _
    ·exact Lib.bytesWorld_below _ _ _⟩
  cases D with
  |nil=>cases h
  |cons c r=>
  have hw:IntKind.i64.wrap (0-v)=wrap64 (-v):=by rw[Int.zero_sub];exact Go.IntWalk.i64_left _
  have e0:∀h,(⟨(c::r).toArray⟩:ByteArray)[0]'h=c:=λ_=>rfl
  have e48:c=48↔(c.toNat:Int)=48:=⟨λe=>by rw[e];rfl,λe=>UInt8.toNat_inj.1 (show c.toNat=48 by omega)⟩
  cases B
  all_goals
   go_enter Tryz.func151,Tryz.ntmps151
   go_wp2_with (first|(go_at_call 200;refine(cut _).mono ?_;rintro e w' ⟨rfl,rfl⟩)|(go_at_call 201;refine(atoi _ ((Below.refl _ _).alloc (Nat.le_refl _) _)).mono ?_;rintro e W1 ⟨N,rfl,hb⟩;obtain⟨hb0,c0,c1,c2,c3,f0,f1,f2,f3⟩:=boxIn hb;clear hb)|go_in)
   all_goals refine bodyPost_ret (by simp[results,Tryz.results151,go_sem,c0,c1,c2,c3];try rfl) rfl ?_
   all_goals refine⟨?_,(((hb0.setCell (Nat.le_refl _) _).setCell (Nat.le_refl _) _).setCell (Nat.le_refl _) _).setCell (Nat.le_refl _) _⟩
   all_goals rw[←hX,h]
   all_goals clear hX atoi cut keep hb0 c0 c1 c2 c3 f0 f1 f2 f3 hdl
   all_goals try simp only[e0] at*
   all_goals try simp only[Bool.not_eq_true',decide_eq_false_iff_not,Bool.not_eq_false',decide_eq_true_eq,beq_iff_eq,beq_eq_false_iff_ne,ne_eq] at*
   all_goals simp only[List.length_cons,List.head?_cons,Option.some.injEq,Bool.false_eq_true,if_true,if_false,e48,hw]
   all_goals first
    |(rw[if_pos (by omega)];rfl)
    |(rw[if_neg (by omega)];rfl)
 |_=>
  have atoi:∀W,Below w.heap.size w W→Calls Tryz.prog 201 #[.string ⟨D.toArray⟩] W λe w'=>∃N,e=.returned (.tuple #[.int .i64 0,.iface 255 (.pointer (some ⟨N,0,none⟩))])∧Below W.heap.size W w':=λW hW=>
   (Tryz.strconv_Atoi_syntax ⟨D.toArray⟩ hdl h ev0 W (keep hW hv0) he0).mono λe w' ⟨N,h1,_,_,h2⟩=>⟨N,h1,h2⟩
  cases B
  all_goals
   go_enter Tryz.func151,Tryz.ntmps151
   go_wp2_with (first|(go_at_call 200;refine(cut _).mono ?_;rintro e w' ⟨rfl,rfl⟩)|(go_at_call 201;refine(atoi _ ((Below.refl _ _).alloc (Nat.le_refl _) _)).mono ?_;rintro e W1 ⟨N,rfl,hb⟩;obtain⟨hb0,c0,c1,c2,c3,f0,f1,f2,f3⟩:=boxIn hb;clear hb)|go_in)
   refine bodyPost_ret (by simp[results,Tryz.results151,go_sem,c0,c1,c2,c3];try rfl) rfl ?_
   exact⟨by rw[←hX,h];rfl,(((hb0.setCell (Nat.le_refl _) _).setCell (Nat.le_refl _) _).setCell (Nat.le_refl _) _).setCell (Nat.le_refl _) _⟩
end Go.Proofs.YtiheejdkkjfenaaGreatDoor.Pa
namespace Go.Proofs
open Go.Shelf
def Tryz.laysNm216_ren:Go.Shelf.Ren:=⟨λ|16=>117|n=>n,λ|24=>82|9=>9|4=>4|n=>n,λ|n=>n⟩
theorem Tryz.laysNm216:Go.Proofs.Lays2.n16 Tryz.prog Tryz.laysNm216_ren:={
 mixed:=by kernel_rfl
 f16:=Tryz.func117.trans (congrArg some (by kernel_rfl))
 t4:=Tryz.underlying4
 a4:=Tryz.isAgg4
 z4:=Tryz.sizeOf4
 v4:=Tryz.zeroValue4
 t9:=Tryz.underlying9
 a9:=Tryz.isAgg9
 z9:=Tryz.sizeOf9
 v9:=Tryz.zeroValue9
 t24:=Tryz.underlying82
 a24:=Tryz.isAgg82
 z24:=Tryz.sizeOf82
 v24:=Tryz.zeroValue82
 i9:=by kernel_rfl}
end Go.Proofs
namespace Go.Proofs.YtiheejdkkjfenaaGreatDoor.Pa
open Go Go.RowKit Go.Proofs.YtiheejdkkjfenaaGreatDoor.Am
def allStr:List Dat→Bool
 |[]=>true
 |.str _::l=>allStr l
 |_::_=>false
def strsOf:List Dat→List ByteArray
 |[]=>[]
 |.str s::l=>⟨s.toArray⟩::strsOf l
 |_::l=>ByteArray.empty::strsOf l
theorem strsOf_len:∀l,(strsOf l).length=l.length
 |[]=>rfl
 |x::l=>by cases x<;>simp[strsOf,strsOf_len l]
theorem strsOf_get:∀(l:List Dat),allStr l=true→∀(j:Nat) (x:Dat),l[j]?=some x→∃s:List UInt8,x=.str s∧(strsOf l)[j]?=some ⟨s.toArray⟩
 |[],_,j,x,h=>by cases j<;>cases h
 |.str s::l,ha,0,x,h=>by cases h;exact⟨s,rfl,rfl⟩
 |.str s::l,ha,j+1,x,h=>by
  obtain⟨s',h1,h2⟩:=strsOf_get l ha j x h
  exact⟨s',h1,h2⟩
def cloneSays:List Dat→Glob→Option (Out×Glob)
 |[.nil],g=>some (.val (.d (.sl 1 [])),g)
 |[.sl m xs],g|[.gsl _ m xs],g=>bif Nat.beq m 1&&allStr xs&&Nat.ble xs.length 8796093022208 then some (.val (.d (.sl 1 xs)),g) else none
 |_,_=>none
theorem cloneSays_inv{ds:List Dat}{g:Glob}{r:Out×Glob}(h:cloneSays ds g=some r):(ds=[.nil]∧r=(.val (.d (.sl 1 [])),g))∨∃xs,(ds=[.sl 1 xs]∨∃t,ds=[.gsl t 1 xs])∧allStr xs=true∧xs.length≤8796093022208∧r=(.val (.d (.sl 1 xs)),g):=by
 match ds,h with
 |[.nil],h=>cases h;exact .inl ⟨rfl,rfl⟩
 |[.sl m xs],h=>
  simp only[cloneSays] at h
  cases hc:(Nat.beq m 1&&allStr xs&&Nat.ble xs.length 8796093022208) with
  |false=>rw[hc] at h;cases h
  |true=>
   rw[hc] at h
   cases h
   simp only[Bool.and_eq_true] at hc
   obtain rfl:=Nat.eq_of_beq_eq_true hc.1.1
   exact .inr ⟨xs,.inl rfl,hc.1.2,Nat.le_of_ble_eq_true hc.2,rfl⟩
 |[.gsl t m xs],h=>
  simp only[cloneSays] at h
  cases hc:(Nat.beq m 1&&allStr xs&&Nat.ble xs.length 8796093022208) with
  |false=>rw[hc] at h;cases h
  |true=>
   rw[hc] at h
   cases h
   simp only[Bool.and_eq_true] at hc
   obtain rfl:=Nat.eq_of_beq_eq_true hc.1.1
   exact .inr ⟨xs,.inr ⟨t,rfl⟩,hc.1.2,Nat.le_of_ble_eq_true hc.2,rfl⟩
theorem imm_up{E:Em}{w w':World}{g:Glob}(hg:GRel E w g)(hb:Below w.heap.size w w'){b n:Nat}(h1:w.heap.size≤b)(h2:b<w'.heap.size):
 Up E w g.toks (E.newImm b n) w' g.toks∧GRel (E.newImm b n) w' g:=by
 have hu:Up E w g.toks (E.newImm b n) w' g.toks:={up_below hg hb with
  imm:=λb' o h=>.inl h
  cell:=(up_below hg hb).cell
  gb:=λ_ _=>rfl
  ng:=Nat.le_refl _
  gtoks:=λ_ _ n h=>⟨n,h,Nat.le_refl _,λ_=>rfl⟩
  gk:=λ_ _ n h=>⟨n,h,Nat.le_refl _,λ_=>rfl⟩
  tok:=λ_ _ h=>.inl h
  alien:=λb' h ho=>⟨hb.block b' h,ho,λo hi=>hi.elim id λe=>by omega⟩}
 refine⟨hu,?_⟩
 constructor
 case own_lt=>exact λb' ow h=>Nat.lt_of_lt_of_le (hg.own_lt b' ow h) hb.size
 case own_g=>exact hg.own_g
 case gk=>exact hg.gk
 case imm_lt=>exact λb' o h=>h.elim (λh=>Nat.lt_of_lt_of_le (hg.imm_lt b' o h) hb.size) λh=>by omega
 case ng=>exact hg.ng
 case boxes=>
  intro i bx h
  obtain⟨h1,h2,h3⟩:=hg.boxes i bx h
  exact⟨h1,λo hi=>hi.elim (h2 o) λe=>by have:=hg.own_lt _ _ h1;have:=e.1;simp only[Em.newImm] at this;omega,h3.up hu (hb.block _ (hg.own_lt _ _ h1))⟩
 case toks=>
  intro i m k h
  exact(hg.toks i m k h).up λb' hw=>⟨hb.block b' (hg.own_lt b' _ hw),hw,λo=>⟨λh=>h.elim id λe=>by have:=hg.own_lt b' _ hw;omega,.inl⟩⟩
theorem own_rep{E:Em}{w w':World}{g:Glob}(hg:GRel E w g)(hb:Below w.heap.size w w')(ho:GlobOnly E){xs:List Dat}(ha:allStr xs=true){e:TypeId}{v':Value}
 (hr:w'.ownsRow w.heap.size e 1 v' xs.length ((strsOf xs).map Value.string)):
 ∃E',Up E w g.toks E' w' g.toks∧GRel E' w' g∧GlobOnly E'∧Rep E' w' (.sl 1 xs) v':=by
 obtain⟨_,h|⟨b,cap,cur,rfl,hB,hc,hn,_,hz,ht⟩⟩:=hr
 ·obtain⟨rfl,h0⟩:=h
  cases xs with
  |cons=>cases h0
  |nil=>exact⟨E,up_below hg hb,hg.below hb,ho,.emp 1 none 0⟩
 ·have hlt:b<w'.heap.size:=(Array.getElem?_eq_some_iff.1 hc).1
  obtain⟨hu,hg'⟩:=imm_up (n:=xs.length) hg hb hB hlt
  refine⟨_,hu,hg',ho,?_⟩
  have cell:∀(j:Nat) x,xs[j]?=some x→∃s,x=.str s∧w'.cell? ⟨b,j,none⟩=some (.string ⟨s.toArray⟩):=λj x hx=>by
   obtain⟨s,rfl,h2⟩:=strsOf_get xs ha j x hx
   refine⟨s,rfl,?_⟩
   have hj:j<xs.length:=(List.getElem?_eq_some_iff.1 hx).1
   have h3:(cur.toList.take (xs.length*1))[j]?=some (.string ⟨s.toArray⟩):=by rw[ht,List.getElem?_map,h2];rfl
   rw[List.getElem?_take] at h3
   have h4:cur[j]?=some (.string ⟨s.toArray⟩):=by
    split at h3
    ·rw[←Array.getElem?_toList];exact h3
    ·cases h3
   simp only[World.cell?,hc]
   exact h4
  refine .sl 1 xs b 0 cap (λn=>match xs[n]? with|some (.str s)=>.string ⟨s.toArray⟩|_=>undef) hn (λx hx=>?_) (λi x hx j d hd=>?_) (λi x hx j d hd=>?_) (λi x hx j d hd=>?_) (λi x hx j d hd=>?_)
  ·obtain⟨j,hj,rfl⟩:=List.mem_iff_getElem.1 hx
   obtain⟨s,h1,_⟩:=cell j _ (List.getElem?_eq_getElem hj)
   rw[h1];rfl
  all_goals
   obtain⟨s,rfl,h1⟩:=cell i x hx
   have hi:i<xs.length:=(List.getElem?_eq_some_iff.1 hx).1
   match j,hd with
   |0,hd=>?_
  ·cases hd;rfl
  ·exact .inr ⟨rfl,by omega⟩
  ·have e1:i*1+0=i:=by omega
   have e2:0+i*1+0=i:=by omega
   simp only[e1,e2,hx]
   exact h1
  ·have e1:i*1+0=i:=by omega
   cases hd
   simp only[e1,hx]
   exact .str s
theorem cloneSays_ok{Bs:Em→World→Prop}:∀ds g out g',cloneSays ds g=some (out,g')→Am.Enters Tryz.prog 117∧∀E w vs,Bs E w→GRel E w g→GlobOnly E→ReL E w ds vs→Calls Tryz.prog 117 vs.toArray w (Post E w g out g'):=by
 intro ds g out g' hs
 refine⟨⟨Tryz.f117,Tryz.func117,by kernel_rfl,by kernel_rfl⟩,λE w vs hb hg ho hr=>?_⟩
 have zero:∀(a:Option Addr) (c:Nat),Calls Tryz.prog 117 #[.slice a 0 c] w λe w'=>∃v',e=.returned v'∧w'.ownsRow w.heap.size 9 1 v' 0 []∧Below w.heap.size w w':=λa c=>by
  cases a with
  |none=>
   refine(Any.slices_Clone_string_nil Tryz.laysNm216 0 c w).mono λe w' ⟨h1,h2⟩=>?_
   subst h2
   exact⟨_,h1,⟨rfl,.inl ⟨rfl,rfl⟩⟩,Below.refl _ _⟩
  |some a=>exact(Any.slices_Clone_string_zero Tryz.laysNm216 a c w).mono λe w' ⟨v',h1,h2,_,h4⟩=>⟨v',h1,h2,h4⟩
 have empty:∀(a:Option Addr) (c:Nat),Calls Tryz.prog 117 #[.slice a 0 c] w (Post E w g (.val (.d (.sl 1 []))) g):=λa c=>
  (zero a c).mono λe w' ⟨v',h1,h2,h3⟩=>by
   obtain⟨E',u1,u2,u3,u4⟩:=own_rep (xs:=[]) hg h3 ho rfl h2
   exact⟨E',u1,u2,u3,v',h1,u4⟩
 rcases cloneSays_inv hs with ⟨rfl,he⟩|⟨xs,hds,ha,hl,he⟩
 all_goals
  cases he
 ·obtain⟨v0,rfl⟩:∃v0,vs=[v0]:=by
   match vs,hr.1 with
   |[v0],_=>exact⟨v0,rfl⟩
  have h:=hr.2 0 _ _ rfl rfl
  cases h with
  |nil a=>exact empty a 0
 obtain⟨v0,rfl,h⟩:∃v0,vs=[v0]∧Rep E w (.sl 1 xs) v0:=by
  rcases hds with rfl|⟨t,rfl⟩
  ·match vs,hr.1 with
   |[v0],_=>exact⟨v0,rfl,hr.2 0 _ _ rfl rfl⟩
  ·match vs,hr.1 with
   |[v0],_=>
    have h:=hr.2 0 _ _ rfl rfl
    cases h with
    |gsl t m xs v n h=>exact⟨v0,rfl,h⟩
 ·cases h with
  |emp m a c=>exact empty a c
  |sl m xs b o c vs hc hm h1 h2 h3 h4=>
   have hzs:∀j,j<(strsOf xs).length→w.cell? ⟨b,o+j,none⟩=some (.string ((strsOf xs).getD j ByteArray.empty)):=λj hj=>by
    have hj':j<xs.length:=by rw[←strsOf_len];exact hj
    obtain⟨s,e1,e2⟩:=strsOf_get xs ha j _ (List.getElem?_eq_getElem hj')
    have e3:(strsOf xs).getD j ByteArray.empty=⟨s.toArray⟩:=by rw[List.getD_eq_getElem?_getD,e2];rfl
    rw[e3]
    have k1:=h3 j _ (List.getElem?_eq_getElem hj') 0 (.str s) (by rw[e1];rfl)
    have k2:=h4 j _ (List.getElem?_eq_getElem hj') 0 (.str s) (by rw[e1];rfl)
    have e4:o+j*1+0=o+j:=by omega
    have e5:j*1+0=j:=by omega
    rw[e4,e5] at k1
    rw[e5] at k2
    cases hv:vs j with
    |string=>rw[hv] at k1 k2;cases k2;exact k1
    |_=>rw[hv] at k2;cases k2
   refine(Any.slices_Clone_string Tryz.laysNm216 b o xs.length c (strsOf xs) w (by rw[strsOf_len];exact Nat.le_refl _) (by omega) hzs).mono λe w' ⟨v',h1,h2,_,h4⟩=>?_
   rw[←strsOf_len xs,List.take_length,strsOf_len] at h2
   obtain⟨E',u1,u2,u3,u4⟩:=own_rep hg h4 ho ha h2
   exact⟨E',u1,u2,u3,v',h1,u4⟩
end Go.Proofs.YtiheejdkkjfenaaGreatDoor.Pa
