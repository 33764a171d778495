/- Contracts of the library at this program, as the kit's shelf lays them. What lex.number answers, from any memory that has the library's two errors. -/
import Derived.Shelf.Strconv.AtoiAll
import Derived.Shelf.Small.Wraps
import Derived.Shelf.LaysC
import Derived.Test.YtgmapdcdmomioaaGreatDoorProg
import Derived.WalkKit
import Derived.BigCall
import Derived.Handy
set_option linter.all false
set_option autoImplicit false
namespace Go.Proofs
open Go.Shelf
def Tryz.lays103_ren:Go.Shelf.Ren:=⟨λ|103=>209|210=>224|206=>211|n=>n,λ|9=>9|4=>4|24=>196|3=>3|n=>n,λ|n=>n⟩
theorem Tryz.lays103:Go.Proofs.Lays.n103 Tryz.prog Tryz.lays103_ren:={
 mixed:=by kernel_rfl
 f103:=Tryz.func209.trans (congrArg some (by kernel_rfl))
 f206:=Tryz.func211.trans (congrArg some (by kernel_rfl))
 f210:=Tryz.func224.trans (congrArg some (by kernel_rfl))
 t3:=Tryz.underlying3
 a3:=Tryz.isAgg3
 z3:=Tryz.sizeOf3
 v3:=Tryz.zeroValue3
 t4:=Tryz.underlying4
 a4:=Tryz.isAgg4
 z4:=Tryz.sizeOf4
 v4:=Tryz.zeroValue4
 t9:=Tryz.underlying9
 a9:=Tryz.isAgg9
 z9:=Tryz.sizeOf9
 v9:=Tryz.zeroValue9
 t24:=Tryz.underlying196
 a24:=Tryz.isAgg196
 z24:=Tryz.sizeOf196
 v24:=Tryz.zeroValue196}
theorem Tryz.strings_CutPrefix(s p:ByteArray)(w:World):
 Calls Tryz.prog 209 #[.string s,.string p] w λe w'=>e=.returned (.tuple #[.string ⟨(Lib.trimPrefix s.data.toList p.data.toList).toArray⟩,.bool (Lib.hasPrefix s.data.toList p.data.toList)])∧w'=w:=Any.strings_CutPrefix Tryz.lays103 s p w
def Tryz.laysC172_ren:Go.Shelf.Ren:=⟨λ|172=>210|244=>225|245=>226|247=>238|279=>239|280=>240|281=>241|282=>242|287=>248|316=>249|171=>234|205=>250|321=>254|322=>255|243=>245|246=>251|283=>256|284=>257|285=>258|286=>259|129=>261|317=>260|318=>262|319=>263|320=>264|337=>265|338=>266|n=>n,λ|9=>9|3=>3|75=>199|76=>200|4=>4|5=>5|167=>214|37=>83|0=>0|85=>215|2=>2|168=>217|53=>223|175=>224|46=>226|210=>229|127=>222|145=>238|143=>236|21=>21|171=>239|173=>242|212=>246|51=>247|20=>20|213=>248|232=>251|233=>252|80=>213|n=>n,λ|15=>1|16=>2|17=>3|18=>4|19=>5|n=>n⟩
theorem Tryz.laysC172:Go.Proofs.LaysC.n172 Tryz.prog Tryz.laysC172_ren:={
 mixed:=by kernel_rfl
 f129:=Tryz.func261.trans (congrArg some (by kernel_rfl))
 f171:=Tryz.func234.trans (congrArg some (by kernel_rfl))
 f172:=Tryz.func210.trans (congrArg some (by kernel_rfl))
 f205:=Tryz.func250.trans (congrArg some (by kernel_rfl))
 f243:=Tryz.func245.trans (congrArg some (by kernel_rfl))
 f244:=Tryz.func225.trans (congrArg some (by kernel_rfl))
 f245:=Tryz.func226.trans (congrArg some (by kernel_rfl))
 f246:=Tryz.func251.trans (congrArg some (by kernel_rfl))
 f247:=Tryz.func238.trans (congrArg some (by kernel_rfl))
 f279:=Tryz.func239.trans (congrArg some (by kernel_rfl))
 f280:=Tryz.func240.trans (congrArg some (by kernel_rfl))
 f281:=Tryz.func241.trans (congrArg some (by kernel_rfl))
 f282:=Tryz.func242.trans (congrArg some (by kernel_rfl))
 f283:=Tryz.func256.trans (congrArg some (by kernel_rfl))
 f284:=Tryz.func257.trans (congrArg some (by kernel_rfl))
 f285:=Tryz.func258.trans (congrArg some (by kernel_rfl))
 f286:=Tryz.func259.trans (congrArg some (by kernel_rfl))
 f287:=Tryz.func248.trans (congrArg some (by kernel_rfl))
 f316:=Tryz.func249.trans (congrArg some (by kernel_rfl))
 f317:=Tryz.func260.trans (congrArg some (by kernel_rfl))
 f318:=Tryz.func262.trans (congrArg some (by kernel_rfl))
 f319:=Tryz.func263.trans (congrArg some (by kernel_rfl))
 f320:=Tryz.func264.trans (congrArg some (by kernel_rfl))
 f321:=Tryz.func254.trans (congrArg some (by kernel_rfl))
 f322:=Tryz.func255.trans (congrArg some (by kernel_rfl))
 f337:=Tryz.func265.trans (congrArg some (by kernel_rfl))
 f338:=Tryz.func266.trans (congrArg some (by kernel_rfl))
 t0:=Tryz.underlying0
 a0:=Tryz.isAgg0
 z0:=Tryz.sizeOf0
 v0:=Tryz.zeroValue0
 t2:=Tryz.underlying2
 a2:=Tryz.isAgg2
 z2:=Tryz.sizeOf2
 v2:=Tryz.zeroValue2
 t3:=Tryz.underlying3
 a3:=Tryz.isAgg3
 z3:=Tryz.sizeOf3
 v3:=Tryz.zeroValue3
 t4:=Tryz.underlying4
 a4:=Tryz.isAgg4
 z4:=Tryz.sizeOf4
 v4:=Tryz.zeroValue4
 t5:=Tryz.underlying5
 a5:=Tryz.isAgg5
 z5:=Tryz.sizeOf5
 v5:=Tryz.zeroValue5
 t9:=Tryz.underlying9
 a9:=Tryz.isAgg9
 z9:=Tryz.sizeOf9
 v9:=Tryz.zeroValue9
 t20:=Tryz.underlying20
 a20:=Tryz.isAgg20
 z20:=Tryz.sizeOf20
 v20:=Tryz.zeroValue20
 t21:=Tryz.underlying21
 a21:=Tryz.isAgg21
 z21:=Tryz.sizeOf21
 v21:=Tryz.zeroValue21
 t37:=Tryz.underlying83
 a37:=Tryz.isAgg83
 z37:=Tryz.sizeOf83
 v37:=Tryz.zeroValue83
 t46:=Tryz.underlying226
 a46:=Tryz.isAgg226
 z46:=Tryz.sizeOf226
 v46:=Tryz.zeroValue226
 t51:=Tryz.underlying247
 a51:=Tryz.isAgg247
 z51:=Tryz.sizeOf247
 v51:=Tryz.zeroValue247
 t53:=Tryz.underlying223
 a53:=Tryz.isAgg223
 z53:=Tryz.sizeOf223
 v53:=Tryz.zeroValue223
 t75:=Tryz.underlying199
 a75:=Tryz.isAgg199
 z75:=Tryz.sizeOf199
 v75:=Tryz.zeroValue199
 t76:=Tryz.underlying200
 a76:=Tryz.isAgg200
 z76:=Tryz.sizeOf200
 v76:=Tryz.zeroValue200
 t85:=Tryz.underlying215
 a85:=Tryz.isAgg215
 z85:=Tryz.sizeOf215
 v85:=Tryz.zeroValue215
 t127:=Tryz.underlying222
 a127:=Tryz.isAgg222
 z127:=Tryz.sizeOf222
 v127:=Tryz.zeroValue222
 t143:=Tryz.underlying236
 a143:=Tryz.isAgg236
 z143:=Tryz.sizeOf236
 v143:=Tryz.zeroValue236
 t145:=Tryz.underlying238
 a145:=Tryz.isAgg238
 z145:=Tryz.sizeOf238
 v145:=Tryz.zeroValue238
 t167:=Tryz.underlying214
 a167:=Tryz.isAgg214
 z167:=Tryz.sizeOf214
 v167:=Tryz.zeroValue214
 t168:=Tryz.underlying217
 a168:=Tryz.isAgg217
 z168:=Tryz.sizeOf217
 v168:=Tryz.zeroValue217
 t171:=Tryz.underlying239
 a171:=Tryz.isAgg239
 z171:=Tryz.sizeOf239
 v171:=Tryz.zeroValue239
 t173:=Tryz.underlying242
 a173:=Tryz.isAgg242
 z173:=Tryz.sizeOf242
 v173:=Tryz.zeroValue242
 t175:=Tryz.underlying224
 a175:=Tryz.isAgg224
 z175:=Tryz.sizeOf224
 v175:=Tryz.zeroValue224
 t210:=Tryz.underlying229
 a210:=Tryz.isAgg229
 z210:=Tryz.sizeOf229
 v210:=Tryz.zeroValue229
 t212:=Tryz.underlying246
 a212:=Tryz.isAgg246
 z212:=Tryz.sizeOf246
 v212:=Tryz.zeroValue246
 t213:=Tryz.underlying248
 a213:=Tryz.isAgg248
 z213:=Tryz.sizeOf248
 t232:=Tryz.underlying251
 a232:=Tryz.isAgg251
 z232:=Tryz.sizeOf251
 v232:=Tryz.zeroValue251
 t233:=Tryz.underlying252
 a233:=Tryz.isAgg252
 z233:=Tryz.sizeOf252
 v233:=Tryz.zeroValue252
 g15:=by kernel_rfl
 g16:=by kernel_rfl
 g17:=by kernel_rfl
 g18:=by kernel_rfl
 g19:=by kernel_rfl
 t80:=Tryz.underlying213
 a80:=Tryz.isAgg213
 z80:=Tryz.sizeOf213
 v80:=Tryz.zeroValue213
 i0:=by kernel_rfl
 i2:=by kernel_rfl
 i3:=by kernel_rfl
 i4:=by kernel_rfl
 i5:=by kernel_rfl
 i9:=by kernel_rfl
 i20:=by kernel_rfl
 i21:=by kernel_rfl
 i37:=by kernel_rfl
 i46:=by kernel_rfl
 i51:=by kernel_rfl
 i53:=by kernel_rfl
 i75:=by kernel_rfl
 i76:=by kernel_rfl
 i80:=by kernel_rfl
 i85:=by kernel_rfl
 i127:=by kernel_rfl
 i143:=by kernel_rfl
 i145:=by kernel_rfl
 i167:=by kernel_rfl
 i168:=by kernel_rfl
 i171:=by kernel_rfl
 i173:=by kernel_rfl
 i175:=by kernel_rfl
 i210:=by kernel_rfl
 i212:=by kernel_rfl
 i232:=by kernel_rfl
 i233:=by kernel_rfl
 m15:=by kernel_rfl
 m16:=by kernel_rfl
 m17:=by kernel_rfl
 m18:=by kernel_rfl
 m19:=by kernel_rfl
 c0:=by kernel_rfl
 c2:=by kernel_rfl
 c3:=by kernel_rfl
 c4:=by kernel_rfl
 c5:=by kernel_rfl
 c9:=by kernel_rfl
 c20:=by kernel_rfl
 c21:=by kernel_rfl
 c37:=by kernel_rfl
 c46:=by kernel_rfl
 c51:=by kernel_rfl
 c53:=by kernel_rfl
 c75:=by kernel_rfl
 c76:=by kernel_rfl
 c80:=by kernel_rfl
 c85:=by kernel_rfl
 c127:=by kernel_rfl
 c143:=by kernel_rfl
 c145:=by kernel_rfl
 c167:=by kernel_rfl
 c168:=by kernel_rfl
 c171:=by kernel_rfl
 c173:=by kernel_rfl
 c175:=by kernel_rfl
 c210:=by kernel_rfl
 c212:=by kernel_rfl
 c213:=by kernel_rfl
 c232:=by kernel_rfl
 c233:=by kernel_rfl}
open Go.RowKit in
theorem Tryz.strconv_Atoi_ok(s:ByteArray)(hmax:s.size≤9223372036854775806)(v:Int)(h:Lib.atoiAll s.data.toList=.ok v)(w:World):
 Calls Tryz.prog 210 #[.string s] w λe w'=>e=.returned (.tuple #[.int .i64 v,.nilIface])∧(w'=w∨∃t,w'=Lib.bytesWorld w 5 t):=Any.strconv_Atoi_ok Tryz.laysC172 s hmax v h w
open Go.RowKit in
theorem Tryz.strconv_Atoi_syntax(s:ByteArray)(hlim:s.size≤281474976710656)(h:Lib.atoiAll s.data.toList=.«syntax»)(ev:Value)(w:World)(hv:w.cell? ⟨1,0,none⟩=some ev)(hev:ev=.nilIface∨∃te pe,ev=.iface te pe):
 Calls Tryz.prog 210 #[.string s] w λe w'=>∃N,e=.returned (.tuple #[.int .i64 (0),.iface 217 (.pointer (some ⟨N,0,none⟩))])∧w.heap.size≤N∧w'.heap[N]?=some (.cells #[.string ⟨#[65,116,111,105]⟩,.string s,ev] 229 (0,0))∧Below w.heap.size w w':=Any.strconv_Atoi_syntax Tryz.laysC172 s hlim h ev w hv hev
open Go.RowKit in
theorem Tryz.strconv_Atoi_range(s:ByteArray)(hlim:s.size≤281474976710656)(h:Lib.atoiAll s.data.toList=.range)(ev:Value)(w:World)(hv:w.cell? ⟨2,0,none⟩=some ev)(hev:ev=.nilIface∨∃te pe,ev=.iface te pe):
 Calls Tryz.prog 210 #[.string s] w λe w'=>∃N,e=.returned (.tuple #[.int .i64 (Lib.atoiSat s.data.toList),.iface 217 (.pointer (some ⟨N,0,none⟩))])∧w.heap.size≤N∧w'.heap[N]?=some (.cells #[.string ⟨#[65,116,111,105]⟩,.string s,ev] 229 (0,0))∧Below w.heap.size w w':=Any.strconv_Atoi_range Tryz.laysC172 s hlim h ev w hv hev
end Go.Proofs
namespace Go.Proofs.YtgmapdcdmomioaaGreatDoor.Pa
open Go Go.RowKit
abbrev isErr(ev:Value):Prop:=ev=.nilIface∨∃te pe,ev=.iface te pe
def ErrsIn(w:World):Prop:=(∃ev,w.cell? ⟨1,0,none⟩=some ev∧isErr ev)∧(∃ev,w.cell? ⟨2,0,none⟩=some ev∧isErr ev)
def numDig(s:List UInt8):List UInt8:=Lib.trimPrefix s [126]
def numOf(B:Bool)(D:List UInt8):Option Int:=
 match Lib.atoiAll D with
 |.ok v=>
  let n:=if B then IntKind.i64.wrap (0-v) else v
  if (1<D.length∧D.head?=some 48)∨¬(-1073741824≤n∧n<1073741824) then none else some n
 |_=>none
def numTok(s:List UInt8):Option Int:=numOf (Lib.hasPrefix s [126]) (numDig s)
def tokVal(k:Int)(s:ByteArray)(n:Int):Value:=.agg #[.int .i64 k,.string s,.int .i64 n,.int .i64 0]
def numVal:Option Int→Value
 |some n=>.tuple #[tokVal 4 ⟨#[]⟩ n,.int .i64 0]
 |none=>.tuple #[tokVal 0 ⟨#[]⟩ 0,.int .i64 110]
theorem boxIn{w W1:World}{v0 v1 v2 v3:Value}{t:TypeId}(hb:Below (w.alloc (.cells #[v0,v1,v2,v3] t (0,0))).heap.size (w.alloc (.cells #[v0,v1,v2,v3] t (0,0))) W1):
 Below w.heap.size w W1∧W1.cell? ⟨w.heap.size,0,none⟩=some v0∧W1.cell? ⟨w.heap.size,1,none⟩=some v1∧W1.cell? ⟨w.heap.size,2,none⟩=some v2∧W1.cell? ⟨w.heap.size,3,none⟩=some v3∧
  W1.frozen? ⟨w.heap.size,0,none⟩=false∧W1.frozen? ⟨w.heap.size,1,none⟩=false∧W1.frozen? ⟨w.heap.size,2,none⟩=false∧W1.frozen? ⟨w.heap.size,3,none⟩=false:=by
 have hs:(w.alloc (.cells #[v0,v1,v2,v3] t (0,0))).heap.size=w.heap.size+1:=Array.size_push ..
 have hl:∀o,(⟨w.heap.size,o,none⟩:Addr).block<(w.alloc (.cells #[v0,v1,v2,v3] t (0,0))).heap.size:=λo=>by rw[hs];exact Nat.lt_succ_self _
 refine⟨((Below.refl w.heap.size w).alloc (Nat.le_refl _) _).trans (hb.mono (by rw[hs];exact Nat.le_succ _)),?_,?_,?_,?_,?_,?_,?_,?_⟩
 ·rw[hb.cell (hl 0)];go_simp
 ·rw[hb.cell (hl 1)];go_simp
 ·rw[hb.cell (hl 2)];go_simp
 ·rw[hb.cell (hl 3)];go_simp
 ·rw[hb.frozen (hl 0)];go_simp
 ·rw[hb.frozen (hl 1)];go_simp
 ·rw[hb.frozen (hl 2)];go_simp
 ·rw[hb.frozen (hl 3)];go_simp
set_option maxRecDepth 100000 in
set_option maxHeartbeats 4000000 in
theorem number_calls(s:ByteArray)(hs:s.size≤281474976710656)(w:World)(hw:ErrsIn w):
 Calls Tryz.prog 169 #[.string s] w λe w'=>e=.returned (numVal (numTok s.data.toList))∧Below w.heap.size w w':=by
 obtain⟨⟨ev0,hv0,he0⟩,ev1,hv1,he1⟩:=hw
 have hdl:(⟨(numDig s.data.toList).toArray⟩:ByteArray).size≤281474976710656:=by
  have:=Lib.trimPrefix_le s.data.toList [126]
  have h2:(⟨(numDig s.data.toList).toArray⟩:ByteArray).size=(numDig s.data.toList).length:=by simp[ByteArray.size]
  rw[h2]
  have h3:=Lib.size_eq s
  unfold numDig
  omega
 have hdt:(⟨(numDig s.data.toList).toArray⟩:ByteArray).data.toList=numDig s.data.toList:=rfl
 have cut:∀W:World,Calls Tryz.prog 209 #[.string s,.string ⟨#[126]⟩] W λe w'=>e=.returned (.tuple #[.string ⟨(numDig s.data.toList).toArray⟩,.bool (Lib.hasPrefix s.data.toList [126])])∧w'=W:=λW=>Tryz.strings_CutPrefix s ⟨#[126]⟩ W
 unfold numTok
 generalize hD:numDig s.data.toList=D at hdl cut hdt⊢
 generalize hB:Lib.hasPrefix s.data.toList [126]=B at cut⊢
 have keep:∀{W:World} {b:Nat} {ev:Value},Below w.heap.size w W→w.cell? ⟨b,0,none⟩=some ev→W.cell? ⟨b,0,none⟩=some ev:=λhb hv=>(hb.cell (Lib.lt_of_cell hv)).trans hv
 generalize hX:numVal (numOf B D)=X
 unfold numOf at hX
 cases h:Lib.atoiAll D with
 |range=>
  have atoi:∀W,Below w.heap.size w W→Calls Tryz.prog 210 #[.string ⟨D.toArray⟩] W λe w'=>∃N,e=.returned (.tuple #[.int .i64 (Lib.atoiSat D),.iface 217 (.pointer (some ⟨N,0,none⟩))])∧Below W.heap.size W w':=λW hW=>
   (Tryz.strconv_Atoi_range ⟨D.toArray⟩ hdl h ev1 W (keep hW hv1) he1).mono λe w' ⟨N,h1,_,_,h2⟩=>⟨N,h1,h2⟩
  cases B
  all_goals
   go_enter Tryz.func169,Tryz.ntmps169
   go_wp2_with (first|(go_at_call 209;refine(cut _).mono ?_;rintro e w' ⟨rfl,rfl⟩)|(go_at_call 210;refine(atoi _ ((Below.refl _ _).alloc (Nat.le_refl _) _)).mono ?_;rintro e W1 ⟨N,rfl,hb⟩;obtain⟨hb0,c0,c1,c2,c3,f0,f1,f2,f3⟩:=boxIn hb;clear hb)|go_in)
   refine bodyPost_ret (by simp[results,Tryz.results169,go_sem,c0,c1,c2,c3];try rfl) rfl ?_
   exact⟨by rw[←hX,h];rfl,(((hb0.setCell (Nat.le_refl _) _).setCell (Nat.le_refl _) _).setCell (Nat.le_refl _) _).setCell (Nat.le_refl _) _⟩
 |ok v=>
  have atoi:∀W,Below w.heap.size w W→Calls Tryz.prog 210 #[.string ⟨D.toArray⟩] W λe w'=>∃N:Nat,e=.returned (.tuple #[.int .i64 v,.nilIface])∧Below W.heap.size W w':=λW hW=>
   (Tryz.strconv_Atoi_ok ⟨D.toArray⟩ (by omega) v h W).mono λe w' ⟨h1,h2⟩=>⟨0,h1,by
    rcases h2 with rfl|⟨t,rfl⟩
    ·exact Below.refl _ _
    ·exact Lib.bytesWorld_below _ _ _⟩
  cases D with
  |nil=>cases h
  |cons c r=>
  have hw:IntKind.i64.wrap (0-v)=wrap64 (-v):=by rw[Int.zero_sub];exact Go.IntWalk.i64_left _
  have e0:∀h,(⟨(c::r).toArray⟩:ByteArray)[0]'h=c:=λ_=>rfl
  have e48:c=48↔(c.toNat:Int)=48:=⟨λe=>by rw[e];rfl,λe=>UInt8.toNat_inj.1 (show c.toNat=48 by omega)⟩
  cases B
  all_goals
   go_enter Tryz.func169,Tryz.ntmps169
   go_wp2_with (first|(go_at_call 209;refine(cut _).mono ?_;rintro e w' ⟨rfl,rfl⟩)|(go_at_call 210;refine(atoi _ ((Below.refl _ _).alloc (Nat.le_refl _) _)).mono ?_;rintro e W1 ⟨N,rfl,hb⟩;obtain⟨hb0,c0,c1,c2,c3,f0,f1,f2,f3⟩:=boxIn hb;clear hb)|go_in)
   all_goals refine bodyPost_ret (by simp[results,Tryz.results169,go_sem,c0,c1,c2,c3];try rfl) rfl ?_
   all_goals refine⟨?_,(((hb0.setCell (Nat.le_refl _) _).setCell (Nat.le_refl _) _).setCell (Nat.le_refl _) _).setCell (Nat.le_refl _) _⟩
   all_goals rw[←hX,h]
   all_goals clear hX atoi cut keep hb0 c0 c1 c2 c3 f0 f1 f2 f3 hdl
   all_goals try simp only[e0] at*
   all_goals try simp only[Bool.not_eq_true',decide_eq_false_iff_not,Bool.not_eq_false',decide_eq_true_eq,beq_iff_eq,beq_eq_false_iff_ne,ne_eq] at*
   all_goals simp only[List.length_cons,List.head?_cons,Option.some.injEq,Bool.false_eq_true,if_true,if_false,e48,hw]
   all_goals first
    |(rw[if_pos (by omega)];rfl)
    |(rw[if_neg (by omega)];rfl)
 |_=>
  have atoi:∀W,Below w.heap.size w W→Calls Tryz.prog 210 #[.string ⟨D.toArray⟩] W λe w'=>∃N,e=.returned (.tuple #[.int .i64 0,.iface 217 (.pointer (some ⟨N,0,none⟩))])∧Below W.heap.size W w':=λW hW=>
   (Tryz.strconv_Atoi_syntax ⟨D.toArray⟩ hdl h ev0 W (keep hW hv0) he0).mono λe w' ⟨N,h1,_,_,h2⟩=>⟨N,h1,h2⟩
  cases B
  all_goals
   go_enter Tryz.func169,Tryz.ntmps169
   go_wp2_with (first|(go_at_call 209;refine(cut _).mono ?_;rintro e w' ⟨rfl,rfl⟩)|(go_at_call 210;refine(atoi _ ((Below.refl _ _).alloc (Nat.le_refl _) _)).mono ?_;rintro e W1 ⟨N,rfl,hb⟩;obtain⟨hb0,c0,c1,c2,c3,f0,f1,f2,f3⟩:=boxIn hb;clear hb)|go_in)
   refine bodyPost_ret (by simp[results,Tryz.results169,go_sem,c0,c1,c2,c3];try rfl) rfl ?_
   exact⟨by rw[←hX,h];rfl,(((hb0.setCell (Nat.le_refl _) _).setCell (Nat.le_refl _) _).setCell (Nat.le_refl _) _).setCell (Nat.le_refl _) _⟩
end Go.Proofs.YtgmapdcdmomioaaGreatDoor.Pa
