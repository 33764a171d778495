/- The parse layers in the plain machine: tables. -/
import Derived.Test.YtiheejdkkjfenaaGreatDoorQH
import Derived.Test.YtiheejdkkjfenaaGreatDoorQE
import Derived.Test.YtiheejdkkjfenaaGreatDoorProg
set_option linter.all false
set_option autoImplicit false
set_option maxRecDepth 100000
namespace Go.Proofs.YtiheejdkkjfenaaGreatDoor.Pa
open Go Go.RowKit Go.Proofs.YtiheejdkkjfenaaGreatDoor.Am
def escs:FuncId→List Nat
 |28=>[86]|35=>[13,11,2]|46=>[3]|47=>[11,7,6]|61=>[12,6,5,4,1000000]|66=>[5,2,6,1000000]|79=>[5,3]|81=>[8,9,5,7,3,4,1000000]|42=>[1000000]|127=>[1000000]|111=>[5,3,4]|119=>[17]|128=>[5,6]|132=>[7,13]|233=>[8]|236=>[10]|237=>[10]|238=>[15]|239=>[15]|248=>[5]|254=>[5]|65=>[16,18]|113=>[1000000]|183=>[1000000]|92=>[1000000]|96=>[1000000]|98=>[1000000]|224=>[1000000]|205=>[1000000]|161=>[1000000]|162=>[1000000]|163=>[1000000]|230=>[1000000]|_=>[]
noncomputable def T0:Tb:=tbOf Tryz.prog [150,35] escs
theorem okT0:T0.Ok Tryz.prog:=tbOf_ok (by kernel_rfl) (by kernel_rfl) (by kernel_rfl)
end Go.Proofs.YtiheejdkkjfenaaGreatDoor.Pa
