/- The machine: what a term does, whatever its kind. -/
import Derived.Test.YtjcgoohmhbgkiaaProg
import Derived.Test.YtjcgoohmhbgkiaaFlO
import Derived.Test.YtjcgoohmhbgkiaaMJ
set_option linter.all false
set_option linter.all false
namespace Go.Proofs.Ytjcgoohmhbgkiaa
open Go.RowKit
set_option maxHeartbeats 400000

theorem does_any {c : Ctx} {w : World} {S : List Nat} {steps : Nat} {s : St} {vw vs : Value} {sh : List Int} {F V o i : Nat} {vl : List Int} {env : Env} {tb to : Nat} {t : Term} (D : DoesIn c w S steps s vw vs sh F V o i vl env tb to t) (hsh : sh = []) (hk : ¬ t.kind = 5) :
    Calls Try.prog 55 #[.pointer (some ⟨c.M, 0, none⟩), .pointer (some ⟨tb, to, none⟩), .pointer (some ⟨F, 0, none⟩)] w (DoesPost c S w steps vs sh F V o i vl t (stepT t env s)) := by
  rcases formed_kinds D.fm with h | h | h | h | h | h | h | h | h
  · exact does_prim D h
  · exact does_con D h
  · exact does_field D h
  · exact absurd h hk
  · exact does_switch D h
  · exact does_write D h
  · exact does_halt D hsh h
  · exact does_clo D h
  · exact does_env D h
end Go.Proofs.Ytjcgoohmhbgkiaa
