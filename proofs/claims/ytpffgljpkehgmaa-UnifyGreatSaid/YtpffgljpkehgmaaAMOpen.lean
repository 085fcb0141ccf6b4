/-
  A law's arguments as the machine's values: numbers, bools, texts, structs of these, slices of these.
-/
import Derived.Test.YtpffgljpkehgmaaAMLaw
import Derived.Test.YtpffgljpkehgmaaAMS
import Derived.ChangeArms
namespace Go.AM
open Go Go.RowKit Go.WideShapes Go.ChangeShapes
set_option linter.unusedSimpArgs false
set_option linter.unusedVariables false
inductive Kd where
  | int (k : IntKind) | bool | str
  deriving DecidableEq
def KdFits : Kd → AV → Prop
  | .int k, .int k' n => k' = k ∧ k.min ≤ n ∧ n ≤ k.max
  | .bool, .bool _ => True
  | .str, .str s => s.size ≤ maxLen
  | _, _ => False
def FlatFits : List Kd → List AV → Prop
  | [], [] => True
  | k :: ks, a :: as => KdFits k a ∧ FlatFits ks as
  | _, _ => False
theorem FlatFits.append : ∀ {ks ls : List Kd} {as bs : List AV}, FlatFits ks as → FlatFits ls bs → FlatFits (ks ++ ls) (as ++ bs)
  | [], _, [], _, _, h => h
  | k :: ks, _, a :: as, _, h, h' => ⟨h.1, FlatFits.append h.2 h'⟩
  | [], _, _ :: _, _, h, _ => h.elim
  | _ :: _, _, [], _, h, _ => h.elim
section
variable {H : Type} {enc : TypeId × Value → H} {P : Program}
end
end Go.AM
