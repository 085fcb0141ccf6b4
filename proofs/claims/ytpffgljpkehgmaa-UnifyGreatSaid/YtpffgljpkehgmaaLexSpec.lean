/-
  The lexer in plain Lean: over lists of bytes.
-/
import Derived.Test.YtpffgljpkehgmaaAMS
import Derived.Test.YtpffgljpkehgmaaGCtx
import Derived.Test.YtpffgljpkehgmaaGE1
import Derived.Test.YtpffgljpkehgmaaGE8
namespace Go.AM.Lx
def smallB (c : UInt8) : Bool := decide (97 ≤ c.toNat ∧ c.toNat ≤ 122)
def greatB (c : UInt8) : Bool := decide (65 ≤ c.toNat ∧ c.toNat ≤ 90)
def digitB (c : UInt8) : Bool := decide (48 ≤ c.toNat ∧ c.toNat ≤ 57)
def tickB (c : UInt8) : Bool := smallB c || greatB c || digitB c || c == 95
def wordB (c : UInt8) : Bool := tickB c || c == 39
def keys : List (List UInt8) := [[108, 101, 116], [114, 101, 99], [105, 110], [102, 117, 110], [105, 102], [116, 104, 101, 110], [101, 108, 115, 101], [109, 97, 116, 99, 104], [119, 105, 116, 104], [116, 121, 112, 101], [111, 102], [116, 114, 117, 101], [102, 97, 108, 115, 101]]
def signs : List (List UInt8) := [[45, 62], [58, 58], [59, 59], [40], [41], [44], [124], [61], [60], [43], [45], [42], [95]]
def named (w : List UInt8) : Nat := if w = [95] then 6 else if w ∈ keys then 5 else match w with
  | c :: _ => if greatB c then 2 else 1
  | [] => 1
/-- a remark: how many bytes it has, at depth d -/
def rem : List UInt8 → Int → Option Nat
  | 40 :: 42 :: r, d => (rem r (d + 1)).map (· + 2)
  | 42 :: 41 :: r, d => if d - 1 = 0 then some 2 else (rem r (d - 1)).map (· + 2)
  | _ :: r, d => (rem r d).map (· + 1)
  | [], _ => none
def firstSign (l : List UInt8) : List (List UInt8) → Nat × Nat
  | [] => (0, 0)
  | w :: ws => if w <+: l then (6, w.length) else firstSign l ws
def run (p : UInt8 → Bool) (l : List UInt8) : Nat := (l.takeWhile p).length
def headSmall : List UInt8 → Bool
  | d :: _ => smallB d
  | [] => false
def one : List UInt8 → Nat × Nat
  | [] => (0, 0)
  | c :: r => if c == 95 || smallB c || greatB c then (named (c :: r.take (run wordB r)), 1 + run wordB r)
    else if digitB c then (3, 1 + run digitB r)
    else if c == 39 && headSmall r then (4, 1 + run tickB r)
    else firstSign (c :: r) signs
structure Tok where
  k : Nat
  f : Nat
  t : Nat
  deriving DecidableEq, Inhabited
end Go.AM.Lx
namespace Go.AM
open Go Go.Proofs Lx
set_option linter.unusedSimpArgs false
set_option linter.unusedVariables false
@[simp] theorem u8_u8 (c : UInt8) : UInt8.ofNat c.toNat = c := by simp
end Go.AM
namespace Go.AM
open Go Go.Proofs Lx
set_option linter.unusedSimpArgs false
set_option linter.unusedVariables false
end Go.AM
namespace Go.AM
open Go Go.Proofs Lx
set_option linter.unusedSimpArgs false
set_option linter.unusedVariables false
structure TI where
  k : Int
  f : Int
  t : Int
  deriving DecidableEq, Inhabited
end Go.AM
