/- Numbers that fit, sums, spans: in plain Lean. -/
import Derived.Test.YtikjnmpijflnaaaDoorVNum1
namespace Go.V
def lo64 : Int := -9223372036854775808
def fit64 (n : Int) : Prop := -9223372036854775808 ≤ n ∧ n ≤ 9223372036854775807
instance (n : Int) : Decidable (fit64 n) := inferInstanceAs (Decidable (_ ∧ _))
/-- a sum, if it fits -/
def sum2 (a b : Int) : Int × Bool := if fit64 (a + b) then (a + b, true) else (0, false)
def sub2 (a b : Int) : Int × Bool := if fit64 (a - b) then (a - b, true) else (0, false)
def sums : Int → List Int → Int × Bool
  | a, [] => (a, true)
  | a, b :: bs => if fit64 (a + b) then sums (a + b) bs else (0, false)
theorem sums_one (a b : Int) : sums a [b] = sum2 a b := rfl
/-- what Span answers -/
def spanF (start stop n : Int) : Int × Int :=
  if (if start < 0 then max (start + n) 0 else start) > min (if stop < 0 then stop + n else stop) (n - 1) then (0, 0) else ((if start < 0 then max (start + n) 0 else start), min (if stop < 0 then stop + n else stop) (n - 1) + 1)
end Go.V
