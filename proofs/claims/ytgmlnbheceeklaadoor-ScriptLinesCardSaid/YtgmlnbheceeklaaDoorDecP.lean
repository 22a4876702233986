/- Decimal digits: plain Lean. -/
import Derived.Test.YtgmlnbheceeklaaDoorPgmP
set_option linter.unusedVariables false
set_option linter.unusedSimpArgs false
set_option linter.unusedSectionVars false
namespace Go.Proofs.YtgmlnbheceeklaaDoor

/-- Decimal digits of a number below 1000. -/
def dig10 (n : Nat) : UInt8 := UInt8.ofNat (48 + n % 10)
def decF : Nat → Nat → Str
  | 0, _ => []
  | f + 1, n => (if n / 10 = 0 then [] else decF f (n / 10)) ++ [dig10 n]
def dec10 (n : Nat) : Str := decF 20 n
end Go.Proofs.YtgmlnbheceeklaaDoor
