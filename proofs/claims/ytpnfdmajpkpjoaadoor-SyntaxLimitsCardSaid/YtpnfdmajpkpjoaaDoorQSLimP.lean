/- What is parsed of the greatest texts: plain Lean, no program in sight. -/
import Derived.Test.YtpnfdmajpkpjoaaDoorQPgmP
set_option linter.unusedVariables false
set_option linter.unusedSimpArgs false
namespace Go.Proofs.YtpnfdmajpkpjoaaDoor

/-- Whether what is parsed is this error at this line. -/
def limB (l : List UInt8) (e line : Int) : Bool := (parsed l).err == e && (parsed l).line == line
def rep (k : Nat) (u : List UInt8) : List UInt8 := (List.replicate k u).flatten
def lFuncs : List UInt8 := [102, 117, 110, 99, 32, 102, 10, 98, 108, 111, 99, 107, 32, 98, 10, 114, 101, 116, 117, 114, 110, 10, 101, 110, 100, 10]
def lFunc : List UInt8 := [102, 117, 110, 99, 32, 102, 10]
def lBlock : List UInt8 := [98, 108, 111, 99, 107, 32, 98, 10, 114, 101, 116, 117, 114, 110, 10]
def lEnd : List UInt8 := [101, 110, 100, 10]
def lHead : List UInt8 := [102, 117, 110, 99, 32, 102, 10, 98, 108, 111, 99, 107, 32, 98, 10]
def lRet : List UInt8 := [114, 101, 116, 117, 114, 110, 10]
def lUse : List UInt8 := [102, 117, 110, 99, 32, 102, 10, 98, 108, 111, 99, 107, 32, 98, 10, 117, 115, 101]
def lX : List UInt8 := [32, 120]
def lEnd2 : List UInt8 := [10, 101, 110, 100, 10]
theorem lim0 : limB (rep 8 lFuncs) 0 0 = true := by decide +kernel
theorem lim0' : limB (rep 9 lFuncs) 7 33 = true := by decide +kernel
theorem lim1 : limB (lFunc ++ rep 16 lBlock ++ lEnd) 0 0 = true := by decide +kernel
theorem lim1' : limB (lFunc ++ rep 17 lBlock ++ lEnd) 7 34 = true := by decide +kernel
theorem lim2 : limB (lHead ++ rep 32 lRet ++ lEnd) 0 0 = true := by decide +kernel
theorem lim2' : limB (lHead ++ rep 33 lRet ++ lEnd) 7 35 = true := by decide +kernel
theorem lim3 : limB (lUse ++ rep 4 lX ++ lEnd2) 0 0 = true := by decide +kernel
theorem lim3' : limB (lUse ++ rep 5 lX ++ lEnd2) 7 3 = true := by decide +kernel
end Go.Proofs.YtpnfdmajpkpjoaaDoor

