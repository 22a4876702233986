/- What a scan gives, its tokens named. -/
import Derived.Test.YtpnfdmajpkpjoaaDoorQScan5
set_option linter.unusedVariables false
set_option linter.unusedSimpArgs false
namespace Go.Proofs.YtpnfdmajpkpjoaaDoor
open Go.RowKit

def ScanIs (w0 : World) (toks : List Tok) (n : Nat) (line col err : Int) (e : Ending) (w' : World) : Prop :=
  ∃ a c, e = .returned (.tuple #[.slice a n c, .int .i64 line, .int .i64 col, .int .i64 err]) ∧ Hid (TokensAt w' (.slice a n c) toks) ∧ Hid (Below w0.heap.size w0 w')

theorem scanIs_of {w0 w' : World} {R : Scanned} {e : Ending} (h : ScanPost w0 R e w') : ScanIs w0 R.toks R.toks.length R.line R.col R.err e w' := by
  obtain ⟨v, rfl, ht, hb⟩ := h
  obtain ⟨a, c, rfl, _⟩ := ht.form
  exact ⟨a, c, rfl, ht, hb⟩

theorem scan_is (s : ByteArray) (w : World) (toks : List Tok) (n : Nat) (line col err : Int) (h : scanned s.data.toList = ⟨toks, line, col, err⟩) (hn : toks.length = n) :
    Calls Tryd.prog 23 #[.string s] w (ScanIs w toks n line col err) := by
  refine (scan_any s w).mono fun e w' hp => ?_
  have h1 := scanIs_of hp
  rw [h] at h1
  rw [← hn]
  exact h1

end Go.Proofs.YtpnfdmajpkpjoaaDoor

