/- The law's sanity check: the examples of its chapter. -/
import Derived.Test.YtahdmekakbagnaaScan5
import Derived.Test.YtahdmekakbagnaaSame
namespace Go.Proofs.Ytahdmekakbagnaa
open Go.RowKit

def ScanIs (w0 : World) (toks : List Tok) (n : Nat) (line col err : Int) (e : Ending) (w' : World) : Prop :=
  ∃ a c, e = .returned (.tuple #[.slice a n c, .int .i64 line, .int .i64 col, .int .i64 err]) ∧ Hid (TokensAt w' (.slice a n c) toks) ∧ Hid (Below w0.heap.size w0 w')

theorem scanIs_of {w0 w' : World} {R : Scanned} {e : Ending} (h : ScanPost w0 R e w') : ScanIs w0 R.toks R.toks.length R.line R.col R.err e w' := by
  obtain ⟨v, rfl, ht, hb⟩ := h
  obtain ⟨a, c, rfl, _⟩ := ht.form
  exact ⟨a, c, rfl, ht, hb⟩

theorem scan_is (s : ByteArray) (w : World) (toks : List Tok) (n : Nat) (line col err : Int) (h : scanned s.data.toList = ⟨toks, line, col, err⟩) (hn : toks.length = n) :
    Calls Try.prog 12 #[.string s] w (ScanIs w toks n line col err) := by
  refine (scan_any s w).mono fun e w' hp => ?_
  have h1 := scanIs_of hp
  rw [h] at h1
  rw [← hn]
  exact h1

def saneToks : List Tok := [⟨1, [120], 1, 1⟩, ⟨2, [61], 1, 3⟩, ⟨1, [121], 1, 5⟩, ⟨3, [], 1, 7⟩, ⟨1, [114, 101, 116, 117, 114, 110], 1, 9⟩, ⟨3, [], 1, 15⟩]

set_option maxHeartbeats 1000000 in
theorem sane_any (w : World) : Calls Try.prog 11 #[] w fun e w' => e = .returned (.bool true) ∧ Below w.heap.size w w' := by
  have s1 := Lib.hid (fun w => scan_is ⟨#[120, 32, 61, 32, 121, 32, 59, 32, 114, 101, 116, 117, 114, 110]⟩ w saneToks 6 0 0 0 rfl rfl)
  have s2 := Lib.hid (fun w => scan_is ⟨#[120, 32, 61, 32, 49, 121]⟩ w [] 0 1 5 4 rfl rfl)
  have s3 := Lib.hid (fun w => scan_is ⟨#[10, 32, 35, 32, 97, 59, 32, 98, 10, 10]⟩ w [] 0 0 0 0 rfl rfl)
  go_enter Try.func11, Try.ntmps11
  go_wp2_with fail
  refine (s1.out _).mono ?_
  rintro e w1 ⟨a1, c1, rfl, t1, b1⟩
  go_wp2_with fail
  refine (s2.out _).mono ?_
  rintro e w2 ⟨a2, c2, rfl, t2, b2⟩
  go_wp2_with fail
  refine (s3.out _).mono ?_
  rintro e w3 ⟨a3, c3, rfl, t3, b3⟩
  go_wp2_with fail
  refine (same_any saneToks saneToks false _ _ _ ?_ ?_).mono ?_
  · exact ((t1.out.same (SameT.below (b2.out))).same (SameT.below b3.out)).same SameT.alloc
  · exact SliceAt.new (saneToks.map tokCells).flatten 6 rfl (by unfold maxLen; omega)
  rintro e w' ⟨rfl, k, rfl⟩
  have hs : sameB false saneToks saneToks = true := rfl
  rw [hs]
  have B1 := b1.out
  have B2 := b2.out
  have B3 := b3.out
  have hb : Hid (Below w.heap.size w ((w3.alloc (.cells (saneToks.map tokCells).flatten.toArray 46)).drewN k)) :=
    below_drewN ((((B1.trans (B2.mono B1.size)).trans (B3.mono (Nat.le_trans B1.size B2.size)))).alloc (by have := B1.size; have := B2.size; have := B3.size; omega) _) k
  clear B1 B2 B3 t1 t2 t3 b1 b2 b3
  go_wp2
  go_ret
  exact ⟨rfl, hb.out⟩
end Go.Proofs.Ytahdmekakbagnaa
