/- The scanner of the program: the walk behind the label 'next'. -/
import Derived.Test.YtahdmekakbagnaaScan2
namespace Go.Proofs.Ytahdmekakbagnaa
open Go.RowKit

theorem clip_any (a : Option Addr) (n c : Nat) (w : World) (hn : n ≤ maxLen) (hc : n ≤ c) :
    Calls Try.prog 21 #[.slice a n c] w fun e w' => e = .returned (.slice a n n) ∧ w' = w := by
  unfold maxLen at hn
  go_enter Try.func21, Try.ntmps21
  go_wp2
  go_outline
  go_ret
  exact ⟨rfl, rfl⟩

/-- The end of a text: the tokens are handed back. -/
def EndPost (w0 : World) (B : Nat) (T : List Tok) (e : Ending) (w' : World) : Prop :=
  e = .returned (.tuple #[]) ∧ ∃ a n c, w'.cell? ⟨B, 0, none⟩ = some (.slice a n c) ∧ n ≤ maxLen ∧ n ≤ c ∧ Hid (TokensAt w' (.slice a n n) T ∧ Below B w0 w')
theorem clip_tokens {w : World} {a : Option Addr} {n c : Nat} {T : List Tok} (h : TokensAt w (.slice a n c) T) : TokensAt w (.slice a n n) T := by
  obtain ⟨n', cap, h1, h2, h3, h4⟩ := h
  rcases h4 with ⟨e, rfl⟩ | ⟨b, off, cs, fr, e, e2, e3⟩
  · injection e with e1 e2 e3
    subst e1 e2 e3
    exact ⟨0, 0, h1, Nat.le_refl _, Nat.zero_le _, .inl ⟨rfl, rfl⟩⟩
  · injection e with e1 e4 e5
    subst e1 e4 e5
    exact ⟨n, n, h1, Nat.le_refl _, by omega, .inr ⟨b, off, cs, fr, rfl, e2, e3⟩⟩
theorem finish_end {w0 w : World} {B : Nat} {toks : List Tok} {i line start : Int} {op : Bool} (h : Sc w0 w B toks i line start op) (T : List Tok) (hT : fin op line (i - start + 1) toks = T)
    (hn : toks.length ≤ 1000000) (h1 : 0 ≤ i - start) (h2 : i - start ≤ 1000000) :
    Calls Try.prog 20 #[.pointer (some ⟨B + 4, 0, none⟩), .pointer (some ⟨B + 5, 0, none⟩)] w (EndPost w0 B T) := by
  refine (finish_any h hn h1 h2).mono ?_
  rintro e w1 ⟨rfl, hsc⟩
  rw [hT] at hsc
  obtain ⟨v, n, ho, hown⟩ := hsc.out
  have htok : TokensAt w1 v T := SliceAt.of_owns hown
  obtain ⟨a, c, rfl, n1, n2, n3, _⟩ := htok.form
  exact ⟨rfl, a, _, c, cell_blk ho, n1, n2, clip_tokens htok, hsc.below⟩

set_option maxHeartbeats 1000000 in
theorem scan_end (s : ByteArray) (w0 : World) (B : Nat) (R : Scanned) (m : Nat) (w : World) (u : Nat → Value) (toks : List Tok) (line start : Nat) (op : Bool) (hB : Hid (w0.heap.size = B))
    (hsc : Sc w0 w B toks s.size line start op) (hbd : Bd s toks s.size line start op) (hR : Hid (R = ⟨fin op line ((s.size : Int) - start + 1) toks, 0, 0, 0⟩)) :
    (behind scanBody 0).wp Try.prog (jumps (fun l a w => ∃ m', m' < m ∧ ScJ s w0 B R l m' a w) (bodyPost Try.prog Try.f12 (ScanPost w0 R))) (fr s B u) w := by
  have c1 := cell_blk hsc.at_
  have b1 := hbd.size
  have b2 := hbd.start
  have b3 := hbd.toks
  have hS := Lib.hid hsc
  clear hsc hbd
  conv => arg 2; whnf
  unfold fr
  go_wp2_with (first | (go_at_call 20; refine (finish_end hS.out _ rfl (by omega) (by omega) (by omega)).mono ?_; rintro e w1 ⟨rfl, a, n, c, d0, n1, n2, hT⟩) | (go_at_call 21; refine (clip_any _ _ _ _ n1 n2).mono ?_; rintro e w1 ⟨rfl, rfl⟩))
  simp only [Exit.then, jumps]
  refine bodyPost_ret (results_tmp4 rfl _ _ _) rfl ?_
  rw [hR.out]
  exact ⟨_, rfl, hT.out.1, by rw [hB.out]; exact hT.out.2⟩
end Go.Proofs.Ytahdmekakbagnaa
