/- The texts of the law on limits, plainly. -/
import Derived.Test.YtahdmekakbagnaaLexP
namespace Go.Proofs.Ytahdmekakbagnaa

theorem lex_spaces (k : Nat) : ∀ (line col : Int) (op : Bool) (acc : List Tok), lex (List.replicate k 32) line col op acc = ⟨fin op line (col + k) acc, 0, 0, 0⟩ := by
  induction k with
  | zero => intro line col op acc; rw [List.replicate_zero, lex_nil]; simp
  | succ k ih =>
    intro line col op acc
    rw [List.replicate_succ, lex_space (by left; rfl), ih]
    have : col + 1 + (k : Int) = col + ((k + 1 : Nat) : Int) := by omega
    rw [this]

theorem word_n (m : Nat) : (List.replicate m (110 : UInt8)).takeWhile partB = List.replicate m 110 ∧ (List.replicate m (110 : UInt8)).dropWhile partB = [] := by
  have hp : partB 110 = true := by decide
  induction m with
  | zero => exact ⟨rfl, rfl⟩
  | succ m ih => rw [List.replicate_succ, List.takeWhile_cons, List.dropWhile_cons, if_pos hp, if_pos hp, ih.1, ih.2]; exact ⟨rfl, rfl⟩

theorem limit_spaces (k : Nat) : scanned (List.replicate k 32) = if 4096 < k then ⟨[], 0, 0, 7⟩ else ⟨[], 0, 0, 0⟩ := by
  unfold scanned
  rw [List.length_replicate]
  split
  · rfl
  · rw [lex_spaces]; rfl

theorem limit_word (m : Nat) (hm : 1 ≤ m) (hm2 : m ≤ 100) : scanned (10 :: 32 :: List.replicate m 110) =
    if 16 < m then ⟨[], 2, 2, 7⟩ else ⟨[⟨1, List.replicate m 110, 2, 2⟩, ⟨3, [], 2, 2 + (m : Int)⟩], 0, 0, 0⟩ := by
  obtain ⟨k, rfl⟩ : ∃ k, m = k + 1 := ⟨m - 1, by omega⟩
  have hp : partB 110 = true := by decide
  have hd : isDig (((110 : UInt8).toNat : Nat) : Int) = false := by decide
  have hw := word_n (k + 1)
  rw [List.replicate_succ] at hw
  unfold scanned
  rw [if_neg (by simp; omega), lex_line (by rfl), lex_space (by left; rfl), List.replicate_succ]
  split
  · rename_i h
    rw [lex_long hp hd (by rw [hw.1]; simpa using h)]
    rfl
  · rename_i h
    rw [lex_word hp hd (by rw [hw.1]; simpa using h), hw.1, hw.2, lex_nil]
    simp [fin]
end Go.Proofs.Ytahdmekakbagnaa
