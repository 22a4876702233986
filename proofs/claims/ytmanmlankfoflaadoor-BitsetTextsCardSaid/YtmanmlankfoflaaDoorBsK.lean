/- The library's tables; numbers' texts. -/
import Derived.Test.YtmanmlankfoflaaDoorBsT
import Derived.Test.YtmanmlankfoflaaDoorShB
import Derived.Test.YtmanmlankfoflaaDoorBsD
import Derived.Lib.ItoaNum
set_option linter.unusedVariables false
set_option linter.unusedSimpArgs false
set_option linter.unusedSectionVars false
namespace Go.Proofs.YtmanmlankfoflaaDoor
open Go.RowKit
variable [Base]

theorem gP10 : Tryd.prog.globalNamed "internal/strconv.uint64pow10" = some 4 := by kernel_rfl
/-- The library's tables lie below B, as their texts lay them. -/
structure TabsIn (B : Nat) (w : World) : Prop where
  num : 8 ≤ B
  base : Base.b ≤ B
  tz : TabAt 0 Lib.deBruijn64tab w
  p10 : Lib.TabIs Tryd.prog w "internal/strconv.uint64pow10" .u64 Lib.pow10Tab
theorem TabsIn.keep {B : Nat} {w w' : World} (h : TabsIn B w) (hB : ∀ k, k < B → w'.heap[k]? = w.heap[k]?) : TabsIn B w' := by
  have hn := h.num
  refine ⟨h.num, h.base, fun j hj => (World.cell?_of_block (hB 0 (by omega))).trans (h.tz j hj), ?_⟩
  have k := h.p10
  unfold Lib.TabIs World.var? at k ⊢
  rw [gP10] at k ⊢
  simp only [Option.bind_some] at k ⊢
  rw [hB 4 (by omega)]
  exact k
theorem TabsIn.below {B : Nat} {w w' : World} (h : TabsIn B w) (hb : Below B w w') : TabsIn B w' := h.keep fun k hk => hb.block k hk
theorem below_regrow (w : World) (k : Nat) (os : Array Obj) : Below w.heap.size w (Sort.grow (w.drewN k) os) := by
  refine ⟨rfl, rfl, rfl, ?_, fun j hj => ?_⟩
  · show w.heap.size ≤ (w.heap ++ os).size
    simp
  · show (w.heap ++ os)[j]? = w.heap[j]?
    exact Array.getElem?_append_left hj
theorem decF_digits : ∀ (f n : Nat), n < 10 ^ f → 0 < f → decF f n = Lib.decDigits n
  | 0, n, _, h => by omega
  | f + 1, n, h, _ => by
    rw [Lib.decDigits, decF]
    by_cases h10 : n < 10
    · rw [dif_pos h10, if_pos (by omega)]
      unfold dig10
      rw [Nat.mod_eq_of_lt h10]
      rfl
    · rw [dif_neg h10, if_neg (by omega), decF_digits f (n / 10) (by rw [Nat.pow_succ] at h; omega) (by
        rcases f with _ | f
        · simp at h; omega
        · omega)]
      rfl
theorem dec10_digits {n : Nat} (h : n < 1000000000) : dec10 n = Lib.decDigits n := decF_digits 20 n (by omega) (by omega)
/-- What a number's text comes to. -/
def StrQ (x : Str) (w : World) (e : Ending) (w' : World) : Prop := e = .returned (qs x) ∧ Below w.heap.size w w'
theorem itoa_any {B : Nat} (n : Nat) (hn : n < 1000000000) (w : World) (hT : TabsIn B w) : Calls Tryd.prog 65 #[.int .i64 n] w (StrQ (dec10 n) w) := by
  refine (Tryd.strconv_Itoa (n : Int) (by omega) (by omega) w hT.p10).mono ?_
  rintro e w' ⟨rfl, k, os, rfl⟩
  refine ⟨?_, below_regrow w k os⟩
  rw [dec10_digits hn]
  unfold Lib.itoa
  rw [if_neg (by omega), Int.toNat_natCast]
theorem decF_len : ∀ (f n : Nat), (decF f n).length ≤ f
  | 0, n => by simp [decF]
  | f + 1, n => by
    have := decF_len f (n / 10)
    unfold decF
    split
    · simp
    · simp; omega
theorem dec10_len {n : Nat} (h : n < 1000000000) : (dec10 n).length ≤ 20 := decF_len 20 n
end Go.Proofs.YtmanmlankfoflaaDoor
