/- Walks: queries.Answer, Cancel, Forget. Printed by wip/gen_qrw8.py. -/
import Derived.Test.YtlchgbfpoaipgaaDoorQrW7
import Derived.Deep.RegionWith
set_option linter.unusedVariables false
set_option linter.unusedSimpArgs false
set_option linter.unusedSectionVars false
namespace Go.Proofs.YtlchgbfpoaipgaaDoor
open Go.RowKit
variable [Base]

theorem SliceAt.front {w : World} {T : TypeId} {sz b off n c : Nat} {xs : List Value} (h : SliceAt w T sz (.slice (some ⟨b, off, none⟩) n c) xs) (k : Nat) (hk : k ≤ n) : SliceAt w T sz (.slice (some ⟨b, off, none⟩) k c) (xs.take (k * sz)) := by
  obtain ⟨n', cap, h1, h2, h3, h4⟩ := h
  rcases h4 with ⟨⟨a', h4⟩, h0⟩ | ⟨b', off', cs, fr, e1, e2, e3⟩
  · injection h4 with h4 h6 h7
    subst h0 h6 h7
    obtain rfl : k = 0 := by omega
    have hx : xs = [] := List.length_eq_zero_iff.1 (by omega)
    exact ⟨0, 0, by simp [hx], Nat.le_refl _, Nat.zero_le _, .inl ⟨⟨_, rfl⟩, rfl⟩⟩
  · injection e1 with e1 e4 e5
    injection e1 with e1
    injection e1 with e6 e7
    subst e4 e5 e6 e7
    have hm := Nat.mul_le_mul_right sz hk
    refine ⟨k, c, by rw [List.length_take, h1]; omega, by omega, h3, .inr ⟨b, off, cs, fr, rfl, e2, fun j hj => ?_⟩⟩
    rw [List.length_take] at hj
    rw [e3 j (by omega), List.getElem?_take_of_lt (by omega)]
theorem SliceAt.back {w : World} {T : TypeId} {sz b off n c : Nat} {xs : List Value} (h : SliceAt w T sz (.slice (some ⟨b, off, none⟩) n c) xs) (k : Nat) (hk : k ≤ n) : SliceAt w T sz (.slice (some ⟨b, off + k * sz, none⟩) (n - k) (c - k)) (xs.drop (k * sz)) := by
  obtain ⟨n', cap, h1, h2, h3, h4⟩ := h
  rcases h4 with ⟨⟨a', h4⟩, h0⟩ | ⟨b', off', cs, fr, e1, e2, e3⟩
  · injection h4 with h4 h6 h7
    subst h0 h6 h7
    obtain rfl : k = 0 := by omega
    have hx : xs = [] := List.length_eq_zero_iff.1 (by omega)
    exact ⟨0, 0, by simp [hx], Nat.le_refl _, Nat.zero_le _, .inl ⟨⟨_, rfl⟩, rfl⟩⟩
  · injection e1 with e1 e4 e5
    injection e1 with e1
    injection e1 with e6 e7
    subst e4 e5 e6 e7
    refine ⟨n - k, c - k, by rw [List.length_drop, h1, Nat.sub_mul], by omega, by omega, .inr ⟨b, off + k * sz, cs, fr, rfl, e2, fun j hj => ?_⟩⟩
    rw [List.length_drop] at hj
    rw [Nat.add_assoc, e3 (k * sz + j) (by omega), List.getElem?_drop]
theorem SliceAt.backEnd {w : World} {T : TypeId} {sz b off n c o : Nat} {xs : List Value} (h : SliceAt w T sz (.slice (some ⟨b, off, none⟩) n c) xs) (k : Nat) (hk : n = k) : SliceAt w T sz (.slice (some ⟨b, o, none⟩) (n - k) (c - k)) (xs.drop (k * sz)) := by
  obtain ⟨n', cap, h1, h2, h3, h4⟩ := h
  rcases h4 with ⟨⟨a', h4⟩, h0⟩ | ⟨b', off', cs, fr, e1, e2, e3⟩
  · injection h4 with h4 h6 h7
    subst h0 h6 h7
    obtain rfl : k = 0 := by omega
    have hx : xs = [] := List.length_eq_zero_iff.1 (by omega)
    exact ⟨0, 0, by simp [hx], Nat.le_refl _, Nat.zero_le _, .inl ⟨⟨_, rfl⟩, rfl⟩⟩
  · injection e1 with e1 e4 e5
    injection e1 with e1
    injection e1 with e6 e7
    subst e4 e5 e6 e7
    subst hk
    have hx : xs.drop (n * sz) = [] := by rw [← h1]; exact List.drop_length
    rw [hx]
    refine ⟨n - n, c - n, by simp, by omega, by omega, .inr ⟨b, o, cs, fr, rfl, e2, fun j hj => ?_⟩⟩
    simp at hj
theorem flatten_erase (sz : Nat) : ∀ (xss : List (List Value)) (k : Nat), (∀ y ∈ xss, y.length = sz) → k < xss.length → xss.flatten.take (k * sz) ++ xss.flatten.drop ((k + 1) * sz) = (xss.eraseIdx k).flatten
  | [], _, _, h => by simp at h
  | y :: xss, 0, hl, _ => by
    have h1 := hl y List.mem_cons_self
    simp only [List.flatten_cons, List.eraseIdx_cons_zero, Nat.zero_mul, List.take_zero, List.nil_append, Nat.zero_add, Nat.one_mul]
    rw [← h1, List.drop_left]
  | y :: xss, k + 1, hl, hk => by
    have h1 := hl y List.mem_cons_self
    have h2 := flatten_erase sz xss k (fun z hz => hl z (List.mem_cons_of_mem _ hz)) (by simpa using hk)
    simp only [List.flatten_cons, List.eraseIdx_cons_succ]
    have e1 : (k + 1) * sz = y.length + k * sz := by rw [Nat.succ_mul]; omega
    have e2 : (k + 1 + 1) * sz = y.length + (k + 1) * sz := by rw [Nat.succ_mul (k + 1)]; omega
    rw [← h2, e2, List.drop_length_add_append, e1, List.take_length_add_append, List.append_assoc]
theorem All2.erase {α β : Type} {R : α → β → Prop} : ∀ {xs : List α} {ys : List β} (k : Nat), All2 R xs ys → All2 R (xs.eraseIdx k) (ys.eraseIdx k)
  | [], [], _, _ => trivial
  | a :: xs, b :: ys, 0, ⟨_, h2⟩ => h2
  | a :: xs, b :: ys, k + 1, ⟨h1, h2⟩ => ⟨h1, All2.erase k h2⟩
theorem answer_any {B : Nat} (l : List QRec) (x : Str) (s : QSet) (v u : Value) (w : World) (KW : KwIn B w) (hB : B ≤ w.heap.size) (h : RecsAt w v l) (hu : WordsAt w u s.words) :
    Calls Tryd.prog 19 #[v, qs x, setV s u] w (TabQ (answerQ l x s) w) := by
  have b0 : Below w.heap.size w (w.alloc (.cells #[.int .i64 s.width, u] 29)) := (Below.refl _ _).alloc (Nat.le_refl _) _
  have K := Lib.hid (finish_any l x 2 s v u (w.alloc (.cells #[.int .i64 s.width, u] 29)) (KW.keep fun q hq => b0.block q (by omega)) (Nat.le_trans hB b0.size) (h.below b0) (hu.below b0))
  have B0 := Lib.hid b0
  obtain ⟨a, c, rfl, -, -, -, -⟩ := h.cell
  clear KW hu h b0
  go_enter Tryd.func19, Tryd.ntmps19
  go_wp2_with (go_at_call 39; refine K.out.mono ?_; rintro e w1 ⟨v1, rfl, h1, b1⟩; have P := Lib.hid (And.intro h1 (B0.out.trans (b1.mono B0.out.size))); clear h1 b1)
  go_ret2
  exact ⟨_, rfl, P.out⟩
theorem cancel_any {B : Nat} (l : List QRec) (x : Str) (v : Value) (w : World) (KW : KwIn B w) (hB : B ≤ w.heap.size) (h : RecsAt w v l) :
    Calls Tryd.prog 20 #[v, qs x] w (TabQ (cancelQ l x) w) := by
  have K := Lib.hid (finish_any l x 3 zeroSet v (.slice none 0 0) w KW hB h WordsAt.nil)
  obtain ⟨a, c, rfl, -, -, -, -⟩ := h.cell
  clear KW h
  go_enter Tryd.func20, Tryd.ntmps20
  go_wp2_with (go_at_call 39; refine K.out.mono ?_; rintro e w1 ⟨v1, rfl, h1, b1⟩; have P := Lib.hid (And.intro h1 b1); clear h1 b1)
  go_ret2
  exact ⟨_, rfl, P.out⟩
end Go.Proofs.YtlchgbfpoaipgaaDoor
