/- The program's parser: keywords, names. -/
import Derived.Test.YtpnfdmajpkpjoaaDoorQSyn1
import Derived.Test.YtpnfdmajpkpjoaaDoorQGenP
import Derived.Test.YtpnfdmajpkpjoaaDoorQTxtN
set_option linter.unusedVariables false
set_option linter.unusedSimpArgs false
namespace Go.Proofs.YtpnfdmajpkpjoaaDoor
open Go.RowKit

def kwOf (op : Int) : Str :=
  if op = 2 then [117, 115, 101] else if op = 3 then [99, 97, 108, 108] else if op = 4 then [115, 111, 117, 114, 99, 101] else if op = 5 then [115, 105, 110, 107]
  else if op = 6 then [115, 97, 110, 105, 116, 105, 122, 101] else if op = 7 then [103, 111, 116, 111] else if op = 8 then [98, 114, 97, 110, 99, 104] else if op = 9 then [114, 101, 116, 117, 114, 110] else []

theorem keyword_any (op : Int) (w : World) :
    Calls Tryd.prog 92 #[.int .i64 op] w fun e w' => e = .returned (sv (kwOf op)) ∧ w = w' := by
  go_enter Tryd.func92, Tryd.ntmps92
  go_wp2
  all_goals
    go_ret
    refine ⟨?_, rfl⟩
    simp_all [kwOf]

theorem opOf_kw (k : Nat) (h2 : 2 ≤ k) (h9 : k ≤ 9) : opOf (kwOf (k : Int)) = k := by
  have : k = 2 ∨ k = 3 ∨ k = 4 ∨ k = 5 ∨ k = 6 ∨ k = 7 ∨ k = 8 ∨ k = 9 := by omega
  rcases this with rfl | rfl | rfl | rfl | rfl | rfl | rfl | rfl <;> rfl
theorem opOf_none (x : Str) (h : ∀ j : Nat, 2 ≤ j → j < 10 → kwOf (j : Int) ≠ x) : opOf x = 0 := by
  have h2 := h 2 (by omega) (by omega)
  have h3 := h 3 (by omega) (by omega)
  have h4 := h 4 (by omega) (by omega)
  have h5 := h 5 (by omega) (by omega)
  have h6 := h 6 (by omega) (by omega)
  have h7 := h 7 (by omega) (by omega)
  have h8 := h 8 (by omega) (by omega)
  have h9 := h 9 (by omega) (by omega)
  unfold opOf
  rw [if_neg (fun e => h2 e.symm), if_neg (fun e => h3 e.symm), if_neg (fun e => h4 e.symm), if_neg (fun e => h5 e.symm), if_neg (fun e => h6 e.symm), if_neg (fun e => h7 e.symm), if_neg (fun e => h8 e.symm), if_neg (fun e => h9 e.symm)]

theorem operation_any (x : Str) (w : World) :
    Calls Tryd.prog 85 #[sv x] w fun e w' => e = .returned (.int .i64 (opOf x)) ∧ w = w' := by
  go_enter Tryd.func85, Tryd.ntmps85
  go_wp2
  go_loop [3] (fun v => ∃ k : Nat, 2 ≤ k ∧ k ≤ 10 ∧ v = .int .i64 k ∧ Hid (∀ j : Nat, 2 ≤ j → j < k → kwOf (j : Int) ≠ x)) (fun v => 10 - (intOf v).toNat)
  case atStart => exact ⟨2, by omega, by omega, rfl, fun j h1 h2 => by omega⟩
  case round =>
    obtain ⟨k, h2, h10, rfl, hn⟩ := hrel
    by_cases hlt : k ≤ 9
    · obtain ⟨y, hy⟩ : ∃ y, kwOf (k : Int) = y := ⟨_, rfl⟩
      have hK := Lib.hid (fun w => hy ▸ keyword_any (k : Int) w)
      have HY := Lib.hid hy
      clear hy
      cases e : y == x
      · have E := Lib.hid e
        go_wp2_with (go_at_call 92; refine (hK.out _).mono ?_; rintro e w' ⟨rfl, rfl⟩)
        go_round
        case rel =>
          refine ⟨k + 1, by omega, by omega, by go_num, fun j j1 j2 => ?_⟩
          rcases Nat.lt_or_ge j k with h | h
          · exact hn.out j j1 h
          · obtain rfl : j = k := by omega
            rw [HY.out]
            have := E.out
            simpa using this
        case measure => simp [intOf]; omega
      · have E : Hid (y = x) := by unfold Hid; simpa using e
        go_wp2_with (go_at_call 92; refine (hK.out _).mono ?_; rintro e w' ⟨rfl, rfl⟩)
        go_ret
        refine ⟨?_, rfl⟩
        rw [← E.out, ← HY.out, opOf_kw k h2 hlt]
        rfl
    · go_wp2
      go_ret
      exact ⟨by rw [opOf_none x fun j j1 j2 => hn.out j j1 (by omega)]; rfl, rfl⟩

theorem starts_any {B bp : Nat} {T : List Tok} {s : PS} {w : World} (h : PSt B bp T s w) :
    Calls Tryd.prog 70 #[.pointer (some ⟨bp, 0, none⟩)] w (SP B bp T s (.bool (startsB T s)) w) := by
  have hN := Lib.hid (next_any' h)
  have hI := Lib.hid (fun w (h : PSt B bp T s w) => isName_any h)
  have e1 : startsB T s = (isN T s || ((s.next T).kind == 1 && opOf (s.next T).text != 0)) := rfl
  rw [e1]
  clear e1
  generalize s.next T = tt at hN ⊢
  generalize isN T s = b at hI ⊢
  obtain ⟨k, y, l, c⟩ := tt
  dsimp only [tokV] at hN ⊢
  have hO := Lib.hid (fun w => operation_any y w)
  clear h
  obtain ⟨ov, hov⟩ : ∃ o, opOf y = o := ⟨_, rfl⟩
  rw [hov] at hO ⊢
  clear hov
  go_enter Tryd.func70, Tryd.ntmps70
  go_wp2_with fail
  refine hN.out.mono ?_
  rintro e w1 ⟨rfl, h1, b1⟩
  have hlt1 := h1.lt
  have H1 := Lib.hid (h1.alloc (.cells #[.int .i64 k, sv y, .int .i64 l, .int .i64 c] 64))
  have B1 := Lib.hid (b1.alloc (.cells #[.int .i64 k, sv y, .int .i64 l, .int .i64 c] 64))
  have HI := Lib.hid (hI.out _ H1.out)
  clear h1 b1 hI
  go_wp2_with fail
  refine HI.out.mono ?_
  rintro e w2 ⟨rfl, h2, b2⟩
  have c0 : w2.cell? ⟨w1.heap.size, 0, none⟩ = some (.int .i64 k) := (b2.cell w1.heap.size 0 (by simp) (by omega)).trans (World.cell?_alloc_new _ _ _ _)
  have c1 : w2.cell? ⟨w1.heap.size, 1, none⟩ = some (sv y) := (b2.cell w1.heap.size 1 (by simp) (by omega)).trans (World.cell?_alloc_new _ _ _ _)
  have H2 := Lib.hid h2
  have B2 := Lib.hid (B1.out.trans b2)
  clear h2 b2 HI
  cases b
  · cases hk : k == 1
    · have HK := Lib.hid hk
      go_wp2
      go_ret
      exact ⟨ret_bool (by rw [HK.out]; rfl), H2.out, B2.out⟩
    · have HK := Lib.hid hk
      go_wp2_with (go_at_call 85; refine (hO.out _).mono ?_; rintro e w' ⟨rfl, rfl⟩)
      go_ret
      exact ⟨ret_bool (by rw [HK.out]; simp), H2.out, B2.out⟩
  · go_wp2
    go_ret
    exact ⟨rfl, H2.out, B2.out⟩
end Go.Proofs.YtpnfdmajpkpjoaaDoor

