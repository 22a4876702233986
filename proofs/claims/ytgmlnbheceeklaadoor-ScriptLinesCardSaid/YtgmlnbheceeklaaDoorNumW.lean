/- Walk: the reference's Number. Printed by wip/gen_num.py. -/
import Derived.Test.YtgmlnbheceeklaaDoorRows
import Derived.Test.YtgmlnbheceeklaaDoorNumP
import Derived.WalkKit
import Derived.WalkSpells
import Derived.Lib.Hide
set_option linter.unusedVariables false
set_option linter.unusedSimpArgs false
set_option linter.unusedSectionVars false
namespace Go.Proofs.YtgmlnbheceeklaaDoor
open Go.RowKit

def NumQ (l : Str) (a : Nat) (w : World) (e : Ending) (w' : World) : Prop := e = .returned (.tuple #[.int .i64 ((numR l a).1 : Int), .int .i64 ((numR l a).2.1 : Int), .bool (numR l a).2.2]) ∧ w' = w
theorem NumQ.of {l : Str} {a x y : Nat} {b : Bool} {w : World} (h : numR l a = (x, y, b)) : NumQ l a w (.returned (.tuple #[.int .i64 (x : Int), .int .i64 (y : Int), .bool b])) w := by unfold NumQ; rw [h]; exact ⟨rfl, rfl⟩
theorem isD_yes {c : UInt8} (h1 : (48 : Int) ≤ (c.toNat : Int)) (h2 : (c.toNat : Int) ≤ 57) : isD c = true := by unfold isD; simp; omega
theorem isD_lo {c : UInt8} (h : ¬ (48 : Int) ≤ (c.toNat : Int)) : isD c = false := by unfold isD; simp; omega
theorem isD_hi {c : UInt8} (h : ¬ (c.toNat : Int) ≤ 57) : isD c = false := by unfold isD; simp; omega
theorem byte_at {s : ByteArray} {k : Nat} (h : k < s.size) : s.data.toList[k]? = some s[k] := by simp [h]; rfl
set_option maxRecDepth 100000 in
set_option maxHeartbeats 4000000 in
theorem number_any (s : ByteArray) (a : Nat) (ha : a ≤ s.size) (hs : s.size ≤ 281474976710656) (w : World) : Calls Tryd.prog 66 #[.string s, .int .i64 a] w (NumQ s.data.toList a w) := by
  have hud : ∀ b : Bool, (undef = Value.bool b) = False := fun b => by simp [undef]
  obtain ⟨l, hl⟩ : ∃ l, s.data.toList = l := ⟨_, rfl⟩
  have HL := Lib.hid hl
  have HLN := Lib.hid (show l.length = s.size by rw [← hl]; simp)
  rw [hl]
  clear hl
  go_enter Tryd.func66, Tryd.ntmps66
  go_wp2
  go_loop [7, 8] (fun y7 y8 => ∃ i j n : Nat, i = a + j ∧ i ≤ s.size ∧ y7 = .int .i64 n ∧ y8 = .int .i64 i ∧ Hid (RunAt l a j) ∧ n < 1000000000 ∧ j ≤ 9 ∧ Hid (n = numVal ((digRun 9 (l.drop a)).take j))) (fun y7 y8 => s.size - (intOf y8).toNat)
  case atStart => exact ⟨a, 0, 0, rfl, ha, rfl, rfl, RunAt.zero l a, by omega, by omega, rfl⟩
  case round =>
    obtain ⟨i, j, n, hi, hi2, rfl, rfl, R, hn, hj, HN⟩ := hrel
    have HI := Lib.hid hi
    have w9 : IntKind.i64.wrap ((a : Int) + 9) = (a : Int) + 9 := IntWalk.i64_in _ (by omega)
    have w1 : IntKind.i64.wrap ((a : Int) + 1) = (a : Int) + 1 := IntWalk.i64_in _ (by omega)
    by_cases hlt : i < s.size
    rotate_left
    · have d1 : decide ((i : Int) < (s.size : Int)) = false := by simp; omega
      have HD := Lib.hid (show (digRun 9 (l.drop a)).length = j from R.out.done (fun c hc hd => by have := (List.getElem?_eq_some_iff.1 hc).1; have := HLN.out; have := HI.out; omega))
      by_cases hj0 : j = 0
      · subst hj0
        have HR := Lib.hid (numR_no1 HD.out)
        have hia : i = a := by have := HI.out; omega
        subst hia
        clear hi
        go_wp2
        exact bodyPost_ret (v := .tuple #[.int .i64 ((0 : Nat) : Int), .int .i64 ((i : Nat) : Int), .bool false]) (by simp [results, Tryd.results66, go_sem]) rfl (NumQ.of HR.out)
      have h44 : ((i : Int) == (a : Int)) = false := by simp; omega
      have hal : a < s.size := by omega
      by_cases hz : (s[a].toNat : Int) = 48
      · have hzb : ((s[a].toNat : Int) == 48) = true := by simpa using hz
        by_cases hj1 : 1 < j
        · have HR := Lib.hid (numR_no2 (c := s[a]) HD.out hj1 (by rw [← HL.out]; exact byte_at hal) (by omega))
          have h54 : decide ((a : Int) + 1 < (i : Int)) = true := by simp; omega
          clear hi
          go_wp2
          exact bodyPost_ret (v := .tuple #[.int .i64 ((0 : Nat) : Int), .int .i64 ((a : Nat) : Int), .bool false]) (by simp [results, Tryd.results66, go_sem]) rfl (NumQ.of HR.out)
        have h54 : decide ((a : Int) + 1 < (i : Int)) = false := by simp; omega
        have hz2 : j ≤ 1 ∨ ∀ c, l[a]? = some c → c.toNat ≠ 48 := .inl (by omega)
        have HR := Lib.hid (numR_yes HD.out (by omega) hz2 (fun c hc => by exfalso; have := (List.getElem?_eq_some_iff.1 hc).1; have := HLN.out; have := HI.out; omega))
        have h61 : decide ((i : Int) < (s.size : Int)) = false := by simp; omega
        rw [← HN.out, ← HI.out] at HR
        clear hi
        go_wp2
        exact bodyPost_ret (v := .tuple #[.int .i64 ((n : Nat) : Int), .int .i64 ((i : Nat) : Int), .bool true]) (by simp [results, Tryd.results66, go_sem]) rfl (NumQ.of HR.out)
      have hzb : ((s[a].toNat : Int) == 48) = false := by simpa using hz
      have hz2 : j ≤ 1 ∨ ∀ c, l[a]? = some c → c.toNat ≠ 48 := .inr (fun c hc => by rw [← HL.out, byte_at hal] at hc; injection hc with hc; subst hc; omega)
      have HR := Lib.hid (numR_yes HD.out (by omega) hz2 (fun c hc => by exfalso; have := (List.getElem?_eq_some_iff.1 hc).1; have := HLN.out; have := HI.out; omega))
      have h61 : decide ((i : Int) < (s.size : Int)) = false := by simp; omega
      rw [← HN.out, ← HI.out] at HR
      clear hi
      go_wp2
      exact bodyPost_ret (v := .tuple #[.int .i64 ((n : Nat) : Int), .int .i64 ((i : Nat) : Int), .bool true]) (by simp [results, Tryd.results66, go_sem]) rfl (NumQ.of HR.out)
    have d1 : decide ((i : Int) < (s.size : Int)) = true := by simp; omega
    have hib : i < s.data.size := hlt
    by_cases h9 : j < 9
    rotate_left
    · have d2 : decide ((i : Int) < (a : Int) + 9) = false := by simp; omega
      have HD := Lib.hid (show (digRun 9 (l.drop a)).length = j from R.out.done (fun c hc hd => by have := HI.out; omega))
      by_cases hj0 : j = 0
      · subst hj0
        have HR := Lib.hid (numR_no1 HD.out)
        have hia : i = a := by have := HI.out; omega
        subst hia
        clear hi
        go_wp2
        exact bodyPost_ret (v := .tuple #[.int .i64 ((0 : Nat) : Int), .int .i64 ((i : Nat) : Int), .bool false]) (by simp [results, Tryd.results66, go_sem]) rfl (NumQ.of HR.out)
      have h44 : ((i : Int) == (a : Int)) = false := by simp; omega
      have hal : a < s.size := by omega
      by_cases hz : (s[a].toNat : Int) = 48
      · have hzb : ((s[a].toNat : Int) == 48) = true := by simpa using hz
        by_cases hj1 : 1 < j
        · have HR := Lib.hid (numR_no2 (c := s[a]) HD.out hj1 (by rw [← HL.out]; exact byte_at hal) (by omega))
          have h54 : decide ((a : Int) + 1 < (i : Int)) = true := by simp; omega
          clear hi
          go_wp2
          exact bodyPost_ret (v := .tuple #[.int .i64 ((0 : Nat) : Int), .int .i64 ((a : Nat) : Int), .bool false]) (by simp [results, Tryd.results66, go_sem]) rfl (NumQ.of HR.out)
        have h54 : decide ((a : Int) + 1 < (i : Int)) = false := by simp; omega
        have hz2 : j ≤ 1 ∨ ∀ c, l[a]? = some c → c.toNat ≠ 48 := .inl (by omega)
        by_cases c1 : (48 : Int) ≤ (s[i].toNat : Int)
        · have c1b : decide ((48 : Int) ≤ (s[i].toNat : Int)) = true := by simpa using c1
          by_cases c2 : (s[i].toNat : Int) ≤ 57
          · have c2b : decide ((s[i].toNat : Int) ≤ 57) = true := by simpa using c2
            have HR := Lib.hid (numR_no3 (c := s[i]) HD.out (by rw [← HI.out, ← HL.out]; exact byte_at hlt) (isD_yes c1 c2))
            clear hi
            go_wp2
            exact bodyPost_ret (v := .tuple #[.int .i64 ((0 : Nat) : Int), .int .i64 ((a : Nat) : Int), .bool false]) (by simp [results, Tryd.results66, go_sem]) rfl (NumQ.of HR.out)
          · have c2b : decide ((s[i].toNat : Int) ≤ 57) = false := by simpa using c2
            have HR := Lib.hid (numR_yes HD.out (by omega) hz2 (fun c hc => by rw [← HI.out, ← HL.out, byte_at hlt] at hc; injection hc with hc; subst hc; exact isD_hi c2))
            rw [← HN.out, ← HI.out] at HR
            clear hi
            go_wp2
            exact bodyPost_ret (v := .tuple #[.int .i64 ((n : Nat) : Int), .int .i64 ((i : Nat) : Int), .bool true]) (by simp [results, Tryd.results66, go_sem]) rfl (NumQ.of HR.out)
        · have c1b : decide ((48 : Int) ≤ (s[i].toNat : Int)) = false := by simpa using c1
          have HR := Lib.hid (numR_yes HD.out (by omega) hz2 (fun c hc => by rw [← HI.out, ← HL.out, byte_at hlt] at hc; injection hc with hc; subst hc; exact isD_lo c1))
          rw [← HN.out, ← HI.out] at HR
          clear hi
          go_wp2
          exact bodyPost_ret (v := .tuple #[.int .i64 ((n : Nat) : Int), .int .i64 ((i : Nat) : Int), .bool true]) (by simp [results, Tryd.results66, go_sem]) rfl (NumQ.of HR.out)
      have hzb : ((s[a].toNat : Int) == 48) = false := by simpa using hz
      have hz2 : j ≤ 1 ∨ ∀ c, l[a]? = some c → c.toNat ≠ 48 := .inr (fun c hc => by rw [← HL.out, byte_at hal] at hc; injection hc with hc; subst hc; omega)
      by_cases c1 : (48 : Int) ≤ (s[i].toNat : Int)
      · have c1b : decide ((48 : Int) ≤ (s[i].toNat : Int)) = true := by simpa using c1
        by_cases c2 : (s[i].toNat : Int) ≤ 57
        · have c2b : decide ((s[i].toNat : Int) ≤ 57) = true := by simpa using c2
          have HR := Lib.hid (numR_no3 (c := s[i]) HD.out (by rw [← HI.out, ← HL.out]; exact byte_at hlt) (isD_yes c1 c2))
          clear hi
          go_wp2
          exact bodyPost_ret (v := .tuple #[.int .i64 ((0 : Nat) : Int), .int .i64 ((a : Nat) : Int), .bool false]) (by simp [results, Tryd.results66, go_sem]) rfl (NumQ.of HR.out)
        · have c2b : decide ((s[i].toNat : Int) ≤ 57) = false := by simpa using c2
          have HR := Lib.hid (numR_yes HD.out (by omega) hz2 (fun c hc => by rw [← HI.out, ← HL.out, byte_at hlt] at hc; injection hc with hc; subst hc; exact isD_hi c2))
          rw [← HN.out, ← HI.out] at HR
          clear hi
          go_wp2
          exact bodyPost_ret (v := .tuple #[.int .i64 ((n : Nat) : Int), .int .i64 ((i : Nat) : Int), .bool true]) (by simp [results, Tryd.results66, go_sem]) rfl (NumQ.of HR.out)
      · have c1b : decide ((48 : Int) ≤ (s[i].toNat : Int)) = false := by simpa using c1
        have HR := Lib.hid (numR_yes HD.out (by omega) hz2 (fun c hc => by rw [← HI.out, ← HL.out, byte_at hlt] at hc; injection hc with hc; subst hc; exact isD_lo c1))
        rw [← HN.out, ← HI.out] at HR
        clear hi
        go_wp2
        exact bodyPost_ret (v := .tuple #[.int .i64 ((n : Nat) : Int), .int .i64 ((i : Nat) : Int), .bool true]) (by simp [results, Tryd.results66, go_sem]) rfl (NumQ.of HR.out)
    have d2 : decide ((i : Int) < (a : Int) + 9) = true := by simp; omega
    by_cases c1 : (48 : Int) ≤ (s[i].toNat : Int)
    rotate_left
    · have c1b : decide ((48 : Int) ≤ (s[i].toNat : Int)) = false := by simpa using c1
      have HD := Lib.hid (show (digRun 9 (l.drop a)).length = j from R.out.done (fun c hc hd => by exfalso; rw [← HI.out, ← HL.out, byte_at hlt] at hc; injection hc with hc; subst hc; rw [isD_lo c1] at hd; cases hd))
      by_cases hj0 : j = 0
      · subst hj0
        have HR := Lib.hid (numR_no1 HD.out)
        have hia : i = a := by have := HI.out; omega
        subst hia
        clear hi
        go_wp2
        exact bodyPost_ret (v := .tuple #[.int .i64 ((0 : Nat) : Int), .int .i64 ((i : Nat) : Int), .bool false]) (by simp [results, Tryd.results66, go_sem]) rfl (NumQ.of HR.out)
      have h44 : ((i : Int) == (a : Int)) = false := by simp; omega
      have hal : a < s.size := by omega
      by_cases hz : (s[a].toNat : Int) = 48
      · have hzb : ((s[a].toNat : Int) == 48) = true := by simpa using hz
        by_cases hj1 : 1 < j
        · have HR := Lib.hid (numR_no2 (c := s[a]) HD.out hj1 (by rw [← HL.out]; exact byte_at hal) (by omega))
          have h54 : decide ((a : Int) + 1 < (i : Int)) = true := by simp; omega
          clear hi
          go_wp2
          exact bodyPost_ret (v := .tuple #[.int .i64 ((0 : Nat) : Int), .int .i64 ((a : Nat) : Int), .bool false]) (by simp [results, Tryd.results66, go_sem]) rfl (NumQ.of HR.out)
        have h54 : decide ((a : Int) + 1 < (i : Int)) = false := by simp; omega
        have hz2 : j ≤ 1 ∨ ∀ c, l[a]? = some c → c.toNat ≠ 48 := .inl (by omega)
        have HR := Lib.hid (numR_yes HD.out (by omega) hz2 (fun c hc => by rw [← HI.out, ← HL.out, byte_at hlt] at hc; injection hc with hc; subst hc; exact isD_lo c1))
        rw [← HN.out, ← HI.out] at HR
        clear hi
        go_wp2
        exact bodyPost_ret (v := .tuple #[.int .i64 ((n : Nat) : Int), .int .i64 ((i : Nat) : Int), .bool true]) (by simp [results, Tryd.results66, go_sem]) rfl (NumQ.of HR.out)
      have hzb : ((s[a].toNat : Int) == 48) = false := by simpa using hz
      have hz2 : j ≤ 1 ∨ ∀ c, l[a]? = some c → c.toNat ≠ 48 := .inr (fun c hc => by rw [← HL.out, byte_at hal] at hc; injection hc with hc; subst hc; omega)
      have HR := Lib.hid (numR_yes HD.out (by omega) hz2 (fun c hc => by rw [← HI.out, ← HL.out, byte_at hlt] at hc; injection hc with hc; subst hc; exact isD_lo c1))
      rw [← HN.out, ← HI.out] at HR
      clear hi
      go_wp2
      exact bodyPost_ret (v := .tuple #[.int .i64 ((n : Nat) : Int), .int .i64 ((i : Nat) : Int), .bool true]) (by simp [results, Tryd.results66, go_sem]) rfl (NumQ.of HR.out)
    have c1b : decide ((48 : Int) ≤ (s[i].toNat : Int)) = true := by simpa using c1
    by_cases c2 : (s[i].toNat : Int) ≤ 57
    rotate_left
    · have c2b : decide ((s[i].toNat : Int) ≤ 57) = false := by simpa using c2
      have HD := Lib.hid (show (digRun 9 (l.drop a)).length = j from R.out.done (fun c hc hd => by exfalso; rw [← HI.out, ← HL.out, byte_at hlt] at hc; injection hc with hc; subst hc; rw [isD_hi c2] at hd; cases hd))
      by_cases hj0 : j = 0
      · subst hj0
        have HR := Lib.hid (numR_no1 HD.out)
        have hia : i = a := by have := HI.out; omega
        subst hia
        clear hi
        go_wp2
        exact bodyPost_ret (v := .tuple #[.int .i64 ((0 : Nat) : Int), .int .i64 ((i : Nat) : Int), .bool false]) (by simp [results, Tryd.results66, go_sem]) rfl (NumQ.of HR.out)
      have h44 : ((i : Int) == (a : Int)) = false := by simp; omega
      have hal : a < s.size := by omega
      by_cases hz : (s[a].toNat : Int) = 48
      · have hzb : ((s[a].toNat : Int) == 48) = true := by simpa using hz
        by_cases hj1 : 1 < j
        · have HR := Lib.hid (numR_no2 (c := s[a]) HD.out hj1 (by rw [← HL.out]; exact byte_at hal) (by omega))
          have h54 : decide ((a : Int) + 1 < (i : Int)) = true := by simp; omega
          clear hi
          go_wp2
          exact bodyPost_ret (v := .tuple #[.int .i64 ((0 : Nat) : Int), .int .i64 ((a : Nat) : Int), .bool false]) (by simp [results, Tryd.results66, go_sem]) rfl (NumQ.of HR.out)
        have h54 : decide ((a : Int) + 1 < (i : Int)) = false := by simp; omega
        have hz2 : j ≤ 1 ∨ ∀ c, l[a]? = some c → c.toNat ≠ 48 := .inl (by omega)
        have HR := Lib.hid (numR_yes HD.out (by omega) hz2 (fun c hc => by rw [← HI.out, ← HL.out, byte_at hlt] at hc; injection hc with hc; subst hc; exact isD_hi c2))
        rw [← HN.out, ← HI.out] at HR
        clear hi
        go_wp2
        exact bodyPost_ret (v := .tuple #[.int .i64 ((n : Nat) : Int), .int .i64 ((i : Nat) : Int), .bool true]) (by simp [results, Tryd.results66, go_sem]) rfl (NumQ.of HR.out)
      have hzb : ((s[a].toNat : Int) == 48) = false := by simpa using hz
      have hz2 : j ≤ 1 ∨ ∀ c, l[a]? = some c → c.toNat ≠ 48 := .inr (fun c hc => by rw [← HL.out, byte_at hal] at hc; injection hc with hc; subst hc; omega)
      have HR := Lib.hid (numR_yes HD.out (by omega) hz2 (fun c hc => by rw [← HI.out, ← HL.out, byte_at hlt] at hc; injection hc with hc; subst hc; exact isD_hi c2))
      rw [← HN.out, ← HI.out] at HR
      clear hi
      go_wp2
      exact bodyPost_ret (v := .tuple #[.int .i64 ((n : Nat) : Int), .int .i64 ((i : Nat) : Int), .bool true]) (by simp [results, Tryd.results66, go_sem]) rfl (NumQ.of HR.out)
    have c2b : decide ((s[i].toNat : Int) ≤ 57) = true := by simpa using c2
    obtain ⟨R2, hv⟩ := R.out.next (c := s[i]) (by rw [← HI.out, ← HL.out]; exact byte_at hlt) (isD_yes c1 c2) h9
    have HR2 := Lib.hid R2
    have HV := Lib.hid hv
    have hlt2 := R2.lt
    have hsub : IntKind.u8.wrap ((s[i].toNat : Int) - 48) = (s[i].toNat : Int) - 48 := by rw [IntKind.wrap_u8]; omega
    have hmul : IntKind.i64.wrap (10 * (n : Int)) = 10 * (n : Int) := IntWalk.i64_in _ (by omega)
    have hcv : IntKind.i64.wrap ((s[i].toNat : Int) - 48) = (s[i].toNat : Int) - 48 := IntWalk.i64_in _ (by omega)
    have hadd : IntKind.i64.wrap (10 * (n : Int) + ((s[i].toNat : Int) - 48)) = 10 * (n : Int) + ((s[i].toNat : Int) - 48) := IntWalk.i64_in _ (by omega)
    have hwi : IntKind.i64.wrap ((i : Int) + 1) = (i : Int) + 1 := IntWalk.i64_in _ (by omega)
    rw [hv, ← HN.out] at hlt2
    clear hi R2 hv
    go_wp2
    go_round
    case rel => exact ⟨i + 1, j + 1, 10 * n + (s[i].toNat - 48), by have := HI.out; omega, hlt, by congr 1; omega, by go_num, HR2, hlt2, by omega, by unfold Hid; rw [HV.out, ← HN.out]⟩
    case measure => simp [intOf]; omega
end Go.Proofs.YtgmlnbheceeklaaDoor
