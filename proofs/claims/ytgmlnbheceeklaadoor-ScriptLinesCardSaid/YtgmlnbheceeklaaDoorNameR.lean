/- Walks: the reference's test whether a string is a name. -/
import Derived.Test.YtgmlnbheceeklaaDoorNameK
import Derived.Test.YtgmlnbheceeklaaDoorLexW
set_option linter.unusedVariables false
set_option linter.unusedSimpArgs false
set_option linter.unusedSectionVars false
namespace Go.Proofs.YtgmlnbheceeklaaDoor
open Go.RowKit
variable [Base]

def strV (l : List UInt8) : Value := .string ⟨l.toArray⟩
theorem keywords_any (w : World) :
    Calls Tryd.prog 46 #[] w fun e w' => e = .returned (.slice (some ⟨w.heap.size, 0, none⟩) 11 11) ∧ w' = w.alloc (.cells (kws.map strV).toArray 9) := by
  go_enter Tryd.func46, Tryd.ntmps46
  go_wp2
  go_ret
  exact ⟨rfl, rfl⟩

theorem strs_new (w : World) (ls : List (List UInt8)) (t : TypeId) : RowAt (w.alloc (.cells (ls.map strV).toArray t)) (some ⟨w.heap.size, 0, none⟩) ls := by
  intro k s h
  refine ⟨w.heap.size, 0, rfl, ?_⟩
  rw [World.cell?_alloc_new]
  simp [h, strV]

def RNamePost (b : Bool) (w : World) (e : Ending) (w' : World) : Prop := e = .returned (.bool b) ∧ Below w.heap.size w w'

theorem letterR (c : Int) (w : World) : Calls Tryd.prog 44 #[.int .u8 c] w fun e w' => e = .returned (.bool (isLetU c)) ∧ w = w' := (rletter_any c w).mono fun _ _ h => ⟨h.1, h.2.symm⟩
theorem digitR (c : Int) (w : World) : Calls Tryd.prog 45 #[.int .u8 c] w fun e w' => e = .returned (.bool (isDig c)) ∧ w = w' := (rdigit_any c w).mono fun _ _ h => ⟨h.1, h.2.symm⟩
theorem isPart_of (c : Int) (h : isLetU c = false) : isPart c = isDig c := by
  unfold isLetU at h; simp only [Bool.or_eq_false_iff] at h; unfold isPart; rw [h.1, h.2]; simp
theorem isPart_of' (c : Int) (h : isLetU c = true) : isPart c = true := by
  unfold isLetU at h; unfold isPart; cases h1 : isLet c <;> simp_all

theorem rname_in (s : ByteArray) (w : World) (h0 : 0 < s.size) (h1 : s.size ≤ 16) (h2 : isLetU (s[0].toNat : Int) = true) (h3 : ((s[0].toNat : Int) == 95) = false) (hf : Hid (firstB s.data.toList = true)) :
    Calls Tryd.prog 24 #[.string s] w (RNamePost (nameB s.data.toList) w) := by
  have g1 : decide ((16 : Int) < (s.size : Int)) = false := by simp; omega
  have g0 : ((s.size : Int) == 0) = false := by rw [beq_eq_false_iff_ne]; omega
  go_enter Tryd.func24, Tryd.ntmps24
  go_wp2_with (go_at_call 44; refine (letterR _ _).mono ?_; rintro e w' ⟨rfl, rfl⟩)
  go_loop [3] (fun v => ∃ k : Nat, k ≤ s.size ∧ v = .int .i64 k ∧ Hid (s.data.toList.all partB = (s.data.toList.drop k).all partB)) (fun v => s.size - (intOf v).toNat)
  case atStart => exact ⟨0, Nat.zero_le _, rfl, by unfold Hid; simp⟩
  case round =>
    obtain ⟨k, hk, rfl, hs⟩ := hrel
    by_cases hlt : k < s.size
    · have st := Lib.hid (all_drop s.data.toList k s[k] (by simp [hlt]; rfl) partB)
      cases e1 : isLetU (s[k].toNat : Int)
      · have q := Lib.hid (isPart_of _ e1)
        cases e2 : isDig (s[k].toNat : Int)
        · have E2 := Lib.hid e2
          go_wp2_with (first
            | (go_at_call 44; refine (letterR _ _).mono ?_; rintro e w' ⟨rfl, rfl⟩)
            | (go_at_call 45; refine (digitR _ _).mono ?_; rintro e w' ⟨rfl, rfl⟩))
          go_ret
          refine ⟨?_, Below.refl _ _⟩
          rw [name_part (by rw [hs.out, st.out]; unfold partB; rw [q.out, E2.out]; rfl)]
          rfl
        · have E2 := Lib.hid e2
          go_wp2_with (first
            | (go_at_call 44; refine (letterR _ _).mono ?_; rintro e w' ⟨rfl, rfl⟩)
            | (go_at_call 45; refine (digitR _ _).mono ?_; rintro e w' ⟨rfl, rfl⟩))
          go_round
          case rel => exact ⟨k + 1, by omega, by go_num, by unfold Hid; rw [hs.out, st.out]; unfold partB; rw [q.out, E2.out]; rfl⟩
          case measure => simp [intOf]; omega
      · have q := Lib.hid (isPart_of' _ e1)
        go_wp2_with (first
          | (go_at_call 44; refine (letterR _ _).mono ?_; rintro e w' ⟨rfl, rfl⟩)
          | (go_at_call 45; refine (digitR _ _).mono ?_; rintro e w' ⟨rfl, rfl⟩))
        go_round
        case rel => exact ⟨k + 1, by omega, by go_num, by unfold Hid; rw [hs.out, st.out]; unfold partB; rw [q.out]; rfl⟩
        case measure => simp [intOf]; omega
    · have hall : Hid (s.data.toList.all partB = true) := by unfold Hid; rw [hs.out, List.drop_of_length_le (by simp; omega)]; rfl
      clear hs
      have hr : Hid (hasB kws s.data.toList = false → nameB s.data.toList = true) := by
        intro h; rw [name_rest (by simp; omega) hf.out h]; exact hall.out
      have hS := Lib.hid (strs_new w kws 9)
      go_wp2_with (go_at_call 46; refine (keywords_any _).mono ?_; rintro e w2 ⟨rfl, hw'⟩; have hW := Lib.hid hw'; clear hw')
      go_loop [5] (fun v => ∃ k : Nat, k ≤ 11 ∧ v = .int .i64 k ∧ Hid (hasB kws s.data.toList = hasB (kws.drop k) s.data.toList)) (fun v => 11 - (intOf v).toNat)
      case atStart => exact ⟨0, Nat.zero_le _, rfl, by unfold Hid; simp⟩
      case round =>
        obtain ⟨j, hj, rfl, hk2⟩ := hrel
        by_cases hlt2 : j < 11
        · obtain ⟨t, ht⟩ : ∃ t, kws[j]? = some t := ⟨_, List.getElem?_eq_getElem (show j < kws.length from hlt2)⟩
          obtain ⟨b, off, hb, g⟩ := hS.out j t ht
          simp only [Option.some.injEq, Addr.mk.injEq] at hb
          obtain ⟨rfl, rfl, _⟩ := hb
          rw [← hW.out, Nat.zero_add] at g
          have st2 := Lib.hid (contains_step kws j t s.data.toList ht)
          clear ht
          cases e : t == s.toList
          · have E := Lib.hid e
            go_wp2
            go_round
            case rel => exact ⟨j + 1, by omega, by go_num, by have h := E.out; rw [ByteArray.toList_eq, BEq.comm] at h; unfold Hid; rw [hk2.out, st2.out, h]; rfl⟩
            case measure => simp [intOf]; omega
          · have E := Lib.hid e
            go_wp2
            go_ret
            refine ⟨?_, ?_⟩
            · have h := E.out
              rw [ByteArray.toList_eq, BEq.comm] at h
              rw [name_kw (by rw [hk2.out, st2.out, h]; rfl)]
              rfl
            · rw [hW.out]; exact (Below.refl _ _).alloc (Nat.le_refl _) _
        · go_wp2
          go_ret
          refine ⟨?_, ?_⟩
          · rw [hr.out (by rw [hk2.out, List.drop_of_length_le (by show 11 ≤ j; omega)]; rfl)]; rfl
          · rw [hW.out]; exact (Below.refl _ _).alloc (Nat.le_refl _) _

theorem rname_out (s : ByteArray) (w : World) (h : s.size = 0 ∨ 16 < s.size) (hv : nameB s.data.toList = false) :
    Calls Tryd.prog 24 #[.string s] w (RNamePost (nameB s.data.toList) w) := by
  rw [hv]
  clear hv
  rcases h with h | h
  · have g0 : ((s.size : Int) == 0) = true := by rw [beq_iff_eq]; omega
    clear h
    go_enter Tryd.func24, Tryd.ntmps24
    go_wp2
    go_ret
    exact ⟨rfl, Below.refl _ _⟩
  · have g0 : ((s.size : Int) == 0) = false := by rw [beq_eq_false_iff_ne]; omega
    have g1 : decide ((16 : Int) < (s.size : Int)) = true := by simp; omega
    clear h
    go_enter Tryd.func24, Tryd.ntmps24
    go_wp2
    go_ret
    exact ⟨rfl, Below.refl _ _⟩

theorem rname_first (s : ByteArray) (w : World) (h0 : 0 < s.size) (h1 : s.size ≤ 16) (h2 : isLet (s[0].toNat : Int) = false) (hv : nameB s.data.toList = false) :
    Calls Tryd.prog 24 #[.string s] w (RNamePost (nameB s.data.toList) w) := by
  rw [hv]
  clear hv
  have g1 : decide ((16 : Int) < (s.size : Int)) = false := by simp; omega
  have g0 : ((s.size : Int) == 0) = false := by rw [beq_eq_false_iff_ne]; omega
  cases e : isLetU (s[0].toNat : Int)
  · clear h2
    go_enter Tryd.func24, Tryd.ntmps24
    go_wp2_with (go_at_call 44; refine (letterR _ _).mono ?_; rintro e w' ⟨rfl, rfl⟩)
    go_ret
    exact ⟨rfl, Below.refl _ _⟩
  · have h3 : ((s[0].toNat : Int) == 95) = true := by unfold isLetU at e; rw [h2] at e; simpa using e
    clear h2
    go_enter Tryd.func24, Tryd.ntmps24
    go_wp2_with (go_at_call 44; refine (letterR _ _).mono ?_; rintro e w' ⟨rfl, rfl⟩)
    go_ret
    exact ⟨rfl, Below.refl _ _⟩

theorem first_of (s : ByteArray) (h0 : 0 < s.size) : firstB s.data.toList = isLet (s[0].toNat : Int) := by
  have h := drop_cons s 0 h0
  rw [List.drop_zero] at h
  rw [h]
  rfl

theorem rname_any (s : ByteArray) (w : World) :
    Calls Tryd.prog 24 #[.string s] w (RNamePost (nameB s.data.toList) w) := by
  by_cases h0 : s.size = 0
  · exact rname_out s w (.inl h0) (by rw [List.length_eq_zero_iff.1 (show s.data.toList.length = 0 by simpa using h0)]; rfl)
  by_cases h1 : 16 < s.size
  · exact rname_out s w (.inr h1) (name_long (by simpa using h1))
  have h0' : 0 < s.size := by omega
  have hf := first_of s h0'
  cases h2 : isLet (s[0].toNat : Int)
  · exact rname_first s w h0' (by omega) h2 (name_first (by rw [hf, h2]))
  · refine rname_in s w h0' (by omega) (by unfold isLetU; rw [h2]; rfl) ?_ (by unfold Hid; rw [hf, h2])
    rw [beq_eq_false_iff_ne]
    intro h
    rw [h] at h2
    exact absurd h2 (by decide)
end Go.Proofs.YtgmlnbheceeklaaDoor
