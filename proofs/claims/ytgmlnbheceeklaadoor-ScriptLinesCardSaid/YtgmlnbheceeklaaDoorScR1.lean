/- Walks: the reference's small functions for operations. Printed by wip/gen_scr1.py. -/
import Derived.Test.YtgmlnbheceeklaaDoorScW4
import Derived.Test.YtgmlnbheceeklaaDoorNumW
import Derived.Test.YtgmlnbheceeklaaDoorNameR
set_option linter.unusedVariables false
set_option linter.unusedSimpArgs false
set_option linter.unusedSectionVars false
namespace Go.Proofs.YtgmlnbheceeklaaDoor
open Go.RowKit
variable [Base]

def placeI (ls : List Str) (l : Str) : Int := match posS 0 ls l with | some k => (k : Int) | none => -1
theorem place_any (ls : List Str) (l : Str) (n c : Nat) (a : Option Addr) (w : World) (hx : Hid (ls.length = n)) (hn : n ≤ 1000000) (F : Hid (RowAt w a ls)) :
    Calls Tryd.prog 51 #[.slice a n c, qs l] w (fun e w' => e = .returned (.int .i64 (placeI ls l)) ∧ w' = w) := by
  go_enter Tryd.func51, Tryd.ntmps51
  go_wp2
  go_loop [5] (fun v => ∃ k : Nat, k ≤ n ∧ v = .int .i64 k ∧ Hid (posS 0 ls l = posS k (ls.drop k) l)) (fun v => n - (intOf v).toNat)
  case atStart => exact ⟨0, Nat.zero_le _, rfl, rfl⟩
  case round =>
    obtain ⟨k, hk, rfl, hs⟩ := hrel
    by_cases hlt : k < n
    · obtain ⟨t, ht⟩ : ∃ t, ls[k]? = some t := ⟨ls[k]'(by have := hx.out; omega), by simp⟩
      obtain ⟨b, off, rfl, g⟩ := F.out k t ht
      have st := Lib.hid (posS_step (s := l) ht k)
      clear ht
      cases e : t == l
      · have hne : Hid (¬ t = l) := by unfold Hid; intro h; rw [h] at e; simp at e
        go_wp2
        go_round
        case rel => exact ⟨k + 1, by omega, by go_num, by unfold Hid; rw [hs.out, st.out, if_neg hne.out]⟩
        case measure => simp [intOf]; omega
      · have heq : Hid (t = l) := by unfold Hid; simpa using e
        have HR := Lib.hid (show posS 0 ls l = some k by rw [hs.out, st.out, if_pos heq.out])
        go_wp2
        go_ret
        exact ⟨by unfold placeI; rw [HR.out]; rfl, rfl⟩
    · have HR := Lib.hid (show posS 0 ls l = none by rw [hs.out, List.drop_of_length_le (by have := hx.out; omega)]; rfl)
      go_wp2
      go_ret
      exact ⟨by unfold placeI; rw [HR.out]; rfl, rfl⟩
/-! The first word. -/
theorem wordS_at : ∀ (l : Str) (k : Nat), k ≤ l.length → (32 : UInt8) ∉ l.take k → wordS l = (l.take k ++ (wordS (l.drop k)).1, (wordS (l.drop k)).2)
  | l, 0, _, _ => by simp
  | [], k + 1, h, _ => by simp at h
  | c :: r, k + 1, h, hn => by
    have hc : c ≠ 32 := fun e => hn (by simp [e])
    rw [wordS, if_neg hc, wordS_at r k (by simpa using h) (fun m => hn (by simp [m]))]
    simp
theorem wordS_hit {l : Str} {k : Nat} (h : l[k]? = some 32) (hn : (32 : UInt8) ∉ l.take k) : wordS l = (l.take k, l.drop (k + 1)) := by
  obtain ⟨h1, h2⟩ := List.getElem?_eq_some_iff.1 h
  rw [wordS_at l k (by omega) hn, List.drop_eq_getElem_cons h1, h2]
  simp [wordS]
theorem take_no {l : Str} {k : Nat} {c d : UInt8} (h : l[k]? = some d) (hd : d ≠ c) (hn : c ∉ l.take k) : c ∉ l.take (k + 1) := by
  rw [List.take_add_one, h]
  simp only [Option.toList_some, List.mem_append, List.mem_singleton]
  rintro (m | m)
  · exact hn m
  · exact hd m.symm
def WordQ (l : Str) (w : World) (e : Ending) (w' : World) : Prop := e = .returned (.tuple #[qs (wordS l).1, qs (wordS l).2]) ∧ ∃ n, w' = w.drewN n
theorem word_any (s : ByteArray) (hs : s.size ≤ 281474976710656) (w : World) : Calls Tryd.prog 50 #[.string s] w (WordQ s.data.toList w) := by
  go_enter Tryd.func50, Tryd.ntmps50
  go_wp2
  go_loop [4] (fun v => ∃ k : Nat, k ≤ s.size ∧ v = .int .i64 k ∧ Hid ((32 : UInt8) ∉ s.data.toList.take k)) (fun v => s.size - (intOf v).toNat)
  case atStart => exact ⟨0, Nat.zero_le _, rfl, by unfold Hid; simp⟩
  case round =>
    obtain ⟨k, hk, rfl, hn⟩ := hrel
    by_cases hlt : k < s.size
    · have HB := Lib.hid (byte_at hlt)
      have hwi : IntKind.i64.wrap ((k : Int) + 1) = (k : Int) + 1 := IntWalk.i64_in _ (by omega)
      by_cases e1 : (s[k].toNat : Int) = 32
      · have e2 : ((s[k].toNat : Int) == 32) = true := by simpa using e1
        have HE := Lib.hid (show s[k] = 32 from UInt8.toNat_inj.1 (by have : s[k].toNat = 32 := by omega
                                                                      exact this))
        have HW := Lib.hid (show wordS s.data.toList = (s.data.toList.take k, s.data.toList.drop (k + 1)) from wordS_hit (by rw [← HE.out]; exact HB.out) hn.out)
        have hi1 : (k : Int) ≤ (s.size : Int) := by omega
        have hi2 : (k : Int) + 1 ≤ (s.size : Int) := by omega
        have hi3 : ((k : Int) + 1).toNat = k + 1 := by omega
        have hi4 : (0 : Int) ≤ (k : Int) + 1 := by omega
        clear e1
        go_wp2_with fail
        go_quiet (fail)
        go_wp2
        refine bodyPost_ret (v := .tuple #[.string (s.extract 0 k), .string (s.extract (k + 1) s.size)]) (by simp [results, Tryd.results50, go_sem]) rfl ⟨?_, _, rfl⟩
        rw [HW.out, str_take, str_drop]
      · have e2 : ((s[k].toNat : Int) == 32) = false := by simpa using e1
        have HE := Lib.hid (show s[k] ≠ 32 from fun e => e1 (by rw [e]; rfl))
        go_wp2
        go_round
        case rel => exact ⟨k + 1, by omega, by go_num, Lib.hid (take_no HB.out HE.out hn.out)⟩
        case measure => simp [intOf]; omega
    · have HW := Lib.hid (show wordS s.data.toList = (s.data.toList, []) from wordS_all _ (by
        have := hn.out
        rwa [List.take_of_length_le (by simp; omega)] at this))
      go_wp2
      refine bodyPost_ret (v := .tuple #[.string s, .string ⟨#[]⟩]) (by simp [results, Tryd.results50, go_sem]) rfl ⟨?_, 0, rfl⟩
      rw [HW.out]
/-! Texts. -/
theorem rtext_any (s : ByteArray) (hs : s.size ≤ 9223372036854775807) (w : World) : Calls Tryd.prog 25 #[.string s] w (fun e w' => e = .returned (.bool (textB s.data.toList)) ∧ w' = w) := by
  have hud : ∀ b : Bool, (undef = Value.bool b) = False := fun b => by simp [undef]
  by_cases h0 : s.size = 0
  · obtain ⟨⟨l⟩⟩ := s
    have hl : l = [] := List.length_eq_zero_iff.1 (by simpa [ByteArray.size] using h0)
    subst hl
    rw [show textB (ByteArray.mk ⟨[]⟩).data.toList = false from text_nil]
    clear h0
    go_enter Tryd.func25, Tryd.ntmps25
    go_wp2
    go_ret
    exact ⟨rfl, rfl⟩
  have h0 : 0 < s.size := by omega
  have n0 : ((s.size : Int) == 0) = false := by rw [beq_eq_false_iff_ne]; omega
  obtain ⟨n1, n2, n3⟩ := ne_empty h0
  have hw : IntKind.i64.wrap ((s.size : Int) - 1) = (s.size : Int) - 1 := IntWalk.i64_in _ (by omega)
  have hp1 : 0 ≤ (s.size : Int) - 1 := by omega
  have hp2 : (s.size : Int) - 1 < s.size := by omega
  have hp3 : ((s.size : Int) - 1).toNat = s.size - 1 := by omega
  have hp4 : s.size - 1 < s.size := by omega
  have hp5 : s.size - 1 < s.data.size := hp4
  have hp6 : 0 < s.data.size := h0
  obtain ⟨d1, h1⟩ : ∃ d, decide (s.size ≤ 4096) = d := ⟨_, rfl⟩
  obtain ⟨d2, h2⟩ : ∃ d, ((s[0].toNat : Int) != 32) = d := ⟨_, rfl⟩
  obtain ⟨d3, h3⟩ : ∃ d, ((s[s.size - 1].toNat : Int) != 32) = d := ⟨_, rfl⟩
  have HT := Lib.hid (text_at h0 d1 h1 d2 h2 d3 h3 _ rfl)
  have h1' : decide ((4096 : Int) < (s.size : Int)) = !d1 := by rw [← h1, Bool.eq_iff_iff]; simp; omega
  have h2' : ((s[0].toNat : Int) == 32) = !d2 := by rw [← h2]; simp [bne]
  have h3' : ((s[s.size - 1].toNat : Int) == 32) = !d3 := by rw [← h3]; simp [bne]
  clear h1
  cases d1
  · go_enter Tryd.func25, Tryd.ntmps25
    go_wp2_with fail
    go_ret
    exact ⟨by rw [HT.out]; rfl, rfl⟩
  cases d2
  · go_enter Tryd.func25, Tryd.ntmps25
    go_wp2_with fail
    go_ret
    exact ⟨by rw [HT.out]; rfl, rfl⟩
  cases d3
  · go_enter Tryd.func25, Tryd.ntmps25
    go_wp2_with fail
    go_ret
    exact ⟨by rw [HT.out]; rfl, rfl⟩
  have HT2 := Lib.hid (show textB s.data.toList = decide ((10 : UInt8) ∉ s.data.toList) by
    rw [HT.out]
    simp only [Bool.true_and]
    rw [Bool.eq_iff_iff]
    simp only [decide_eq_true_eq]
    exact (idx_mem _ _).symm)
  clear HT
  go_enter Tryd.func25, Tryd.ntmps25
  go_wp2_with fail
  go_loop [3] (fun v => ∃ k : Nat, k ≤ s.size ∧ v = .int .i64 k ∧ Hid ((10 : UInt8) ∉ s.data.toList.take k)) (fun v => s.size - (intOf v).toNat)
  case atStart => exact ⟨0, Nat.zero_le _, rfl, by unfold Hid; simp⟩
  case round =>
    obtain ⟨k, hk, rfl, hn⟩ := hrel
    by_cases hlt : k < s.size
    · have HB := Lib.hid (byte_at hlt)
      by_cases e1 : (s[k].toNat : Int) = 10
      · have e2 : ((s[k].toNat : Int) == 10) = true := by simpa using e1
        have HE := Lib.hid (show s[k] = 10 from UInt8.toNat_inj.1 (by have : s[k].toNat = 10 := by omega
                                                                      exact this))
        have HR := Lib.hid (show textB s.data.toList = false by
          rw [HT2.out]
          simp only [decide_eq_false_iff_not, Classical.not_not]
          rw [← HE.out]
          exact List.mem_of_getElem? HB.out)
        clear e1
        go_wp2
        go_ret
        exact ⟨by rw [HR.out]; rfl, rfl⟩
      · have e2 : ((s[k].toNat : Int) == 10) = false := by simpa using e1
        have HE := Lib.hid (show s[k] ≠ 10 from fun e => e1 (by rw [e]; rfl))
        go_wp2
        go_round
        case rel => exact ⟨k + 1, by omega, by go_num, Lib.hid (take_no HB.out HE.out hn.out)⟩
        case measure => simp [intOf]; omega
    · have HR := Lib.hid (show textB s.data.toList = true by
        rw [HT2.out]
        simp only [decide_eq_true_eq]
        have := hn.out
        rwa [List.take_of_length_le (by simp; omega)] at this)
      go_wp2
      go_ret
      exact ⟨by rw [HR.out]; rfl, rfl⟩
/-! Numbers. -/
theorem rnumber_any (l : Str) (hl : l.length ≤ 281474976710656) (w : World) : Calls Tryd.prog 52 #[qs l] w (fun e w' => e = .returned (.int .i64 (numO l)) ∧ w' = w) := by
  have hud : ∀ b : Bool, (undef = Value.bool b) = False := fun b => by simp [undef]
  have k := number_any ⟨l.toArray⟩ 0 (Nat.zero_le _) (by rw [size_str]; exact hl) w
  rw [show (⟨l.toArray⟩ : ByteArray).data.toList = l from rfl] at k
  have NB := Lib.hid k
  clear k
  cases h : numS l with
  | none =>
    have HR := Lib.hid (show numR l 0 = (0, 0, false) by simp [numR, h])
    have HO := Lib.hid (show numO l = -1 by unfold numO; rw [h])
    clear h
    go_enter Tryd.func52, Tryd.ntmps52
    go_wp2_with (go_at_call 66; refine (NB.out).mono ?_; unfold NumQ; rw [HR.out]; rintro e w' ⟨rfl, rfl⟩)
    go_ret
    exact ⟨by rw [HO.out]; rfl, rfl⟩
  | some q =>
    obtain ⟨n, k⟩ := q
    have HR := Lib.hid (show numR l 0 = (n, k, true) by simp [numR, h])
    by_cases hk : k = l.length
    · have HO := Lib.hid (show numO l = (n : Int) by unfold numO; rw [h]; exact if_pos hk)
      have e2 : ((k : Int) != (l.length : Int)) = false := by simp [bne]; omega
      clear h
      go_enter Tryd.func52, Tryd.ntmps52
      go_wp2_with (go_at_call 66; refine (NB.out).mono ?_; unfold NumQ; rw [HR.out]; rintro e w' ⟨rfl, rfl⟩)
      go_ret
      exact ⟨by rw [HO.out]; rfl, rfl⟩
    · have HO := Lib.hid (show numO l = -1 by unfold numO; rw [h]; exact if_neg hk)
      have e2 : ((k : Int) != (l.length : Int)) = true := by simp [bne]; omega
      clear h
      go_enter Tryd.func52, Tryd.ntmps52
      go_wp2_with (go_at_call 66; refine (NB.out).mono ?_; unfold NumQ; rw [HR.out]; rintro e w' ⟨rfl, rfl⟩)
      go_ret
      exact ⟨by rw [HO.out]; rfl, rfl⟩
/-! Which fields a kind uses. -/
set_option maxHeartbeats 1000000 in
theorem only_load (k : Int) (id text : Str) (ana node n : Int) (w : World) :
    Calls Tryd.prog 26 #[opV ⟨k, id, text, ana, node, n⟩, .bool true, .bool true, .bool false, .bool false] w (fun e w' => e = .returned (.bool (onlyB ⟨k, id, text, ana, node, n⟩ true true false false)) ∧ Below w.heap.size w w') := by
  have hud : ∀ b : Bool, (undef = Value.bool b) = False := fun b => by simp [undef]
  rw [show onlyB ⟨k, id, text, ana, node, n⟩ true true false false = (decide (ana = 0) && decide (node = 0) && decide (n = 0)) by simp [onlyB, Bool.and_assoc]]
  by_cases zana : ana = 0
  rotate_left
  · have e1 : (ana == 0) = false := by simpa using zana
    have e3 : (0 == ana) = false := by rw [beq_eq_false_iff_ne]; exact fun h => zana h.symm
    have e2 : decide (ana = 0) = false := by simpa using zana
    rw [e2]
    clear zana e2
    go_enter Tryd.func26, Tryd.ntmps26
    go_wp2_with fail
    go_ret
    exact ⟨by simp, (Below.refl _ _).alloc (Nat.le_refl _) _⟩
  subst zana
  by_cases znode : node = 0
  rotate_left
  · have e1 : (node == 0) = false := by simpa using znode
    have e3 : (0 == node) = false := by rw [beq_eq_false_iff_ne]; exact fun h => znode h.symm
    have e2 : decide (node = 0) = false := by simpa using znode
    rw [e2]
    clear znode e2
    go_enter Tryd.func26, Tryd.ntmps26
    go_wp2_with fail
    go_ret
    exact ⟨by simp, (Below.refl _ _).alloc (Nat.le_refl _) _⟩
  subst znode
  by_cases zn : n = 0
  rotate_left
  · have e1 : (n == 0) = false := by simpa using zn
    have e3 : (0 == n) = false := by rw [beq_eq_false_iff_ne]; exact fun h => zn h.symm
    have e2 : decide (n = 0) = false := by simpa using zn
    rw [e2]
    clear zn e2
    go_enter Tryd.func26, Tryd.ntmps26
    go_wp2_with fail
    go_ret
    exact ⟨by simp, (Below.refl _ _).alloc (Nat.le_refl _) _⟩
  subst zn
  go_enter Tryd.func26, Tryd.ntmps26
  go_wp2_with fail
  go_ret
  exact ⟨by simp, (Below.refl _ _).alloc (Nat.le_refl _) _⟩
set_option maxHeartbeats 1000000 in
theorem only_id (k : Int) (id text : Str) (ana node n : Int) (w : World) :
    Calls Tryd.prog 26 #[opV ⟨k, id, text, ana, node, n⟩, .bool true, .bool false, .bool false, .bool false] w (fun e w' => e = .returned (.bool (onlyB ⟨k, id, text, ana, node, n⟩ true false false false)) ∧ Below w.heap.size w w') := by
  have hud : ∀ b : Bool, (undef = Value.bool b) = False := fun b => by simp [undef]
  rw [show onlyB ⟨k, id, text, ana, node, n⟩ true false false false = (decide (text = []) && decide (ana = 0) && decide (node = 0) && decide (n = 0)) by simp [onlyB, Bool.and_assoc]]
  by_cases ztext : text = []
  rotate_left
  · have e1 : (text == []) = false := by simpa using ztext
    have e3 : ([] == text) = false := by rw [beq_eq_false_iff_ne]; exact fun h => ztext h.symm
    have e2 : decide (text = []) = false := by simpa using ztext
    rw [e2]
    clear ztext e2
    go_enter Tryd.func26, Tryd.ntmps26
    go_wp2_with fail
    go_ret
    exact ⟨by simp, (Below.refl _ _).alloc (Nat.le_refl _) _⟩
  subst ztext
  by_cases zana : ana = 0
  rotate_left
  · have e1 : (ana == 0) = false := by simpa using zana
    have e3 : (0 == ana) = false := by rw [beq_eq_false_iff_ne]; exact fun h => zana h.symm
    have e2 : decide (ana = 0) = false := by simpa using zana
    rw [e2]
    clear zana e2
    go_enter Tryd.func26, Tryd.ntmps26
    go_wp2_with fail
    go_ret
    exact ⟨by simp, (Below.refl _ _).alloc (Nat.le_refl _) _⟩
  subst zana
  by_cases znode : node = 0
  rotate_left
  · have e1 : (node == 0) = false := by simpa using znode
    have e3 : (0 == node) = false := by rw [beq_eq_false_iff_ne]; exact fun h => znode h.symm
    have e2 : decide (node = 0) = false := by simpa using znode
    rw [e2]
    clear znode e2
    go_enter Tryd.func26, Tryd.ntmps26
    go_wp2_with fail
    go_ret
    exact ⟨by simp, (Below.refl _ _).alloc (Nat.le_refl _) _⟩
  subst znode
  by_cases zn : n = 0
  rotate_left
  · have e1 : (n == 0) = false := by simpa using zn
    have e3 : (0 == n) = false := by rw [beq_eq_false_iff_ne]; exact fun h => zn h.symm
    have e2 : decide (n = 0) = false := by simpa using zn
    rw [e2]
    clear zn e2
    go_enter Tryd.func26, Tryd.ntmps26
    go_wp2_with fail
    go_ret
    exact ⟨by simp, (Below.refl _ _).alloc (Nat.le_refl _) _⟩
  subst zn
  go_enter Tryd.func26, Tryd.ntmps26
  go_wp2_with fail
  go_ret
  exact ⟨by simp, (Below.refl _ _).alloc (Nat.le_refl _) _⟩
set_option maxHeartbeats 1000000 in
theorem only_n (k : Int) (id text : Str) (ana node n : Int) (w : World) :
    Calls Tryd.prog 26 #[opV ⟨k, id, text, ana, node, n⟩, .bool false, .bool false, .bool false, .bool true] w (fun e w' => e = .returned (.bool (onlyB ⟨k, id, text, ana, node, n⟩ false false false true)) ∧ Below w.heap.size w w') := by
  have hud : ∀ b : Bool, (undef = Value.bool b) = False := fun b => by simp [undef]
  rw [show onlyB ⟨k, id, text, ana, node, n⟩ false false false true = (decide (id = []) && decide (text = []) && decide (ana = 0) && decide (node = 0)) by simp [onlyB, Bool.and_assoc]]
  by_cases zid : id = []
  rotate_left
  · have e1 : (id == []) = false := by simpa using zid
    have e3 : ([] == id) = false := by rw [beq_eq_false_iff_ne]; exact fun h => zid h.symm
    have e2 : decide (id = []) = false := by simpa using zid
    rw [e2]
    clear zid e2
    go_enter Tryd.func26, Tryd.ntmps26
    go_wp2_with fail
    go_ret
    exact ⟨by simp, (Below.refl _ _).alloc (Nat.le_refl _) _⟩
  subst zid
  by_cases ztext : text = []
  rotate_left
  · have e1 : (text == []) = false := by simpa using ztext
    have e3 : ([] == text) = false := by rw [beq_eq_false_iff_ne]; exact fun h => ztext h.symm
    have e2 : decide (text = []) = false := by simpa using ztext
    rw [e2]
    clear ztext e2
    go_enter Tryd.func26, Tryd.ntmps26
    go_wp2_with fail
    go_ret
    exact ⟨by simp, (Below.refl _ _).alloc (Nat.le_refl _) _⟩
  subst ztext
  by_cases zana : ana = 0
  rotate_left
  · have e1 : (ana == 0) = false := by simpa using zana
    have e3 : (0 == ana) = false := by rw [beq_eq_false_iff_ne]; exact fun h => zana h.symm
    have e2 : decide (ana = 0) = false := by simpa using zana
    rw [e2]
    clear zana e2
    go_enter Tryd.func26, Tryd.ntmps26
    go_wp2_with fail
    go_ret
    exact ⟨by simp, (Below.refl _ _).alloc (Nat.le_refl _) _⟩
  subst zana
  by_cases znode : node = 0
  rotate_left
  · have e1 : (node == 0) = false := by simpa using znode
    have e3 : (0 == node) = false := by rw [beq_eq_false_iff_ne]; exact fun h => znode h.symm
    have e2 : decide (node = 0) = false := by simpa using znode
    rw [e2]
    clear znode e2
    go_enter Tryd.func26, Tryd.ntmps26
    go_wp2_with fail
    go_ret
    exact ⟨by simp, (Below.refl _ _).alloc (Nat.le_refl _) _⟩
  subst znode
  go_enter Tryd.func26, Tryd.ntmps26
  go_wp2_with fail
  go_ret
  exact ⟨by simp, (Below.refl _ _).alloc (Nat.le_refl _) _⟩
set_option maxHeartbeats 1000000 in
theorem only_none (k : Int) (id text : Str) (ana node n : Int) (w : World) :
    Calls Tryd.prog 26 #[opV ⟨k, id, text, ana, node, n⟩, .bool false, .bool false, .bool false, .bool false] w (fun e w' => e = .returned (.bool (onlyB ⟨k, id, text, ana, node, n⟩ false false false false)) ∧ Below w.heap.size w w') := by
  have hud : ∀ b : Bool, (undef = Value.bool b) = False := fun b => by simp [undef]
  rw [show onlyB ⟨k, id, text, ana, node, n⟩ false false false false = (decide (id = []) && decide (text = []) && decide (ana = 0) && decide (node = 0) && decide (n = 0)) by simp [onlyB, Bool.and_assoc]]
  by_cases zid : id = []
  rotate_left
  · have e1 : (id == []) = false := by simpa using zid
    have e3 : ([] == id) = false := by rw [beq_eq_false_iff_ne]; exact fun h => zid h.symm
    have e2 : decide (id = []) = false := by simpa using zid
    rw [e2]
    clear zid e2
    go_enter Tryd.func26, Tryd.ntmps26
    go_wp2_with fail
    go_ret
    exact ⟨by simp, (Below.refl _ _).alloc (Nat.le_refl _) _⟩
  subst zid
  by_cases ztext : text = []
  rotate_left
  · have e1 : (text == []) = false := by simpa using ztext
    have e3 : ([] == text) = false := by rw [beq_eq_false_iff_ne]; exact fun h => ztext h.symm
    have e2 : decide (text = []) = false := by simpa using ztext
    rw [e2]
    clear ztext e2
    go_enter Tryd.func26, Tryd.ntmps26
    go_wp2_with fail
    go_ret
    exact ⟨by simp, (Below.refl _ _).alloc (Nat.le_refl _) _⟩
  subst ztext
  by_cases zana : ana = 0
  rotate_left
  · have e1 : (ana == 0) = false := by simpa using zana
    have e3 : (0 == ana) = false := by rw [beq_eq_false_iff_ne]; exact fun h => zana h.symm
    have e2 : decide (ana = 0) = false := by simpa using zana
    rw [e2]
    clear zana e2
    go_enter Tryd.func26, Tryd.ntmps26
    go_wp2_with fail
    go_ret
    exact ⟨by simp, (Below.refl _ _).alloc (Nat.le_refl _) _⟩
  subst zana
  by_cases znode : node = 0
  rotate_left
  · have e1 : (node == 0) = false := by simpa using znode
    have e3 : (0 == node) = false := by rw [beq_eq_false_iff_ne]; exact fun h => znode h.symm
    have e2 : decide (node = 0) = false := by simpa using znode
    rw [e2]
    clear znode e2
    go_enter Tryd.func26, Tryd.ntmps26
    go_wp2_with fail
    go_ret
    exact ⟨by simp, (Below.refl _ _).alloc (Nat.le_refl _) _⟩
  subst znode
  by_cases zn : n = 0
  rotate_left
  · have e1 : (n == 0) = false := by simpa using zn
    have e3 : (0 == n) = false := by rw [beq_eq_false_iff_ne]; exact fun h => zn h.symm
    have e2 : decide (n = 0) = false := by simpa using zn
    rw [e2]
    clear zn e2
    go_enter Tryd.func26, Tryd.ntmps26
    go_wp2_with fail
    go_ret
    exact ⟨by simp, (Below.refl _ _).alloc (Nat.le_refl _) _⟩
  subst zn
  go_enter Tryd.func26, Tryd.ntmps26
  go_wp2_with fail
  go_ret
  exact ⟨by simp, (Below.refl _ _).alloc (Nat.le_refl _) _⟩
end Go.Proofs.YtgmlnbheceeklaaDoor
