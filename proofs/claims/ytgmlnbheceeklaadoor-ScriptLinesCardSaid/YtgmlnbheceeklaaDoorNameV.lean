/- Walks: the program's test whether a string is a name. -/
import Derived.Test.YtgmlnbheceeklaaDoorNameW
set_option linter.unusedVariables false
set_option linter.unusedSimpArgs false
set_option linter.unusedSectionVars false
namespace Go.Proofs.YtgmlnbheceeklaaDoor
open Go.RowKit
variable [Base]



theorem contains_any (ls : List (List UInt8)) (l : List UInt8) (n c : Nat) (a : Option Addr) (w : World) (hx : Hid (ls.length = n)) (hn : n ≤ 9223372036854775807) (F : Hid (RowAt w a ls)) :
    Calls Tryd.prog 48 #[.slice a n c, .string ⟨l.toArray⟩] w fun e w' => e = .returned (.bool (hasB ls l)) ∧ ∃ k, w' = w.drewN k := by
  go_enter Tryd.func48, Tryd.ntmps48
  go_wp2_with (go_at_call 64; refine (index_any ls l n c a _ hx hn F).mono ?_; rintro e w' ⟨r, rfl, hr, k, rfl⟩)
  go_ret
  exact ⟨ret_bool hr.out, _, rfl⟩

/-- The keywords' variable holds the keywords. -/
def KwAt (w : World) : Prop := ∃ a c, w.cell? ⟨2, 0, none⟩ = some (.slice a 11 c) ∧ RowAt w a kws

theorem isname_nil (w : World) :
    Calls Tryd.prog 27 #[.string ⟨#[]⟩] w fun e w' => e = .returned (.bool (nameB [])) ∧ ∃ k, w' = w.drewN k := by
  go_enter Tryd.func27, Tryd.ntmps27
  go_wp2
  go_ret
  exact ⟨ret_bool rfl, 0, rfl⟩

theorem isname_long (c : UInt8) (r : List UInt8) (w : World) (h0 : 16 < (c :: r).length) :
    Calls Tryd.prog 27 #[.string ⟨(c :: r).toArray⟩] w fun e w' => e = .returned (.bool (nameB (c :: r))) ∧ ∃ k, w' = w.drewN k := by
  rw [name_long h0]
  have h : decide ((16 : Int) < (r.length : Int) + 1) = true := by simp at h0 ⊢; omega
  clear h0
  go_enter Tryd.func27, Tryd.ntmps27
  go_wp2
  go_ret
  exact ⟨rfl, 0, rfl⟩

theorem isname_first (c : UInt8) (r : List UInt8) (w : World) (h0 : (c :: r).length ≤ 16) (h1 : isLet (c.toNat : Int) = false) :
    Calls Tryd.prog 27 #[.string ⟨(c :: r).toArray⟩] w fun e w' => e = .returned (.bool (nameB (c :: r))) ∧ ∃ k, w' = w.drewN k := by
  rw [name_first (show firstB (c :: r) = false from h1)]
  have h : decide ((16 : Int) < (r.length : Int) + 1) = false := by simp at h0 ⊢; omega
  clear h0
  have h2 : isLet (((⟨(c :: r).toArray⟩ : ByteArray)[0]'(by rw [size_of]; simp)).toNat : Int) = false := h1
  clear h1
  go_enter Tryd.func27, Tryd.ntmps27
  go_wp2_with (go_at_call 47; refine (letter_any _ _).mono ?_; rintro e w' ⟨rfl, rfl⟩)
  go_ret
  exact ⟨rfl, 0, rfl⟩

theorem isname_in (c : UInt8) (r : List UInt8) (w : World) (h0 : (c :: r).length ≤ 16) (h1 : isLet (c.toNat : Int) = true) (KW : KwAt w) :
    Calls Tryd.prog 27 #[.string ⟨(c :: r).toArray⟩] w fun e w' => e = .returned (.bool (nameB (c :: r))) ∧ ∃ k, w' = w.drewN k := by
  obtain ⟨a, cp, hk, hF⟩ := KW
  have F := Lib.hid hF
  clear hF
  have hl : (⟨(c :: r).toArray⟩ : ByteArray).size = r.length + 1 := by rw [size_of]; simp
  have WE := Lib.hid (fun w => wordEnd_any ⟨(c :: r).toArray⟩ 0 w (by rw [hl]; unfold maxLen; simp at h0; omega) (Nat.zero_le _))
  clear hl
  have h : decide ((16 : Int) < (r.length : Int) + 1) = false := by simp at h0 ⊢; omega
  have h2 : isLet (((⟨(c :: r).toArray⟩ : ByteArray)[0]'(by rw [size_of]; simp)).toNat : Int) = true := h1
  have H0 := Lib.hid h0
  have H1 := Lib.hid h1
  clear h0 h1
  cases e : hasB kws (c :: r)
  · have EE := Lib.hid e
    go_enter Tryd.func27, Tryd.ntmps27
    go_wp2_with (first
      | (go_at_call 47; refine (letter_any _ _).mono ?_; rintro e w' ⟨rfl, rfl⟩)
      | (go_at_call 48; refine (contains_any kws (c :: r) 11 cp a _ rfl (by omega) F).mono ?_; rintro e w' ⟨rfl, k, rfl⟩)
      | (go_at_call 49; refine (WE.out _).mono ?_; rintro e w' ⟨rfl, rfl⟩))
    go_ret
    refine ⟨ret_bool ?_, _, rfl⟩
    rw [name_rest H0.out H1.out EE.out]
    have ht := take_all partB (c :: r)
    have hw : wlen ⟨(c :: r).toArray⟩ 0 = ((c :: r).takeWhile partB).length := rfl
    rw [← hw] at ht
    rw [Bool.eq_iff_iff, ← ht]
    have hs : ((0 + wlen ⟨(c :: r).toArray⟩ 0 : Nat) : Int) = (wlen ⟨(c :: r).toArray⟩ 0 : Int) := by simp
    simp
    omega
  · rw [name_kw e]
    go_enter Tryd.func27, Tryd.ntmps27
    go_wp2_with (first
      | (go_at_call 47; refine (letter_any _ _).mono ?_; rintro e w' ⟨rfl, rfl⟩)
      | (go_at_call 48; refine (contains_any kws (c :: r) 11 cp a _ rfl (by omega) F).mono ?_; rintro e w' ⟨rfl, k, rfl⟩))
    go_ret
    exact ⟨rfl, _, rfl⟩

theorem isname_any (s : ByteArray) (w : World) (KW : KwAt w) :
    Calls Tryd.prog 27 #[.string s] w fun e w' => e = .returned (.bool (nameB s.data.toList)) ∧ ∃ k, w' = w.drewN k := by
  obtain ⟨⟨l⟩⟩ := s
  match l with
  | [] => exact isname_nil w
  | c :: r =>
    show Calls Tryd.prog 27 #[.string ⟨(c :: r).toArray⟩] w fun e w' => e = .returned (.bool (nameB (c :: r))) ∧ ∃ k, w' = w.drewN k
    by_cases h0 : 16 < (c :: r).length
    · exact isname_long c r w h0
    cases h1 : isLet (c.toNat : Int)
    · exact isname_first c r w (by omega) h1
    · exact isname_in c r w (by omega) h1 KW
end Go.Proofs.YtgmlnbheceeklaaDoor
