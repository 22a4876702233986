/- A row of strings in memory. -/
import Derived.Test.YtpnfdmajpkpjoaaDoorQLexP
import Derived.Test.YtpnfdmajpkpjoaaDoorQMem
import Derived.Test.YtpnfdmajpkpjoaaDoorRows
import Derived.WalkKit
import Derived.WalkSpells
import Derived.WalkLawsBesides
import Derived.Deep.QuietTactic
import Derived.BigQuiet
import Derived.Lib.Hide
set_option linter.unusedVariables false
set_option linter.unusedSimpArgs false
namespace Go.Proofs.YtpnfdmajpkpjoaaDoor
open Go.RowKit

theorem size_of (l : List UInt8) : (⟨l.toArray⟩ : ByteArray).size = l.length := by show l.toArray.size = _; simp
theorem ret_bool {a b : Bool} (h : a = b) : Ending.returned (.bool a) = .returned (.bool b) := by rw [h]
/-- A row of strings from address a on. -/
def RowAt (w : World) (a : Option Addr) (ls : List (List UInt8)) : Prop := ∀ (k : Nat) s, ls[k]? = some s → ∃ b off, a = some ⟨b, off, none⟩ ∧ w.cell? ⟨b, off + k, none⟩ = some (.string ⟨s.toArray⟩)

theorem contains_step (ls : List (List UInt8)) (k : Nat) (s l : List UInt8) (h : ls[k]? = some s) : hasB (ls.drop k) l = (l == s || hasB (ls.drop (k + 1)) l) := by
  obtain ⟨h1, rfl⟩ := List.getElem?_eq_some_iff.1 h
  unfold hasB
  rw [List.drop_eq_getElem_cons h1, List.contains_cons]

end Go.Proofs.YtpnfdmajpkpjoaaDoor

/- Walks of the scanners' small functions. -/
namespace Go.Proofs.YtpnfdmajpkpjoaaDoor
open Go.RowKit

theorem ret_int {k : IntKind} {a b : Int} (h : a = b) : Ending.returned (.int k a) = .returned (.int k b) := by rw [h]

theorem digit_any (c : Int) (w : World) :
    Calls Tryd.prog 48 #[.int .u8 c] w fun e w' => e = .returned (.bool (isDig c)) ∧ w' = w := by
  unfold isDig
  by_cases h1 : 48 ≤ c
  · go_enter Tryd.func48, Tryd.ntmps48
    go_wp2
    go_ret
    exact ⟨by simp [h1], rfl⟩
  · have h1' : decide (48 ≤ c) = false := by simp; omega
    go_enter Tryd.func48, Tryd.ntmps48
    go_wp2
    go_ret
    exact ⟨by simp [h1'], rfl⟩

theorem rdigit_any (c : Int) (w : World) :
    Calls Tryd.prog 61 #[.int .u8 c] w fun e w' => e = .returned (.bool (isDig c)) ∧ w' = w := by
  unfold isDig
  by_cases h1 : 48 ≤ c
  · go_enter Tryd.func61, Tryd.ntmps61
    go_wp2
    go_ret
    exact ⟨by simp [h1], rfl⟩
  · have h1' : decide (48 ≤ c) = false := by simp; omega
    go_enter Tryd.func61, Tryd.ntmps61
    go_wp2
    go_ret
    exact ⟨by simp [h1'], rfl⟩

theorem letter_any (c : Int) (w : World) :
    Calls Tryd.prog 68 #[.int .u8 c] w fun e w' => e = .returned (.bool (isLet c)) ∧ w' = w := by
  have hl : ∀ b, isLet c = b → isLet c = b := fun _ h => h
  by_cases h1 : 97 ≤ c
  · by_cases h2 : c ≤ 122
    · have hv : isLet c = true := by simp [isLet, h1, h2]
      rw [hv]
      clear hl hv
      go_enter Tryd.func68, Tryd.ntmps68
      go_wp2
      go_ret
      exact ⟨rfl, rfl⟩
    · have hv : isLet c = false := by simp [isLet]; omega
      have h3 : 65 ≤ c := by omega
      have h2' : decide (c ≤ 122) = false := by simp; omega
      have h4' : decide (c ≤ 90) = false := by simp; omega
      rw [hv]
      clear hl hv
      go_enter Tryd.func68, Tryd.ntmps68
      go_wp2
      go_ret
      exact ⟨rfl, rfl⟩
  · have h1' : decide (97 ≤ c) = false := by simp; omega
    by_cases h3 : 65 ≤ c
    · by_cases h4 : c ≤ 90
      · have hv : isLet c = true := by simp [isLet]; omega
        rw [hv]
        clear hl hv
        go_enter Tryd.func68, Tryd.ntmps68
        go_wp2
        go_ret
        exact ⟨rfl, rfl⟩
      · have hv : isLet c = false := by simp [isLet]; omega
        have h4' : decide (c ≤ 90) = false := by simp; omega
        rw [hv]
        clear hl hv
        go_enter Tryd.func68, Tryd.ntmps68
        go_wp2
        go_ret
        exact ⟨rfl, rfl⟩
    · have hv : isLet c = false := by simp [isLet]; omega
      have h3' : decide (65 ≤ c) = false := by simp; omega
      rw [hv]
      clear hl hv
      go_enter Tryd.func68, Tryd.ntmps68
      go_wp2
      go_ret
      exact ⟨rfl, rfl⟩

/-- The reference's letters: the underscore is one. -/
def isLetU (c : Int) : Bool := isLet c || c == 95

theorem part_any (c : Int) (w : World) :
    Calls Tryd.prog 46 #[.int .u8 c] w fun e w' => e = .returned (.bool (isPart c)) ∧ w' = w := by
  unfold isPart
  cases hl : isLet c
  · cases hd : isDig c
    all_goals
      go_enter Tryd.func46, Tryd.ntmps46
      go_wp2_with (first | (go_at_call 68; refine (letter_any _ _).mono ?_; rintro e w' ⟨rfl, rfl⟩) | (go_at_call 48; refine (digit_any _ _).mono ?_; rintro e w' ⟨rfl, rfl⟩))
      go_ret
      exact ⟨rfl, rfl⟩
  · go_enter Tryd.func46, Tryd.ntmps46
    go_wp2_with (first | (go_at_call 68; refine (letter_any _ _).mono ?_; rintro e w' ⟨rfl, rfl⟩) | (go_at_call 48; refine (digit_any _ _).mono ?_; rintro e w' ⟨rfl, rfl⟩))
    go_ret
    exact ⟨rfl, rfl⟩

theorem rletter_any (c : Int) (w : World) :
    Calls Tryd.prog 60 #[.int .u8 c] w fun e w' => e = .returned (.bool (isLetU c)) ∧ w' = w := by
  by_cases h1 : 97 ≤ c
  · by_cases h2 : c ≤ 122
    · have hv : isLetU c = true := by simp [isLetU, isLet, h1, h2]
      rw [hv]
      clear hv
      go_enter Tryd.func60, Tryd.ntmps60
      go_wp2
      go_ret
      exact ⟨rfl, rfl⟩
    · have hv : isLetU c = false := by simp [isLetU, isLet]; omega
      have h3 : 65 ≤ c := by omega
      have h2' : decide (c ≤ 122) = false := by simp; omega
      have h4' : decide (c ≤ 90) = false := by simp; omega
      have h5' : (c == 95) = false := by simp; omega
      rw [hv]
      clear hv
      go_enter Tryd.func60, Tryd.ntmps60
      go_wp2
      go_ret
      exact ⟨rfl, rfl⟩
  · have h1' : decide (97 ≤ c) = false := by simp; omega
    by_cases h3 : 65 ≤ c
    · by_cases h4 : c ≤ 90
      · have hv : isLetU c = true := by simp [isLetU, isLet]; omega
        rw [hv]
        clear hv
        go_enter Tryd.func60, Tryd.ntmps60
        go_wp2
        go_ret
        exact ⟨rfl, rfl⟩
      · have hv : isLetU c = (c == 95) := by simp [isLetU, isLet]; omega
        have h4' : decide (c ≤ 90) = false := by simp; omega
        rw [hv]
        clear hv
        go_enter Tryd.func60, Tryd.ntmps60
        go_wp2
        go_ret
        exact ⟨rfl, rfl⟩
    · have hv : isLetU c = (c == 95) := by simp [isLetU, isLet]; omega
      have h3' : decide (65 ≤ c) = false := by simp; omega
      rw [hv]
      clear hv
      go_enter Tryd.func60, Tryd.ntmps60
      go_wp2
      go_ret
      exact ⟨rfl, rfl⟩

theorem drop_cons (s : ByteArray) (k : Nat) (h : k < s.size) : s.data.toList.drop k = s[k] :: s.data.toList.drop (k + 1) := by
  rw [List.drop_eq_getElem_cons (by simpa using h)]; rfl
theorem drop_end (s : ByteArray) (k : Nat) (h : s.size ≤ k) : s.data.toList.drop k = [] := by
  rw [List.drop_eq_nil_iff]; simpa using h

/-- How far a word goes from k on. -/
def wlen (s : ByteArray) (k : Nat) : Nat := ((s.data.toList.drop k).takeWhile partB).length
theorem wlen_yes (s : ByteArray) (k : Nat) (h : k < s.size) (hp : isPart (s[k].toNat : Int) = true) : wlen s k = 1 + wlen s (k + 1) := by
  unfold wlen
  rw [drop_cons s k h, List.takeWhile_cons, if_pos (show partB s[k] = true from hp), List.length_cons]
  omega
theorem wlen_no (s : ByteArray) (k : Nat) (h : k < s.size) (hp : isPart (s[k].toNat : Int) = false) : wlen s k = 0 := by
  unfold wlen
  rw [drop_cons s k h, List.takeWhile_cons, if_neg (by show ¬ isPart (s[k].toNat : Int) = true; simp [hp])]
  rfl
theorem wlen_end (s : ByteArray) (k : Nat) (h : s.size ≤ k) : wlen s k = 0 := by
  unfold wlen
  rw [drop_end s k h]
  rfl

theorem wordEnd_any (s : ByteArray) (i : Nat) (w : World) (hs : s.size ≤ maxLen) (hi : i ≤ s.size) :
    Calls Tryd.prog 47 #[.string s, .int .i64 i] w fun e w' => e = .returned (.int .i64 ((i + wlen s i : Nat) : Int)) ∧ w' = w := by
  unfold maxLen at hs
  go_enter Tryd.func47, Tryd.ntmps47
  go_wp2
  go_loop [1] (fun v => ∃ k : Nat, k ≤ s.size ∧ v = .int .i64 k ∧ Hid (k + wlen s k = i + wlen s i)) (fun v => s.size - (intOf v).toNat)
  case atStart => exact ⟨i, hi, rfl, rfl⟩
  case round =>
    obtain ⟨k, hk, rfl, hw⟩ := hrel
    by_cases hlt : k < s.size
    · cases hp : isPart (s[k].toNat : Int)
      · have h0 := Lib.hid (wlen_no s k hlt hp)
        go_wp2_with (go_at_call 46; refine (part_any _ _).mono ?_; rintro e w' ⟨rfl, rfl⟩)
        go_ret
        exact ⟨ret_int (by have := hw.out; have := h0.out; omega), rfl⟩
      · have h0 := Lib.hid (wlen_yes s k hlt hp)
        go_wp2_with (go_at_call 46; refine (part_any _ _).mono ?_; rintro e w' ⟨rfl, rfl⟩)
        go_round
        case rel => exact ⟨k + 1, by omega, by go_num, by have := hw.out; have := h0.out; unfold Hid; omega⟩
        case measure => simp [intOf]; omega
    · have h0 := Lib.hid (wlen_end s k (by omega))
      go_wp2
      go_ret
      exact ⟨ret_int (by have := hw.out; have := h0.out; omega), rfl⟩
end Go.Proofs.YtpnfdmajpkpjoaaDoor

/- Walks: which strings are names. -/
namespace Go.Proofs.YtpnfdmajpkpjoaaDoor
open Go.RowKit

def IndexPost (ls : List (List UInt8)) (l : List UInt8) (w : World) (e : Ending) (w' : World) : Prop :=
  ∃ r : Int, e = .returned (.int .i64 r) ∧ Hid (decide (0 ≤ r) = hasB ls l) ∧ ∃ k, w' = w.drewN k

theorem index_any (ls : List (List UInt8)) (l : List UInt8) (n c : Nat) (a : Option Addr) (w : World) (hx : Hid (ls.length = n)) (hn : n ≤ 9223372036854775807) (F : Hid (RowAt w a ls)) :
    Calls Tryd.prog 97 #[.slice a n c, .string ⟨l.toArray⟩] w (IndexPost ls l w) := by
  go_enter Tryd.func97, Tryd.ntmps97
  go_wp2
  go_loopw [8] (fun v wr => ∃ k m : Nat, k ≤ n ∧ v = .int .i64 k ∧ wr = w.drewN m ∧ Hid (hasB ls l = hasB (ls.drop k) l)) (fun v _ => n - (intOf v).toNat)
  case atStart => exact ⟨0, 0, Nat.zero_le _, rfl, rfl, by unfold Hid; simp⟩
  case round =>
    obtain ⟨k, m, hk, rfl, rfl, hs⟩ := hrel
    by_cases hlt : k < n
    · obtain ⟨t, ht⟩ : ∃ t, ls[k]? = some t := ⟨ls[k]'(by have := hx.out; omega), by simp⟩
      obtain ⟨b, off, rfl, g⟩ := F.out k t ht
      have st := Lib.hid (contains_step ls k t l ht)
      clear ht
      cases e : l == t
      · go_wp2
        go_roundw
        case rel => exact ⟨k + 1, _, by omega, by go_num, rfl, by unfold Hid; rw [hs.out, st.out, e]; rfl⟩
        case measure => simp [intOf]; omega
      · go_wp2
        go_ret
        exact ⟨k, rfl, by unfold Hid; rw [hs.out, st.out, e]; simp, _, rfl⟩
    · go_wp2
      go_ret
      exact ⟨-1, rfl, by unfold Hid; rw [hs.out, List.drop_of_length_le (by have := hx.out; omega)]; rfl, _, rfl⟩
end Go.Proofs.YtpnfdmajpkpjoaaDoor

/- Walks: the program's test whether a string is a name. -/
namespace Go.Proofs.YtpnfdmajpkpjoaaDoor
open Go.RowKit



theorem contains_any (ls : List (List UInt8)) (l : List UInt8) (n c : Nat) (a : Option Addr) (w : World) (hx : Hid (ls.length = n)) (hn : n ≤ 9223372036854775807) (F : Hid (RowAt w a ls)) :
    Calls Tryd.prog 87 #[.slice a n c, .string ⟨l.toArray⟩] w fun e w' => e = .returned (.bool (hasB ls l)) ∧ ∃ k, w' = w.drewN k := by
  go_enter Tryd.func87, Tryd.ntmps87
  go_wp2_with (go_at_call 97; refine (index_any ls l n c a _ hx hn F).mono ?_; rintro e w' ⟨r, rfl, hr, k, rfl⟩)
  go_ret
  exact ⟨ret_bool hr.out, _, rfl⟩

/-- The keywords' variable holds the keywords. -/
def KwAt (w : World) : Prop := ∃ a c, w.cell? ⟨0, 0, none⟩ = some (.slice a 11 c) ∧ RowAt w a kws

theorem isname_nil (w : World) :
    Calls Tryd.prog 72 #[.string ⟨#[]⟩] w fun e w' => e = .returned (.bool (nameB [])) ∧ ∃ k, w' = w.drewN k := by
  go_enter Tryd.func72, Tryd.ntmps72
  go_wp2
  go_ret
  exact ⟨ret_bool rfl, 0, rfl⟩

theorem isname_long (c : UInt8) (r : List UInt8) (w : World) (h0 : 16 < (c :: r).length) :
    Calls Tryd.prog 72 #[.string ⟨(c :: r).toArray⟩] w fun e w' => e = .returned (.bool (nameB (c :: r))) ∧ ∃ k, w' = w.drewN k := by
  rw [name_long h0]
  have h : decide ((16 : Int) < (r.length : Int) + 1) = true := by simp at h0 ⊢; omega
  clear h0
  go_enter Tryd.func72, Tryd.ntmps72
  go_wp2
  go_ret
  exact ⟨rfl, 0, rfl⟩

theorem isname_first (c : UInt8) (r : List UInt8) (w : World) (h0 : (c :: r).length ≤ 16) (h1 : isLet (c.toNat : Int) = false) :
    Calls Tryd.prog 72 #[.string ⟨(c :: r).toArray⟩] w fun e w' => e = .returned (.bool (nameB (c :: r))) ∧ ∃ k, w' = w.drewN k := by
  rw [name_first (show firstB (c :: r) = false from h1)]
  have h : decide ((16 : Int) < (r.length : Int) + 1) = false := by simp at h0 ⊢; omega
  clear h0
  have h2 : isLet (((⟨(c :: r).toArray⟩ : ByteArray)[0]'(by rw [size_of]; simp)).toNat : Int) = false := h1
  clear h1
  go_enter Tryd.func72, Tryd.ntmps72
  go_wp2_with (go_at_call 68; refine (letter_any _ _).mono ?_; rintro e w' ⟨rfl, rfl⟩)
  go_ret
  exact ⟨rfl, 0, rfl⟩

theorem isname_in (c : UInt8) (r : List UInt8) (w : World) (h0 : (c :: r).length ≤ 16) (h1 : isLet (c.toNat : Int) = true) (KW : KwAt w) :
    Calls Tryd.prog 72 #[.string ⟨(c :: r).toArray⟩] w fun e w' => e = .returned (.bool (nameB (c :: r))) ∧ ∃ k, w' = w.drewN k := by
  obtain ⟨a, cp, hk, hF⟩ := KW
  have F := Lib.hid hF
  clear hF
  have hl : (⟨(c :: r).toArray⟩ : ByteArray).size = r.length + 1 := by rw [size_of]; simp
  have WE := Lib.hid (fun w => wordEnd_any ⟨(c :: r).toArray⟩ 0 w (by rw [hl]; unfold maxLen; simp at h0; omega) (Nat.zero_le _))
  clear hl
  have h : decide ((16 : Int) < (r.length : Int) + 1) = false := by simp at h0 ⊢; omega
  have h2 : isLet (((⟨(c :: r).toArray⟩ : ByteArray)[0]'(by rw [size_of]; simp)).toNat : Int) = true := h1
  have H0 := Lib.hid h0
  have H1 := Lib.hid h1
  clear h0 h1
  cases e : hasB kws (c :: r)
  · have EE := Lib.hid e
    go_enter Tryd.func72, Tryd.ntmps72
    go_wp2_with (first
      | (go_at_call 68; refine (letter_any _ _).mono ?_; rintro e w' ⟨rfl, rfl⟩)
      | (go_at_call 87; refine (contains_any kws (c :: r) 11 cp a _ rfl (by omega) F).mono ?_; rintro e w' ⟨rfl, k, rfl⟩)
      | (go_at_call 47; refine (WE.out _).mono ?_; rintro e w' ⟨rfl, rfl⟩))
    go_ret
    refine ⟨ret_bool ?_, _, rfl⟩
    rw [name_rest H0.out H1.out EE.out]
    have ht := take_all partB (c :: r)
    have hw : wlen ⟨(c :: r).toArray⟩ 0 = ((c :: r).takeWhile partB).length := rfl
    rw [← hw] at ht
    rw [Bool.eq_iff_iff, ← ht]
    have hs : ((0 + wlen ⟨(c :: r).toArray⟩ 0 : Nat) : Int) = (wlen ⟨(c :: r).toArray⟩ 0 : Int) := by simp
    simp
    omega
  · rw [name_kw e]
    go_enter Tryd.func72, Tryd.ntmps72
    go_wp2_with (first
      | (go_at_call 68; refine (letter_any _ _).mono ?_; rintro e w' ⟨rfl, rfl⟩)
      | (go_at_call 87; refine (contains_any kws (c :: r) 11 cp a _ rfl (by omega) F).mono ?_; rintro e w' ⟨rfl, k, rfl⟩))
    go_ret
    exact ⟨rfl, _, rfl⟩

theorem isname_any (s : ByteArray) (w : World) (KW : KwAt w) :
    Calls Tryd.prog 72 #[.string s] w fun e w' => e = .returned (.bool (nameB s.data.toList)) ∧ ∃ k, w' = w.drewN k := by
  obtain ⟨⟨l⟩⟩ := s
  match l with
  | [] => exact isname_nil w
  | c :: r =>
    show Calls Tryd.prog 72 #[.string ⟨(c :: r).toArray⟩] w fun e w' => e = .returned (.bool (nameB (c :: r))) ∧ ∃ k, w' = w.drewN k
    by_cases h0 : 16 < (c :: r).length
    · exact isname_long c r w h0
    cases h1 : isLet (c.toNat : Int)
    · exact isname_first c r w (by omega) h1
    · exact isname_in c r w (by omega) h1 KW
end Go.Proofs.YtpnfdmajpkpjoaaDoor

/- The keywords' variable. No walk. -/
namespace Go.Proofs.YtpnfdmajpkpjoaaDoor
open Go.RowKit

/-- The keywords' variable holds the keywords, in blocks below B. -/
def KwIn (B : Nat) (w : World) : Prop := 0 < B ∧ ∃ b off c, b < B ∧ w.cell? ⟨0, 0, none⟩ = some (.slice (some ⟨b, off, none⟩) 11 c) ∧ RowAt w (some ⟨b, off, none⟩) kws
theorem KwIn.at_ {B : Nat} {w w' : World} (h : KwIn B w) (hb : Below B w w') : KwAt w' := by
  obtain ⟨h0, b, off, c, h1, h2, h3⟩ := h
  refine ⟨some ⟨b, off, none⟩, c, (hb.cell (p := ⟨0, 0, none⟩) (by show 0 < B; omega)).trans h2, fun k s hk => ?_⟩
  obtain ⟨b', off', e, hc⟩ := h3 k s hk
  injection e with e
  injection e with e1 e2
  subst e1 e2
  exact ⟨b, off, rfl, (hb.cell (p := ⟨b, off + k, none⟩) h1).trans hc⟩

theorem KwIn.keep {B : Nat} {w w' : World} (h : KwIn B w) (hB : ∀ k, k < B → w'.heap[k]? = w.heap[k]?) : KwIn B w' := by
  obtain ⟨h0, b, off, c, h1, h2, h3⟩ := h
  refine ⟨h0, b, off, c, h1, (World.cell?_of_block (hB 0 (by omega))).trans h2, fun k s hk => ?_⟩
  obtain ⟨b', off', e, hc⟩ := h3 k s hk
  injection e with e
  injection e with e1 e2
  subst e1 e2
  exact ⟨b, off, rfl, (World.cell?_of_block (hB b h1)).trans hc⟩
theorem KwIn.now {B : Nat} {w : World} (h : KwIn B w) : KwAt w := h.at_ (Below.refl B w)
end Go.Proofs.YtpnfdmajpkpjoaaDoor

/- Walks: the reference's test whether a string is a name. -/
namespace Go.Proofs.YtpnfdmajpkpjoaaDoor
open Go.RowKit

def strV (l : List UInt8) : Value := .string ⟨l.toArray⟩
theorem keywords_any (w : World) :
    Calls Tryd.prog 83 #[] w fun e w' => e = .returned (.slice (some ⟨w.heap.size, 0, none⟩) 11 11) ∧ w' = w.alloc (.cells (kws.map strV).toArray 9) := by
  go_enter Tryd.func83, Tryd.ntmps83
  go_wp2
  go_ret
  exact ⟨rfl, rfl⟩

theorem strs_new (w : World) (ls : List (List UInt8)) (t : TypeId) : RowAt (w.alloc (.cells (ls.map strV).toArray t)) (some ⟨w.heap.size, 0, none⟩) ls := by
  intro k s h
  refine ⟨w.heap.size, 0, rfl, ?_⟩
  rw [World.cell?_alloc_new]
  simp [h, strV]

def RNamePost (b : Bool) (w : World) (e : Ending) (w' : World) : Prop := e = .returned (.bool b) ∧ Below w.heap.size w w'

theorem letterR (c : Int) (w : World) : Calls Tryd.prog 60 #[.int .u8 c] w fun e w' => e = .returned (.bool (isLetU c)) ∧ w = w' := (rletter_any c w).mono fun _ _ h => ⟨h.1, h.2.symm⟩
theorem digitR (c : Int) (w : World) : Calls Tryd.prog 61 #[.int .u8 c] w fun e w' => e = .returned (.bool (isDig c)) ∧ w = w' := (rdigit_any c w).mono fun _ _ h => ⟨h.1, h.2.symm⟩
theorem isPart_of (c : Int) (h : isLetU c = false) : isPart c = isDig c := by
  unfold isLetU at h; simp only [Bool.or_eq_false_iff] at h; unfold isPart; rw [h.1, h.2]; simp
theorem isPart_of' (c : Int) (h : isLetU c = true) : isPart c = true := by
  unfold isLetU at h; unfold isPart; cases h1 : isLet c <;> simp_all

theorem rname_in (s : ByteArray) (w : World) (h0 : 0 < s.size) (h1 : s.size ≤ 16) (h2 : isLetU (s[0].toNat : Int) = true) (h3 : ((s[0].toNat : Int) == 95) = false) (hf : Hid (firstB s.data.toList = true)) :
    Calls Tryd.prog 66 #[.string s] w (RNamePost (nameB s.data.toList) w) := by
  have g1 : decide ((16 : Int) < (s.size : Int)) = false := by simp; omega
  have g0 : ((s.size : Int) == 0) = false := by rw [beq_eq_false_iff_ne]; omega
  go_enter Tryd.func66, Tryd.ntmps66
  go_wp2_with (go_at_call 60; refine (letterR _ _).mono ?_; rintro e w' ⟨rfl, rfl⟩)
  go_loop [3] (fun v => ∃ k : Nat, k ≤ s.size ∧ v = .int .i64 k ∧ Hid (s.data.toList.all partB = (s.data.toList.drop k).all partB)) (fun v => s.size - (intOf v).toNat)
  case atStart => exact ⟨0, Nat.zero_le _, rfl, by unfold Hid; simp⟩
  case round =>
    obtain ⟨k, hk, rfl, hs⟩ := hrel
    by_cases hlt : k < s.size
    · have st := Lib.hid (all_drop s.data.toList k s[k] (by simp [hlt]; rfl) partB)
      cases e1 : isLetU (s[k].toNat : Int)
      · have q := Lib.hid (isPart_of _ e1)
        cases e2 : isDig (s[k].toNat : Int)
        · have E2 := Lib.hid e2
          go_wp2_with (first
            | (go_at_call 60; refine (letterR _ _).mono ?_; rintro e w' ⟨rfl, rfl⟩)
            | (go_at_call 61; refine (digitR _ _).mono ?_; rintro e w' ⟨rfl, rfl⟩))
          go_ret
          refine ⟨?_, Below.refl _ _⟩
          rw [name_part (by rw [hs.out, st.out]; unfold partB; rw [q.out, E2.out]; rfl)]
          rfl
        · have E2 := Lib.hid e2
          go_wp2_with (first
            | (go_at_call 60; refine (letterR _ _).mono ?_; rintro e w' ⟨rfl, rfl⟩)
            | (go_at_call 61; refine (digitR _ _).mono ?_; rintro e w' ⟨rfl, rfl⟩))
          go_round
          case rel => exact ⟨k + 1, by omega, by go_num, by unfold Hid; rw [hs.out, st.out]; unfold partB; rw [q.out, E2.out]; rfl⟩
          case measure => simp [intOf]; omega
      · have q := Lib.hid (isPart_of' _ e1)
        go_wp2_with (first
          | (go_at_call 60; refine (letterR _ _).mono ?_; rintro e w' ⟨rfl, rfl⟩)
          | (go_at_call 61; refine (digitR _ _).mono ?_; rintro e w' ⟨rfl, rfl⟩))
        go_round
        case rel => exact ⟨k + 1, by omega, by go_num, by unfold Hid; rw [hs.out, st.out]; unfold partB; rw [q.out]; rfl⟩
        case measure => simp [intOf]; omega
    · have hall : Hid (s.data.toList.all partB = true) := by unfold Hid; rw [hs.out, List.drop_of_length_le (by simp; omega)]; rfl
      clear hs
      have hr : Hid (hasB kws s.data.toList = false → nameB s.data.toList = true) := by
        intro h; rw [name_rest (by simp; omega) hf.out h]; exact hall.out
      have hS := Lib.hid (strs_new w kws 9)
      go_wp2_with (go_at_call 83; refine (keywords_any _).mono ?_; rintro e w2 ⟨rfl, hw'⟩; have hW := Lib.hid hw'; clear hw')
      go_loop [5] (fun v => ∃ k : Nat, k ≤ 11 ∧ v = .int .i64 k ∧ Hid (hasB kws s.data.toList = hasB (kws.drop k) s.data.toList)) (fun v => 11 - (intOf v).toNat)
      case atStart => exact ⟨0, Nat.zero_le _, rfl, by unfold Hid; simp⟩
      case round =>
        obtain ⟨j, hj, rfl, hk2⟩ := hrel
        by_cases hlt2 : j < 11
        · obtain ⟨t, ht⟩ : ∃ t, kws[j]? = some t := ⟨_, List.getElem?_eq_getElem (show j < kws.length from hlt2)⟩
          obtain ⟨b, off, hb, g⟩ := hS.out j t ht
          simp only [Option.some.injEq, Addr.mk.injEq] at hb
          obtain ⟨rfl, rfl, _⟩ := hb
          rw [← hW.out, Nat.zero_add] at g
          have st2 := Lib.hid (contains_step kws j t s.data.toList ht)
          clear ht
          cases e : t == s.toList
          · have E := Lib.hid e
            go_wp2
            go_round
            case rel => exact ⟨j + 1, by omega, by go_num, by have h := E.out; rw [ByteArray.toList_eq, BEq.comm] at h; unfold Hid; rw [hk2.out, st2.out, h]; rfl⟩
            case measure => simp [intOf]; omega
          · have E := Lib.hid e
            go_wp2
            go_ret
            refine ⟨?_, ?_⟩
            · have h := E.out
              rw [ByteArray.toList_eq, BEq.comm] at h
              rw [name_kw (by rw [hk2.out, st2.out, h]; rfl)]
              rfl
            · rw [hW.out]; exact (Below.refl _ _).alloc (Nat.le_refl _) _
        · go_wp2
          go_ret
          refine ⟨?_, ?_⟩
          · rw [hr.out (by rw [hk2.out, List.drop_of_length_le (by show 11 ≤ j; omega)]; rfl)]; rfl
          · rw [hW.out]; exact (Below.refl _ _).alloc (Nat.le_refl _) _

theorem rname_out (s : ByteArray) (w : World) (h : s.size = 0 ∨ 16 < s.size) (hv : nameB s.data.toList = false) :
    Calls Tryd.prog 66 #[.string s] w (RNamePost (nameB s.data.toList) w) := by
  rw [hv]
  clear hv
  rcases h with h | h
  · have g0 : ((s.size : Int) == 0) = true := by rw [beq_iff_eq]; omega
    clear h
    go_enter Tryd.func66, Tryd.ntmps66
    go_wp2
    go_ret
    exact ⟨rfl, Below.refl _ _⟩
  · have g0 : ((s.size : Int) == 0) = false := by rw [beq_eq_false_iff_ne]; omega
    have g1 : decide ((16 : Int) < (s.size : Int)) = true := by simp; omega
    clear h
    go_enter Tryd.func66, Tryd.ntmps66
    go_wp2
    go_ret
    exact ⟨rfl, Below.refl _ _⟩

theorem rname_first (s : ByteArray) (w : World) (h0 : 0 < s.size) (h1 : s.size ≤ 16) (h2 : isLet (s[0].toNat : Int) = false) (hv : nameB s.data.toList = false) :
    Calls Tryd.prog 66 #[.string s] w (RNamePost (nameB s.data.toList) w) := by
  rw [hv]
  clear hv
  have g1 : decide ((16 : Int) < (s.size : Int)) = false := by simp; omega
  have g0 : ((s.size : Int) == 0) = false := by rw [beq_eq_false_iff_ne]; omega
  cases e : isLetU (s[0].toNat : Int)
  · clear h2
    go_enter Tryd.func66, Tryd.ntmps66
    go_wp2_with (go_at_call 60; refine (letterR _ _).mono ?_; rintro e w' ⟨rfl, rfl⟩)
    go_ret
    exact ⟨rfl, Below.refl _ _⟩
  · have h3 : ((s[0].toNat : Int) == 95) = true := by unfold isLetU at e; rw [h2] at e; simpa using e
    clear h2
    go_enter Tryd.func66, Tryd.ntmps66
    go_wp2_with (go_at_call 60; refine (letterR _ _).mono ?_; rintro e w' ⟨rfl, rfl⟩)
    go_ret
    exact ⟨rfl, Below.refl _ _⟩

theorem first_of (s : ByteArray) (h0 : 0 < s.size) : firstB s.data.toList = isLet (s[0].toNat : Int) := by
  have h := drop_cons s 0 h0
  rw [List.drop_zero] at h
  rw [h]
  rfl

theorem rname_any (s : ByteArray) (w : World) :
    Calls Tryd.prog 66 #[.string s] w (RNamePost (nameB s.data.toList) w) := by
  by_cases h0 : s.size = 0
  · exact rname_out s w (.inl h0) (by rw [List.length_eq_zero_iff.1 (show s.data.toList.length = 0 by simpa using h0)]; rfl)
  by_cases h1 : 16 < s.size
  · exact rname_out s w (.inr h1) (name_long (by simpa using h1))
  have h0' : 0 < s.size := by omega
  have hf := first_of s h0'
  cases h2 : isLet (s[0].toNat : Int)
  · exact rname_first s w h0' (by omega) h2 (name_first (by rw [hf, h2]))
  · refine rname_in s w h0' (by omega) (by unfold isLetU; rw [h2]; rfl) ?_ (by unfold Hid; rw [hf, h2])
    rw [beq_eq_false_iff_ne]
    intro h
    rw [h] at h2
    exact absurd h2 (by decide)
end Go.Proofs.YtpnfdmajpkpjoaaDoor

