/- A part of the proof. -/
import Derived.Test.YtipnhmdibkkifaaGreatDoorNu00
import Derived.Test.YtipnhmdibkkifaaGreatDoorNu04
import Derived.Test.YtipnhmdibkkifaaGreatDoorNu02
import Derived.Test.YtipnhmdibkkifaaGreatDoorRows
import Derived.WalkKit
import Derived.WalkSpells
import Derived.WalkLawsBesides
import Derived.Deep.QuietTactic
import Derived.BigQuiet
set_option linter.unusedVariables false
set_option linter.unusedSimpArgs false
set_option linter.unusedVariables false
set_option linter.unusedSimpArgs false
set_option linter.unusedSectionVars false
namespace Go.Proofs.YtipnhmdibkkifaaGreatDoor
open Go.RowKit
variable [Base]
abbrev STT : TypeId := 42
abbrev MIL : TypeId := 40
abbrev LDT : TypeId := 53
abbrev TI : TypeId := 3
theorem und_mil : Tryz.prog.underlying MIL = some (.map TI LDT) := Tryz.underlying40
theorem und_ti : Tryz.prog.underlying TI = some (.int .i64) := Tryz.underlying3
theorem intK : Maps.Keyed Tryz.prog TI := Maps.int_keyed und_ti
abbrev stC (bm : Nat) (n : Int) : Array Value := #[iv 2, iv 3, iv 4, iv 20, iv 30, iv 3, iv 2, .map (some bm), iv n]
theorem stC_cells {w : World} {sb bm : Nat} {n : Int} (h : w.heap[sb]? = some (.cells (stC bm n) STT (0, 0))) :
    w.cell? ⟨sb, 0, none⟩ = some (iv 2) ∧ w.cell? ⟨sb, 1, none⟩ = some (iv 3) ∧ w.cell? ⟨sb, 2, none⟩ = some (iv 4) ∧ w.cell? ⟨sb, 3, none⟩ = some (iv 20) ∧ w.cell? ⟨sb, 4, none⟩ = some (iv 30) ∧ w.cell? ⟨sb, 5, none⟩ = some (iv 3) ∧ w.cell? ⟨sb, 6, none⟩ = some (iv 2) ∧ w.cell? ⟨sb, 7, none⟩ = some (.map (some bm)) ∧ w.cell? ⟨sb, 8, none⟩ = some (iv n) := by
  have h1 := (blk_cells h).1
  exact ⟨by simpa using h1 0, by simpa using h1 1, by simpa using h1 2, by simpa using h1 3, by simpa using h1 4, by simpa using h1 5, by simpa using h1 6, by simpa using h1 7, by simpa using h1 8⟩
theorem stC_froz {w : World} {sb bm : Nat} {n : Int} (h : w.heap[sb]? = some (.cells (stC bm n) STT (0, 0))) (k : Nat) : w.frozen? ⟨sb, k, none⟩ = false := by
  exact (blk_cells h).2 k
def FindQ (L : Loads) (id : Str) (w : World) (e : Ending) (w' : World) : Prop :=
  ((∃ k : Int, e = .returned (.tuple #[iv k, .bool true]) ∧ (k, id) ∈ L) ∨ (e = .returned (.tuple #[iv 0, .bool false]) ∧ ∀ x ∈ L, x.2 ≠ id)) ∧ Below w.heap.size w w'
theorem ld_at {D : DataW Unit} {L : Loads} (h : LdD D L) {k : Int} (hk : Maps.has D (.int .i64 k) = true) {s : ByteArray} {m : Int} (hat : ∀ z, D.atKey (.int .i64 k) z = ldD s.data.toList m) : (k, s.data.toList) ∈ L := by
  rw [h.has k, decide_eq_true_eq] at hk
  obtain ⟨⟨q, id⟩, hm, rfl⟩ := List.mem_map.1 hk
  have h1 := h.at_ q id hm (.lit (.bool true))
  rw [hat] at h1
  injection h1 with h1
  injection h1 with h1 _
  injection h1 with h1
  injection h1 with h1
  rw [h1]
  exact hm
theorem LdD.one {D : DataW Unit} {L : Loads} (h : LdD D L) {k : Int} {a b : Str} (ha : (k, a) ∈ L) (hb : (k, b) ∈ L) : a = b := by
  have h1 := (h.at_ k a ha (.lit (.bool true))).symm.trans (h.at_ k b hb (.lit (.bool true)))
  injection h1 with h1
  injection h1 with h1 _
  injection h1 with h1
  injection h1 with h1
theorem ba_list (s : ByteArray) : s.toList = s.data.toList := by
  exact ByteArray.toList_eq s
set_option maxRecDepth 100000 in
set_option maxHeartbeats 4000000 in
theorem sfind_any {w : World} {sb bm c : Nat} {n : Int} {L : Loads} (h : w.heap[sb]? = some (.cells (stC bm n) STT (0, 0))) (hm : LdM w bm c L) (id : Str) :
    Calls Tryz.prog 12 #[.pointer (some ⟨sb, 0, none⟩), sv id] w (FindQ L id w) := by
  obtain ⟨D, hown, hD⟩ := hm
  have HOWN := Lib.hid hown
  have HD := Lib.hid hD
  obtain ⟨x0, x1, x2, x3, x4, x5, x6, x7, x8⟩ := stC_cells h
  clear x0 x1 x2 x3 x4 x5 x6 x8 hown hD h
  obtain ⟨r, hr⟩ : ∃ r, w.heap.size = r := ⟨_, rfl⟩
  have HR := Lib.hid hr
  go_enter Tryz.func12, Tryz.ntmps12
  go_wp2_with (at_range; refine wpList_range_own _ rfl _ MIL rfl TI LDT intK und_mil ldR bm c D rfl HOWN.out ?_; intro w0 hrg0 hg0 hs0)
  rw [hr] at hrg0
  have HRG0 := Lib.hid hrg0
  have HG0 := Lib.hid hg0
  clear hrg0 hg0 hs0 x7
  rw [hr]
  clear hr
  go_frame
  go_loopw [6, 7] (fun _ _ wr => ∃ left cnt, Hid (wr.ranges Tryz.prog TI ldR bm r c D left cnt) ∧ Hid (Below r w wr) ∧ Hid (∀ x ∈ L, left (.int .i64 x.1) = false → x.2 ≠ id)) (fun _ _ wr => wr.rangeLeft bm r)
  case atStart =>
    refine ⟨_, _, HRG0.out, ?_, ?_⟩
    · have h1 := HR.out
      exact ⟨HG0.out.os, HG0.out.tape, HG0.out.output, HG0.out.size, fun k hk => HG0.out.block k (by omega) (by simp)⟩
    · intro x hx h1
      rw [HD.out.has] at h1
      exact absurd (List.mem_map_of_mem (f := Prod.fst) hx) (of_decide_eq_false h1)
  case round =>
    obtain ⟨left, cnt, HRG, HB, HN⟩ := hrel
    go_wp2_with (at_next; refine wpList_next_ranges _ rfl _ rfl TI intK ldR (fun x : Int => iv x) (fun c : ByteArray × Int × Option Addr × Nat × Nat => ldV c.1 c.2.1 c.2.2) (fun key kl hkey => by obtain ⟨x, rfl, _⟩ := Maps.keyOf_int_inv und_ti hkey; exact ⟨x, rfl⟩) (fun v y hv => by obtain ⟨c, rfl, _⟩ := ldR_inv v y hv; exact ⟨c, rfl⟩) bm r c D left cnt rfl HRG.out ?_ ?_)
    · intro _ hl0
      have HQ := Lib.hid (show ∀ x ∈ L, x.2 ≠ id from fun x hx => HN.out x hx (hl0 _))
      clear hl0
      go_wp2
      go_ret2
      exact ⟨.inr ⟨rfl, HQ.out⟩, by have := HB.out; have := HR.out; subst this; exact HB.out⟩
    · intro x s m pa pn pc kl y1 y2 w1 cnt1 hk hlx hv hat hrg1 hlt hg1 hs1 hen
      obtain ⟨x', ex, rfl, hwx⟩ := Maps.keyOf_int_inv und_ti hk
      injection ex with _ ex
      subst ex
      rw [ldR_mk] at hv
      injection hv with hv
      injection hv with hv1 hv2
      have HIN := Lib.hid (show (x, s.data.toList) ∈ L from ld_at HD.out (Maps.has_true_of_atKey hat) (fun z => (hat z).trans hv1.symm))
      have HR1 := Lib.hid hrg1
      have HLT := Lib.hid hlt
      have HB1 := Lib.hid (HB.out.trans (below_map hg1 (HRG.out.lt) (Nat.le_refl _)))
      have HS1 := Lib.hid hs1
      clear hk hlx hat hrg1 hlt hg1 hs1 hwx hv1 hv2
      by_cases hid : s.data.toList = id
      · have t1 : (s.toList == id) = true := by rw [ba_list, hid]; simp
        go_wp2
        go_ret2
        refine ⟨.inl ⟨x, rfl, by rw [← hid]; exact HIN.out⟩, ?_⟩
        have h1 := HB1.out.alloc (by have := HB1.out.size; have := HR.out; omega) (.cells #[.string s, .int .i64 m, .slice pa pn pc] LDT)
        rw [HR.out]
        exact h1
      · have t1 : (s.toList == id) = false := by rw [ba_list]; simpa using hid
        go_wp2
        go_roundw
        case rel =>
          refine ⟨_, _, HR1.out.alloc _, HB1.out.alloc (by have := HB1.out.size; have := HR.out; omega) _, fun y hy hz => ?_⟩
          by_cases e : y.1 = x
          · have h1 : (x, y.2) ∈ L := e ▸ hy
            exact fun e2 => hid ((HD.out.one HIN.out h1).trans e2)
          · exact HN.out y hy (by simpa [Lit.sameKey, e] using hz)
        case measure =>
          rw [(HR1.out.alloc _).left_eq, HRG.out.left_eq]
          exact HLT.out
end Go.Proofs.YtipnhmdibkkifaaGreatDoor
set_option linter.unusedVariables false
set_option linter.unusedSimpArgs false
set_option linter.unusedSectionVars false
namespace Go.Proofs.YtipnhmdibkkifaaGreatDoor
structure CV where
  p : Int
  pe : Int
  me : Int
  no : Int
  ed : Int
  ba : Int
  ag : Int
def btwB (n a b : Int) : Bool := decide (a ≤ n) && decide (n ≤ b)
def cfgB (c : CV) : Bool := btwB c.p 1 8 && (btwB c.pe 1 16 && (btwB c.me 0 512 && (btwB c.no 1 256 && (btwB c.ed 0 1024 && (btwB c.ba 1 64 && btwB c.ag 1 1024)))))
def clampS (a : Int) : Int := min (max a 0) 1073741824
def addS (a b : Int) : Int := clampS (clampS a + clampS b)
def divS (a b : Int) : Int := if clampS b = 0 then 1073741824 else (clampS a).tdiv (clampS b)
def qf (base pri age per : Int) : Int := min (max (addS (addS base pri) (divS age (max per 1))) 1) 64
end Go.Proofs.YtipnhmdibkkifaaGreatDoor
set_option linter.unusedVariables false
set_option linter.unusedSimpArgs false
set_option linter.unusedSectionVars false
namespace Go.Proofs.YtipnhmdibkkifaaGreatDoor
open Go.RowKit
variable [Base]
def cfgV (c : CV) : Value := .agg #[iv c.p, iv c.pe, iv c.me, iv c.no, iv c.ed, iv c.ba, iv c.ag]
theorem between_any (n a b : Int) (w : World) : Calls Tryz.prog 17 #[iv n, iv a, iv b] w fun e w' => e = .returned (.bool (btwB n a b)) ∧ w' = w := by
  by_cases h1 : a ≤ n
  · by_cases h2 : n ≤ b
    all_goals
      go_enter Tryz.func17, Tryz.ntmps17
      go_wp2
      go_ret
      exact ⟨by simp [btwB, *], rfl⟩
  · go_enter Tryz.func17, Tryz.ntmps17
    go_wp2
    go_ret
    exact ⟨by simp [btwB]; omega, rfl⟩
theorem between_eq {n a b : Int} {r : Bool} (h : btwB n a b = r) (w : World) : Calls Tryz.prog 17 #[iv n, iv a, iv b] w fun e w' => e = .returned (.bool r) ∧ w' = w := h ▸ between_any n a b w
set_option maxHeartbeats 1000000 in
theorem cvalid_any (c : CV) (w : World) : Calls Tryz.prog 11 #[cfgV c] w (BoolQ (cfgB c) w) := by
  unfold cfgV
  rcases Bool.eq_false_or_eq_true (btwB c.p 1 8) with b0 | b0
  rotate_left
  · have HB := Lib.hid (show cfgB c = false by simp [cfgB, b0])
    go_enter Tryz.func11, Tryz.ntmps11
    go_wp2_with first | (go_at_call 17; with_reducible refine (between_eq b0 _).mono ?_; rintro e w1 ⟨rfl, rfl⟩)
    go_ret
    exact ⟨ret_boolQ HB.out.symm, (Below.refl _ _).alloc (Nat.le_refl _) _⟩
  rcases Bool.eq_false_or_eq_true (btwB c.pe 1 16) with b1 | b1
  rotate_left
  · have HB := Lib.hid (show cfgB c = false by simp [cfgB, b0, b1])
    go_enter Tryz.func11, Tryz.ntmps11
    go_wp2_with first | (go_at_call 17; with_reducible refine (between_eq b0 _).mono ?_; rintro e w1 ⟨rfl, rfl⟩) | (go_at_call 17; with_reducible refine (between_eq b1 _).mono ?_; rintro e w1 ⟨rfl, rfl⟩)
    go_ret
    exact ⟨ret_boolQ HB.out.symm, (Below.refl _ _).alloc (Nat.le_refl _) _⟩
  rcases Bool.eq_false_or_eq_true (btwB c.me 0 512) with b2 | b2
  rotate_left
  · have HB := Lib.hid (show cfgB c = false by simp [cfgB, b0, b1, b2])
    go_enter Tryz.func11, Tryz.ntmps11
    go_wp2_with first | (go_at_call 17; with_reducible refine (between_eq b0 _).mono ?_; rintro e w1 ⟨rfl, rfl⟩) | (go_at_call 17; with_reducible refine (between_eq b1 _).mono ?_; rintro e w1 ⟨rfl, rfl⟩) | (go_at_call 17; with_reducible refine (between_eq b2 _).mono ?_; rintro e w1 ⟨rfl, rfl⟩)
    go_ret
    exact ⟨ret_boolQ HB.out.symm, (Below.refl _ _).alloc (Nat.le_refl _) _⟩
  rcases Bool.eq_false_or_eq_true (btwB c.no 1 256) with b3 | b3
  rotate_left
  · have HB := Lib.hid (show cfgB c = false by simp [cfgB, b0, b1, b2, b3])
    go_enter Tryz.func11, Tryz.ntmps11
    go_wp2_with first | (go_at_call 17; with_reducible refine (between_eq b0 _).mono ?_; rintro e w1 ⟨rfl, rfl⟩) | (go_at_call 17; with_reducible refine (between_eq b1 _).mono ?_; rintro e w1 ⟨rfl, rfl⟩) | (go_at_call 17; with_reducible refine (between_eq b2 _).mono ?_; rintro e w1 ⟨rfl, rfl⟩) | (go_at_call 17; with_reducible refine (between_eq b3 _).mono ?_; rintro e w1 ⟨rfl, rfl⟩)
    go_ret
    exact ⟨ret_boolQ HB.out.symm, (Below.refl _ _).alloc (Nat.le_refl _) _⟩
  rcases Bool.eq_false_or_eq_true (btwB c.ed 0 1024) with b4 | b4
  rotate_left
  · have HB := Lib.hid (show cfgB c = false by simp [cfgB, b0, b1, b2, b3, b4])
    go_enter Tryz.func11, Tryz.ntmps11
    go_wp2_with first | (go_at_call 17; with_reducible refine (between_eq b0 _).mono ?_; rintro e w1 ⟨rfl, rfl⟩) | (go_at_call 17; with_reducible refine (between_eq b1 _).mono ?_; rintro e w1 ⟨rfl, rfl⟩) | (go_at_call 17; with_reducible refine (between_eq b2 _).mono ?_; rintro e w1 ⟨rfl, rfl⟩) | (go_at_call 17; with_reducible refine (between_eq b3 _).mono ?_; rintro e w1 ⟨rfl, rfl⟩) | (go_at_call 17; with_reducible refine (between_eq b4 _).mono ?_; rintro e w1 ⟨rfl, rfl⟩)
    go_ret
    exact ⟨ret_boolQ HB.out.symm, (Below.refl _ _).alloc (Nat.le_refl _) _⟩
  rcases Bool.eq_false_or_eq_true (btwB c.ba 1 64) with b5 | b5
  rotate_left
  · have HB := Lib.hid (show cfgB c = false by simp [cfgB, b0, b1, b2, b3, b4, b5])
    go_enter Tryz.func11, Tryz.ntmps11
    go_wp2_with first | (go_at_call 17; with_reducible refine (between_eq b0 _).mono ?_; rintro e w1 ⟨rfl, rfl⟩) | (go_at_call 17; with_reducible refine (between_eq b1 _).mono ?_; rintro e w1 ⟨rfl, rfl⟩) | (go_at_call 17; with_reducible refine (between_eq b2 _).mono ?_; rintro e w1 ⟨rfl, rfl⟩) | (go_at_call 17; with_reducible refine (between_eq b3 _).mono ?_; rintro e w1 ⟨rfl, rfl⟩) | (go_at_call 17; with_reducible refine (between_eq b4 _).mono ?_; rintro e w1 ⟨rfl, rfl⟩) | (go_at_call 17; with_reducible refine (between_eq b5 _).mono ?_; rintro e w1 ⟨rfl, rfl⟩)
    go_ret
    exact ⟨ret_boolQ HB.out.symm, (Below.refl _ _).alloc (Nat.le_refl _) _⟩
  rcases Bool.eq_false_or_eq_true (btwB c.ag 1 1024) with b6 | b6
  rotate_left
  · have HB := Lib.hid (show cfgB c = false by simp [cfgB, b0, b1, b2, b3, b4, b5, b6])
    go_enter Tryz.func11, Tryz.ntmps11
    go_wp2_with first | (go_at_call 17; with_reducible refine (between_eq b0 _).mono ?_; rintro e w1 ⟨rfl, rfl⟩) | (go_at_call 17; with_reducible refine (between_eq b1 _).mono ?_; rintro e w1 ⟨rfl, rfl⟩) | (go_at_call 17; with_reducible refine (between_eq b2 _).mono ?_; rintro e w1 ⟨rfl, rfl⟩) | (go_at_call 17; with_reducible refine (between_eq b3 _).mono ?_; rintro e w1 ⟨rfl, rfl⟩) | (go_at_call 17; with_reducible refine (between_eq b4 _).mono ?_; rintro e w1 ⟨rfl, rfl⟩) | (go_at_call 17; with_reducible refine (between_eq b5 _).mono ?_; rintro e w1 ⟨rfl, rfl⟩) | (go_at_call 17; with_reducible refine (between_eq b6 _).mono ?_; rintro e w1 ⟨rfl, rfl⟩)
    go_ret
    exact ⟨ret_boolQ HB.out.symm, (Below.refl _ _).alloc (Nat.le_refl _) _⟩
  have HB := Lib.hid (show cfgB c = true by simp [cfgB, b0, b1, b2, b3, b4, b5, b6])
  go_enter Tryz.func11, Tryz.ntmps11
  go_wp2_with first | (go_at_call 17; with_reducible refine (between_eq b0 _).mono ?_; rintro e w1 ⟨rfl, rfl⟩) | (go_at_call 17; with_reducible refine (between_eq b1 _).mono ?_; rintro e w1 ⟨rfl, rfl⟩) | (go_at_call 17; with_reducible refine (between_eq b2 _).mono ?_; rintro e w1 ⟨rfl, rfl⟩) | (go_at_call 17; with_reducible refine (between_eq b3 _).mono ?_; rintro e w1 ⟨rfl, rfl⟩) | (go_at_call 17; with_reducible refine (between_eq b4 _).mono ?_; rintro e w1 ⟨rfl, rfl⟩) | (go_at_call 17; with_reducible refine (between_eq b5 _).mono ?_; rintro e w1 ⟨rfl, rfl⟩) | (go_at_call 17; with_reducible refine (between_eq b6 _).mono ?_; rintro e w1 ⟨rfl, rfl⟩)
  go_ret
  exact ⟨ret_boolQ HB.out.symm, (Below.refl _ _).alloc (Nat.le_refl _) _⟩
end Go.Proofs.YtipnhmdibkkifaaGreatDoor
set_option linter.unusedVariables false
set_option linter.unusedSimpArgs false
set_option linter.unusedSectionVars false
namespace Go.Proofs.YtipnhmdibkkifaaGreatDoor
open Go.RowKit
variable [Base]
def tgtE (l : List Str) (s : PStmt) (last : Bool) : Int := if termB s.op != last then 4 else if s.targets.all (fun t => l.contains t) then 0 else 5
theorem stmtE_tgt (fs bs : List Str) (s : PStmt) (last : Bool) : stmtE fs bs s last = tgtE (if s.op == 3 then fs else bs) s last := rfl
theorem all_step {α : Type} (p : α → Bool) {l : List α} {i : Nat} {x : α} (h : l[i]? = some x) : (l.drop i).all p = (p x && (l.drop (i + 1)).all p) := by
  obtain ⟨hi, rfl⟩ := List.getElem?_eq_some_iff.1 h
  rw [List.drop_eq_getElem_cons hi, List.all_cons]
set_option maxRecDepth 100000 in
set_option maxHeartbeats 1000000 in
theorem statement_any (s : PStmt) (last : Bool) (l : List Str) (mb n : Nat) (ua : Option Addr) (un uc : Nat) (t : Value) (w : World) (ht : StrsAt w t s.targets) (hlen : ∀ x ∈ s.targets, x.length ≤ maxLen) (hm : NamesM w mb n l) :
    Calls Tryz.prog 72 #[.agg #[iv s.op, sv s.dfn, .slice ua un uc, t], .bool last, .map (some mb)] w (IntQ (tgtE l s last) w) := by
  obtain ⟨ta, tc, rfl, htn, htc⟩ := ht.cell
  have HTC := Lib.hid htc
  have HLEN := Lib.hid hlen
  obtain ⟨k, hk⟩ : ∃ k, s.targets.length = k := ⟨_, rfl⟩
  rw [hk] at htn ⊢
  unfold maxLen at htn
  have HK := Lib.hid hk
  obtain ⟨W, hW⟩ : ∃ W, w.alloc (.cells #[iv s.op, sv s.dfn, .slice ua un uc, .slice ta k tc] 118) = W := ⟨_, rfl⟩
  obtain ⟨sb, hsb⟩ : ∃ b, w.heap.size = b := ⟨_, rfl⟩
  have HSB := Lib.hid (show W.heap[sb]? = some (.cells #[iv s.op, sv s.dfn, .slice ua un uc, .slice ta k tc] 118 (0, 0)) by rw [← hW, ← hsb]; exact heap_alloc_new _ _)
  have BW := Lib.hid (show Below w.heap.size w W by rw [← hW]; exact (Below.refl _ _).alloc (Nat.le_refl _) _)
  have HM := Lib.hid (hm.below BW.out)
  have HWW := Lib.hid hW
  have HSE := Lib.hid hsb
  obtain ⟨x0, x1, x2, x3⟩ := cells4s HSB.out
  have HTM := Lib.hid (show Calls Tryz.prog 109 #[.agg #[iv s.op, sv s.dfn, .slice ua un uc, .slice ta k tc]] W (BoolQ (termB s.op) W) from terminator_any s _ _ W)
  obtain ⟨tb, htb⟩ : ∃ b, termB s.op = b := ⟨_, rfl⟩
  rw [htb] at HTM
  have HE := Lib.hid (show tgtE l s last = if tb != last then 4 else if s.targets.all (fun t => l.contains t) then 0 else 5 by rw [← htb]; rfl)
  clear ht hlen htc hk hW hm htb
  go_enter Tryz.func72, Tryz.ntmps72
  go_upto_region 1 with (fail)
  rw [show w.alloc (.cells #[iv s.op, sv s.dfn, .slice ua un uc, .slice ta k tc] 118) = W from HWW.out]
  try rw [hsb]
  clear hsb
  go_wp2_with fail
  refine HTM.out.mono ?_
  rintro e w1 ⟨rfl, b1⟩
  have B1 := Lib.hid (BW.out.trans (b1.mono BW.out.size))
  have HM1 := Lib.hid (HM.out.below b1)
  have HSB1 := Lib.hid (lies_below HSB.out b1 (lt_heap HSB.out))
  clear b1 x0 x1 x2 x3
  obtain ⟨x0, x1, x2, x3⟩ := cells4s HSB1.out
  have HE2 := Lib.hid (show tgtE l s last = if (!(tb == last)) = true then 4 else if s.targets.all (fun t => l.contains t) then 0 else 5 from HE.out)
  clear HE
  have HE := HE2
  clear HE2
  cases htl : (tb == last) with
  | false =>
    rw [htl] at HE
    go_wp2
    go_ret
    exact ⟨by rw [HE.out]; rfl, B1.out⟩
  | true =>
    rw [htl] at HE
    go_wp2
    go_loopw [16] (fun y wr => ∃ i : Nat, i ≤ k ∧ y = .int .i64 i ∧ wr = w1 ∧ Hid (s.targets.all (fun t => l.contains t) = (s.targets.drop i).all (fun t => l.contains t))) (fun y _ => k - (intOf y).toNat)
    case atStart => exact ⟨0, Nat.zero_le _, rfl, rfl, by unfold Hid; simp⟩
    case round =>
      obtain ⟨i, hi, rfl, rfl, HA⟩ := hrel
      by_cases hlt : i < k
      rotate_left
      · have HF := Lib.hid (show s.targets.all (fun t => l.contains t) = true by rw [HA.out, List.drop_eq_nil_of_le (by rw [HK.out]; omega)]; rfl)
        go_wp2
        go_ret
        exact ⟨by rw [HE.out, HF.out]; rfl, B1.out⟩
      · obtain ⟨x, hx⟩ : ∃ x, s.targets[i]? = some x := ⟨_, List.getElem?_eq_getElem (by rw [HK.out]; exact hlt)⟩
        obtain ⟨b, off, rfl, hb, hc⟩ := HTC.out i x hx
        have hc := (B1.out.cell (p := ⟨b, off + i, none⟩) hb).trans hc
        have lk := HM1.out.look (HLEN.out x (List.mem_of_getElem? hx))
        have HS := Lib.hid (all_step (fun t => l.contains t) hx)
        have hin : (i : Int) < (k : Int) := by omega
        obtain ⟨r, hr⟩ : ∃ r, l.contains x = r := ⟨_, rfl⟩
        rw [hr] at lk HS
        clear hr hx
        cases r with
        | false =>
          have HF := Lib.hid (show s.targets.all (fun t => l.contains t) = false by rw [HA.out, HS.out]; rfl)
          go_wp2
          go_ret
          exact ⟨by rw [HE.out, HF.out]; rfl, B1.out⟩
        | true =>
          have HF := Lib.hid (show s.targets.all (fun t => l.contains t) = (s.targets.drop (i + 1)).all (fun t => l.contains t) by rw [HA.out, HS.out]; rfl)
          go_wp2
          go_roundw
          case rel => exact ⟨i + 1, by omega, by go_num, trivial, HF⟩
          case measure => simp [intOf]; omega
end Go.Proofs.YtipnhmdibkkifaaGreatDoor
