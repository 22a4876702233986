/- Walks: the lines of a text, by the program and by the reference. -/
import Derived.Test.YtgmlnbheceeklaaDoorScLn
import Derived.Test.YtgmlnbheceeklaaDoorScW1
import Derived.Test.YtgmlnbheceeklaaDoorScR1
import Derived.Test.YtgmlnbheceeklaaDoorMem2
set_option linter.unusedVariables false
set_option linter.unusedSimpArgs false
set_option linter.unusedSectionVars false
namespace Go.Proofs.YtgmlnbheceeklaaDoor
open Go.RowKit
variable [Base]

/-- A row of strings in memory. -/
def LnAt (w : World) (v : Value) (ls : List Str) : Prop := ∃ a c, v = .slice a ls.length c ∧ RowAt w a ls
theorem ltc {w : World} {b o : Nat} {v : Value} (h : w.cell? ⟨b, o, none⟩ = some v) : b < w.heap.size := by
  rcases Nat.lt_or_ge b w.heap.size with h' | h'
  · exact h'
  · simp [World.cell?, Array.getElem?_eq_none h'] at h
theorem LnAt.below {w w' : World} {v : Value} {ls : List Str} (h : LnAt w v ls) (hb : Below w.heap.size w w') : LnAt w' v ls := by
  obtain ⟨a, c, rfl, h⟩ := h
  refine ⟨a, c, rfl, fun k s hk => ?_⟩
  obtain ⟨b, off, rfl, hc⟩ := h k s hk
  exact ⟨b, off, rfl, (hb.cell (p := ⟨b, off + k, none⟩) (ltc hc)).trans hc⟩
theorem LnAt.nil {w : World} : LnAt w (.slice none 0 0) [] := ⟨none, 0, rfl, fun k s h => by simp at h⟩
def linesR (l : Str) : List Str × Int := if 65536 < l.length then ([], 7) else (lnS l, 0)
def LinesQ (r : List Str × Int) (w : World) (e : Ending) (w' : World) : Prop := ∃ v, e = .returned (.tuple #[v, .int .i64 r.2]) ∧ LnAt w' v r.1 ∧ Below w.heap.size w w'
theorem trim_to (l : Str) (hl : l.length ≤ 65536) (w : World) : Calls Tryd.prog 36 #[qs l, .string ⟨#[10]⟩] w (fun e w' => e = .returned (qs (trimT l)) ∧ w' = w) := by
  have k := Tryd.strings_TrimSuffix ⟨l.toArray⟩ ⟨#[10]⟩ w (by rw [size_str]; omega)
  rw [show (⟨l.toArray⟩ : ByteArray).data.toList = l from rfl, show (⟨#[10]⟩ : ByteArray).data.toList = [10] from rfl, trim_suffix] at k
  exact k
theorem trimT_len (l : Str) : (trimT l).length ≤ l.length := by
  rw [trim_last]
  split
  · simp
  · exact Nat.le_refl _
theorem splitl_any {B : Nat} (l : Str) (hl : l.length ≤ 65536) (h0 : l ≠ []) (w : World) (hV : VarsIn B w) : Calls Tryd.prog 35 #[qs (trimT l), .string ⟨#[10]⟩] w (fun e w' => ∃ v, e = .returned v ∧ LnAt w' v (lnS l) ∧ Below w.heap.size w w') := by
  obtain ⟨m, hm⟩ := hV.mx
  have ht := trimT_len l
  refine (Tryd.strings_Split ⟨(trimT l).toArray⟩ ⟨#[10]⟩ m w (by rw [size_str]; omega) hm (by decide)).mono ?_
  rintro e w' ⟨rfl, rfl⟩
  have hc : Lib.countB ⟨(trimT l).toArray⟩ ⟨#[10]⟩ = (trimT l).count 10 := by
    show Lib.count (trimT l) [10] = _
    rw [Lib.count_one]
  have hlen := Lib.splitB_all ⟨#[10]⟩ (by decide) 0 _ ⟨(trimT l).toArray⟩ hc
  rw [hc]
  have hd := Lib.splitB_data ⟨#[10]⟩ 0 ((trimT l).count 10) ⟨(trimT l).toArray⟩
  have hp : ((Lib.splitB ⟨#[10]⟩ 0 ((trimT l).count 10) ⟨(trimT l).toArray⟩).map Value.string) = (lnS l).map qs := by
    rw [← split_lines h0]
    show _ = (Lib.splitK [10] 0 ((trimT l).count 10) (trimT l)).map qs
    rw [show Lib.splitK [10] 0 ((trimT l).count 10) (trimT l) = _ from hd.symm, List.map_map]
    rfl
  have hpl : (lnS l).length = (trimT l).count 10 + 1 := by rw [← hlen]; have := congrArg List.length hp; simpa using this.symm
  refine ⟨_, rfl, ⟨some ⟨w.heap.size, 0, none⟩, _, by rw [hpl], ?_⟩, (Below.refl _ _).alloc (Nat.le_refl _) _⟩
  intro k s hk
  refine ⟨w.heap.size, 0, rfl, ?_⟩
  rw [hp, Nat.zero_add, World.cell?_alloc_new]
  rw [List.getElem?_toArray, List.getElem?_map, hk]
  rfl
theorem lines_any {B : Nat} (l : Str) (w : World) (hV : VarsIn B w) : Calls Tryd.prog 17 #[qs l] w (LinesQ (linesR l) w) := by
  have hud : ∀ b : Bool, (undef = Value.bool b) = False := fun b => by simp [undef]
  by_cases h1 : 65536 < l.length
  · have g1 : decide ((65536 : Int) < (l.length : Int)) = true := by simp; omega
    have HR := Lib.hid (show linesR l = ([], 7) from if_pos h1)
    go_enter Tryd.func17, Tryd.ntmps17
    go_wp2
    refine bodyPost_ret (v := .tuple #[.slice none 0 0, .int .i64 7]) (by simp [results, Tryd.results17, go_sem]) rfl ?_
    rw [HR.out]
    exact ⟨_, rfl, LnAt.nil, Below.refl _ _⟩
  have g1 : decide ((65536 : Int) < (l.length : Int)) = false := by simp; omega
  have HR := Lib.hid (show linesR l = (lnS l, 0) from if_neg h1)
  by_cases h0 : l = []
  · subst h0
    go_enter Tryd.func17, Tryd.ntmps17
    go_wp2
    refine bodyPost_ret (v := .tuple #[.slice none 0 0, .int .i64 0]) (by simp [results, Tryd.results17, go_sem]) rfl ?_
    rw [HR.out]
    exact ⟨_, rfl, LnAt.nil, Below.refl _ _⟩
  have e1 : (l == []) = false := by simpa using h0
  have TT := Lib.hid (trim_to l (by omega))
  have SP := Lib.hid (splitl_any l (by omega) h0 w hV)
  clear h0 hV
  go_enter Tryd.func17, Tryd.ntmps17
  go_wp2_with fail
  refine (TT.out w).mono ?_
  rintro e w' ⟨rfl, rfl⟩
  go_wp2_with fail
  refine SP.out.mono ?_
  rintro e w2 ⟨v, rfl, hv, hb⟩
  have HVV := Lib.hid hv
  have HB := Lib.hid hb
  clear hv hb TT SP
  go_wp2
  refine bodyPost_ret (v := .tuple #[v, .int .i64 0]) (by simp [results, Tryd.results17, go_sem]) rfl ?_
  rw [HR.out]
  exact ⟨_, rfl, HVV.out, HB.out⟩
end Go.Proofs.YtgmlnbheceeklaaDoor
