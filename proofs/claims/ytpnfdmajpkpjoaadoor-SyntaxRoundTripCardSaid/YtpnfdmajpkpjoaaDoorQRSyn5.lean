/- The reference's parser: begins. -/
import Derived.Test.YtpnfdmajpkpjoaaDoorQRSyn4
set_option linter.unusedVariables false
set_option linter.unusedSimpArgs false
namespace Go.Proofs.YtpnfdmajpkpjoaaDoor.R
open Go.RowKit

def opWords : List Str := [[117, 115, 101], [99, 97, 108, 108], [115, 111, 117, 114, 99, 101], [115, 105, 110, 107], [115, 97, 110, 105, 116, 105, 122, 101], [103, 111, 116, 111], [98, 114, 97, 110, 99, 104], [114, 101, 116, 117, 114, 110]]
theorem opOf_any (x : Str) : (opOf x != 0) = opWords.any (fun y => x == y) := by
  unfold opOf opWords
  simp only [List.any_cons, List.any_nil, Bool.or_false]
  repeat' split
  all_goals simp_all
theorem starts_any_words (T : List Tok) (s : PS) : startsB T s = (isN T s || opWords.any (fun y => isW T y s)) := by
  unfold startsB isW
  rw [opOf_any]
  congr 1
  cases (s.next T).kind == 1
  · rw [Bool.false_and]
    symm
    rw [List.any_eq_false]
    simp
  · simp only [Bool.true_and]
def wordCells : Obj := .cells #[sv [117, 115, 101], sv [99, 97, 108, 108], sv [115, 111, 117, 114, 99, 101], sv [115, 105, 110, 107], sv [115, 97, 110, 105, 116, 105, 122, 101], sv [103, 111, 116, 111], sv [98, 114, 97, 110, 99, 104], sv [114, 101, 116, 117, 114, 110]] 9 (0, 0)
theorem word_cell {w : World} {b i : Nat} (h : w.heap[b]? = some wordCells) {x : Str} (hx : opWords[i]? = some x) : w.cell? ⟨b, i, none⟩ = some (sv x) := by
  rw [(blk_cells h).1 i]
  have : i < 8 := (List.getElem?_eq_some_iff.1 hx).1
  have h8 : i = 0 ∨ i = 1 ∨ i = 2 ∨ i = 3 ∨ i = 4 ∨ i = 5 ∨ i = 6 ∨ i = 7 := by omega
  rcases h8 with rfl | rfl | rfl | rfl | rfl | rfl | rfl | rfl <;> (injection hx with hx; rw [← hx]; rfl)
def BgIn (B bp b : Nat) (T : List Tok) (s : PS) (w0 : World) (g : Nat) (w : World) (v : Value) : Prop :=
  ∃ i : Nat, v = .int .i64 i ∧ g + i = 9 ∧ i ≤ 8 ∧ PSt B bp T s w ∧ But bp w0 w ∧ w.heap[b]? = some wordCells ∧ ∀ j x, j < i → opWords[j]? = some x → isW T x s = false

set_option maxHeartbeats 1000000 in
theorem begins_any {B bp : Nat} {T : List Tok} {s : PS} {w : World} (h : PSt B bp T s w) :
    Calls Tryd.prog 81 #[.pointer (some ⟨bp, 0, none⟩)] w (SP B bp T s (.bool (startsB T s)) w) := by
  have hlt := h.lt
  rw [starts_any_words]
  have I : Hid (BgIn B bp w.heap.size T s w 9 (w.alloc (.cells #[sv [117, 115, 101], sv [99, 97, 108, 108], sv [115, 111, 117, 114, 99, 101], sv [115, 105, 110, 107], sv [115, 97, 110, 105, 116, 105, 122, 101], sv [103, 111, 116, 111], sv [98, 114, 97, 110, 99, 104], sv [114, 101, 116, 117, 114, 110]] 9)) (.int .i64 0)) :=
    ⟨0, rfl, rfl, by omega, h.alloc _, (But.refl _ _).alloc _, heap_alloc_new _ _, fun j x hj => absurd hj (by omega)⟩
  clear h
  go_enter Tryd.func81, Tryd.ntmps81
  go_wp2
  obtain ⟨b, hb⟩ : ∃ x, w.heap.size = x := ⟨_, rfl⟩
  rw [hb] at I ⊢
  have hbp : bp < b := by omega
  clear hb
  go_loopg [4] 9 (fun g v wr => Hid (BgIn B bp b T s w g wr v))
  case atStart => exact I
  case round =>
    obtain ⟨i, rfl, hgi, hi8, h1, b1, hblk, hall⟩ := hrel.out
    have H1 := Lib.hid h1
    have B1 := Lib.hid b1
    have HK := Lib.hid hblk
    have HA := Lib.hid hall
    have hbz := lt_heap hblk
    clear h1 b1 hblk hall hrel I
    rcases Nat.lt_or_ge i 8 with hi | hi
    · obtain ⟨x, hx⟩ : ∃ x, opWords[i]? = some x := ⟨_, List.getElem?_eq_getElem (show i < opWords.length from hi)⟩
      have HX := Lib.hid hx
      have c1 := word_cell HK.out hx
      have hi' : (i : Int) < 8 := by omega
      clear hx
      go_wp2_with fail
      refine (is_any H1.out x).mono ?_
      rintro e w2 ⟨rfl, h2, b2⟩
      have H2 := Lib.hid h2
      have B2 := Lib.hid (B1.out.trans b2)
      have HK2 := Lib.hid (b2.blk HK.out (by omega))
      clear h2 b2
      cases hw : isW T x s
      · have HW := Lib.hid hw
        clear hw
        go_wp2
        go_roundg (gk - 1)
        case measure => omega
        case rel =>
          refine ⟨i + 1, rfl, by omega, by omega, H2.out, B2.out, HK2.out, fun j y hj hy => ?_⟩
          rcases Nat.lt_or_ge j i with hji | hji
          · exact HA.out j y hji hy
          · obtain rfl : j = i := by omega
            rw [HX.out] at hy
            injection hy with hy
            rw [← hy]
            exact HW.out
      · have HW := Lib.hid hw
        clear hw
        go_wp2
        go_ret
        refine ⟨ret_bool ?_, H2.out, B2.out⟩
        have : opWords.any (fun y => isW T y s) = true := List.any_eq_true.2 ⟨x, List.mem_of_getElem? HX.out, HW.out⟩
        rw [this, Bool.or_true]
    · obtain rfl : i = 8 := by omega
      go_wp2_with fail
      refine (isName_any H1.out).mono ?_
      rintro e w2 ⟨rfl, h2, b2⟩
      have H2 := Lib.hid h2
      have B2 := Lib.hid (B1.out.trans b2)
      clear h2 b2
      go_wp2
      go_ret
      refine ⟨ret_bool ?_, H2.out, B2.out⟩
      have : opWords.any (fun y => isW T y s) = false := by
        rw [List.any_eq_false]
        intro y hy
        obtain ⟨j, hj⟩ := List.getElem?_of_mem hy
        have hj8 : j < 8 := (List.getElem?_eq_some_iff.1 hj).1
        rw [HA.out j y hj8 hj]
        decide
      rw [this, Bool.or_false]
end Go.Proofs.YtpnfdmajpkpjoaaDoor.R

