/- Walks of the reference's tests on programs. -/
import Derived.Test.YtahdmekakbagnaaTxtP
import Derived.Test.YtahdmekakbagnaaNameR
import Derived.Test.YtahdmekakbagnaaGenP
namespace Go.Proofs.Ytahdmekakbagnaa
open Go.RowKit

theorem StrsAt.cell {w : World} {v : Value} {l : List Str} (h : StrsAt w v l) : ∃ a c, v = .slice a l.length c ∧ l.length ≤ maxLen ∧ ∀ k s, l[k]? = some s → ∃ b off, a = some ⟨b, off, none⟩ ∧ b < w.heap.size ∧ w.cell? ⟨b, off + k, none⟩ = some (sv s) := by
  obtain ⟨a, n, c, rfl, h1, h2, h3, h4, h5⟩ := SliceAt.form h
  simp at h1
  subst h1
  refine ⟨a, c, rfl, h2, fun k s hk => ?_⟩
  obtain ⟨hk2, rfl⟩ := List.getElem?_eq_some_iff.1 hk
  obtain ⟨b, off, rfl, hb, ht, hc⟩ := h5 (by omega)
  refine ⟨b, off, rfl, hb, ?_⟩
  rw [hc _ (by simpa using hk2)]
  simp [hk2]

theorem all_drop' {α : Type} (l : List α) (k : Nat) (c : α) (h : l[k]? = some c) (p : α → Bool) : (l.drop k).all p = (p c && (l.drop (k + 1)).all p) := by
  obtain ⟨h1, rfl⟩ := List.getElem?_eq_some_iff.1 h
  rw [List.drop_eq_getElem_cons h1, List.all_cons]

def BoolPost (b : Bool) (w : World) (e : Ending) (w' : World) : Prop := e = .returned (.bool b) ∧ Below w.heap.size w w'

theorem namesOK_any (l : List Str) (v : Value) (a b : Int) (w : World) (h : StrsAt w v l) :
    Calls Try.prog 38 #[v, .int .i64 a, .int .i64 b] w (BoolPost (namesB l a b) w) := by
  obtain ⟨sa, c, rfl, hn, hc⟩ := h.cell
  have HC := Lib.hid hc
  obtain ⟨n, hl⟩ : ∃ n, l.length = n := ⟨_, rfl⟩
  rw [hl] at hn ⊢
  have HL := Lib.hid hl
  clear hc h hl
  unfold maxLen at hn
  go_enter Try.func38, Try.ntmps38
  go_wp2
  go_loopw [7] (fun x wr => ∃ k : Nat, k ≤ n ∧ x = .int .i64 k ∧ Hid (Below w.heap.size w wr) ∧ Hid (l.all nameB = (l.drop k).all nameB)) (fun x _ => n - (intOf x).toNat)
  case atStart => exact ⟨0, Nat.zero_le _, rfl, Below.refl _ _, by unfold Hid; simp⟩
  case round =>
    obtain ⟨k, hk, rfl, HB, hs⟩ := hrel
    by_cases hlt : k < n
    · obtain ⟨t, ht⟩ : ∃ t, l[k]? = some t := ⟨_, List.getElem?_eq_getElem (show k < l.length by have := HL.out; omega)⟩
      obtain ⟨bb, off, rfl, hb, g⟩ := HC.out k t ht
      have g2 := (HB.out.cell (p := ⟨bb, off + k, none⟩) hb).trans g
      have st := Lib.hid (all_drop' l k t ht nameB)
      clear ht g hb
      have hR := Lib.hid (fun w => rname_any ⟨t.toArray⟩ w)
      cases e : nameB t
      · have E := Lib.hid e
        clear e
        go_wp2_with fail
        refine (hR.out _).mono ?_
        rintro e w2 ⟨rfl, hb2⟩
        rw [show nameB (ByteArray.mk t.toArray).data.toList = false from E.out]
        have HB2 := Lib.hid (HB.out.trans (hb2.mono HB.out.size))
        clear hb2
        go_wp2
        go_ret
        exact ⟨ret_bool (by unfold namesB; rw [hs.out, st.out, E.out]; rfl), HB2.out⟩
      · have E := Lib.hid e
        clear e
        go_wp2_with fail
        refine (hR.out _).mono ?_
        rintro e w2 ⟨rfl, hb2⟩
        rw [show nameB (ByteArray.mk t.toArray).data.toList = true from E.out]
        have HB2 := Lib.hid (HB.out.trans (hb2.mono HB.out.size))
        clear hb2
        go_wp2
        go_roundw
        case rel => exact ⟨k + 1, by omega, by go_num, HB2, by unfold Hid; rw [hs.out, st.out, E.out]; rfl⟩
        case measure => simp [intOf]; omega
    · have hall : Hid (namesB l a b = (decide (a ≤ (n : Int)) && decide ((n : Int) ≤ b))) := by
        unfold Hid namesB; rw [hs.out, List.drop_of_length_le (by have := HL.out; omega), HL.out]; rfl
      cases e : decide (a ≤ (n : Int))
      all_goals
        have E := Lib.hid e
        go_wp2
        go_ret
        exact ⟨ret_bool (by rw [hall.out, E.out]; rfl), HB.out⟩
end Go.Proofs.Ytahdmekakbagnaa
