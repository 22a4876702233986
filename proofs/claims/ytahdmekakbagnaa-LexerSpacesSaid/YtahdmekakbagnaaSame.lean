/- The law's comparison of two lists of tokens. -/
import Derived.Test.YtahdmekakbagnaaRows
import Derived.Test.YtahdmekakbagnaaLexP
import Derived.Test.YtahdmekakbagnaaMem
import Derived.WalkKit
import Derived.WalkSpells
import Derived.WalkLawsBesides
import Derived.Deep.QuietTactic
import Derived.BigQuiet
import Derived.Lib.Hide
namespace Go.Proofs.Ytahdmekakbagnaa
open Go.RowKit

def tokCells (t : Tok) : List Value := [.int .i64 t.kind, .string ⟨t.text.toArray⟩, .int .i64 t.line, .int .i64 t.col]
def TokensAt (w : World) (v : Value) (l : List Tok) : Prop := SliceAt w 46 4 v (l.map tokCells).flatten

def teq (loose : Bool) (t u : Tok) : Bool := t.kind == u.kind && t.text == u.text && (loose || (t.line == u.line && t.col == u.col))
def sameB (loose : Bool) : List Tok → List Tok → Bool
  | [], [] => true
  | a :: xs, b :: ys => teq loose a b && sameB loose xs ys
  | _, _ => false

theorem tok_cell (l : List Tok) (k j : Nat) (hk : k < l.length) (hj : j < 4) : (l.map tokCells).flatten[k * 4 + j]? = (tokCells l[k])[j]? := by
  have h := flatten_get 4 (l.map tokCells) (by intro x hx; obtain ⟨t, _, rfl⟩ := List.mem_map.1 hx; rfl) k j (by simpa using hk) hj
  rw [h]; simp
theorem toks_len (l : List Tok) : (l.map tokCells).flatten.length = l.length * 4 := by
  rw [flatten_len 4 _ (by intro x hx; obtain ⟨t, _, rfl⟩ := List.mem_map.1 hx; rfl)]; simp

/-- The shape of a slice of tokens. -/
theorem TokensAt.form {w : World} {v : Value} {l : List Tok} (h : TokensAt w v l) :
    ∃ a c, v = .slice a l.length c ∧ l.length ≤ maxLen ∧ l.length ≤ c ∧ c ≤ maxLen ∧ ∀ k t, l[k]? = some t → ∃ b off, a = some ⟨b, off, none⟩ ∧ b < w.heap.size ∧ tyAt w b = some 46 ∧
      ∀ j, j < 4 → w.cell? ⟨b, off + k * 4 + j, none⟩ = (tokCells t)[j]? := by
  obtain ⟨a, n, c, rfl, h1, h2, h3, h4, h5⟩ := SliceAt.form h
  rw [toks_len] at h1
  obtain rfl : n = l.length := by omega
  refine ⟨a, c, rfl, h2, h3, h4, fun k t hk => ?_⟩
  obtain ⟨hk2, rfl⟩ := List.getElem?_eq_some_iff.1 hk
  obtain ⟨b, off, rfl, hb, ht, hc⟩ := h5 (by omega)
  refine ⟨b, off, rfl, hb, ht, fun j hj => ?_⟩
  rw [Nat.add_assoc, hc _ (by rw [toks_len]; omega), tok_cell l k j hk2 hj]

theorem sameB_step (loose : Bool) (xs ys : List Tok) (k : Nat) (t u : Tok) (h1 : xs[k]? = some t) (h2 : ys[k]? = some u) :
    sameB loose (xs.drop k) (ys.drop k) = (teq loose t u && sameB loose (xs.drop (k + 1)) (ys.drop (k + 1))) := by
  obtain ⟨g1, rfl⟩ := List.getElem?_eq_some_iff.1 h1
  obtain ⟨g2, rfl⟩ := List.getElem?_eq_some_iff.1 h2
  rw [List.drop_eq_getElem_cons g1, List.drop_eq_getElem_cons g2, sameB]
theorem sameB_length (loose : Bool) : ∀ (xs ys : List Tok), sameB loose xs ys = true → xs.length = ys.length
  | [], [], _ => rfl
  | _ :: xs, _ :: ys, h => by
    simp only [sameB, Bool.and_eq_true] at h
    simp [sameB_length loose xs ys h.2]

set_option maxHeartbeats 400000 in
theorem same_core (xs ys : List Tok) (loose : Bool) (n c1 c2 : Nat) (a1 a2 : Option Addr) (w : World) (hx : Hid (xs.length = n)) (hy : Hid (ys.length = n)) (hn : n ≤ 9223372036854775807)
    (F1 : Hid (∀ k t, xs[k]? = some t → ∃ b off, a1 = some ⟨b, off, none⟩ ∧ ∀ j, j < 4 → w.cell? ⟨b, off + k * 4 + j, none⟩ = (tokCells t)[j]?))
    (F2 : Hid (∀ k t, ys[k]? = some t → ∃ b off, a2 = some ⟨b, off, none⟩ ∧ ∀ j, j < 4 → w.cell? ⟨b, off + k * 4 + j, none⟩ = (tokCells t)[j]?)) :
    Calls Try.prog 16 #[.slice a1 n c1, .slice a2 n c2, .bool loose] w fun e w' => e = .returned (.bool (sameB loose xs ys)) ∧ ∃ k, w' = w.drewN k := by
  go_enter Try.func16, Try.ntmps16
  go_wp2
  go_loopw [7] (fun v wr => ∃ k m : Nat, k ≤ n ∧ v = .int .i64 k ∧ wr = w.drewN m ∧ Hid (sameB loose xs ys = sameB loose (xs.drop k) (ys.drop k))) (fun v _ => n - (intOf v).toNat)
  case atStart => exact ⟨0, 0, Nat.zero_le _, rfl, rfl, by unfold Hid; simp⟩
  case round =>
    obtain ⟨k, m, hk, rfl, rfl, hs⟩ := hrel
    by_cases hlt : k < n
    · obtain ⟨t, ht⟩ : ∃ t, xs[k]? = some t := ⟨xs[k]'(by have := hx.out; omega), by simp⟩
      obtain ⟨u, hu⟩ : ∃ u, ys[k]? = some u := ⟨ys[k]'(by have := hy.out; omega), by simp⟩
      obtain ⟨b1, o1, rfl, g1⟩ := F1.out k t ht
      obtain ⟨b2, o2, rfl, g2⟩ := F2.out k u hu
      have st := Lib.hid (sameB_step loose xs ys k t u ht hu)
      clear ht hu
      cases t with | mk k1 t1 l1 m1 =>
      cases u with | mk k2 t2 l2 m2 =>
      have g10 := g1 0 (by omega)
      have g11 := g1 1 (by omega)
      have g12 := g1 2 (by omega)
      have g13 := g1 3 (by omega)
      have g20 := g2 0 (by omega)
      have g21 := g2 1 (by omega)
      have g22 := g2 2 (by omega)
      have g23 := g2 3 (by omega)
      clear g1 g2
      simp only [tokCells, Nat.add_zero, List.getElem?_cons_zero, List.getElem?_cons_succ] at g10 g11 g12 g13 g20 g21 g22 g23
      cases e1 : k1 != k2
      · cases e2 : t1 == t2
        · go_wp2
          go_quiet (fail)
          go_wp2
          go_ret
          refine ⟨?_, _, World.drewN_drewN _ _ _⟩
          rw [hs.out, st.out]
          simp_all [teq]
        · cases loose
          · cases e3 : l1 != l2
            · cases e4 : m1 != m2
              · go_wp2
                go_quiet (fail)
                go_wp2
                go_roundw
                case rel => exact ⟨k + 1, _, by omega, by go_num, rfl, by have h1 := hs.out; have h2 := st.out; unfold Hid; rw [h1, h2]; simp_all [teq]⟩
                case measure => simp [intOf]; omega
              · go_wp2
                go_quiet (fail)
                go_wp2
                go_ret
                refine ⟨?_, _, World.drewN_drewN _ _ _⟩
                rw [hs.out, st.out]
                simp_all [teq]
            · go_wp2
              go_quiet (fail)
              go_wp2
              go_ret
              refine ⟨?_, _, World.drewN_drewN _ _ _⟩
              rw [hs.out, st.out]
              simp_all [teq]
          · go_wp2
            go_quiet (fail)
            go_wp2
            go_roundw
            case rel => exact ⟨k + 1, _, by omega, by go_num, rfl, by have h1 := hs.out; have h2 := st.out; unfold Hid; rw [h1, h2]; simp_all [teq]⟩
            case measure => simp [intOf]; omega
      · go_wp2
        go_quiet (fail)
        go_wp2
        go_ret
        refine ⟨?_, _, World.drewN_drewN _ _ _⟩
        rw [hs.out, st.out]
        simp_all [teq]
    · go_wp2
      go_ret
      refine ⟨?_, _, rfl⟩
      rw [hs.out, List.drop_of_length_le (by have := hx.out; omega), List.drop_of_length_le (by have := hy.out; omega)]
      rfl

theorem same_differ (xs ys : List Tok) (loose : Bool) (n1 n2 c1 c2 : Nat) (a1 a2 : Option Addr) (w : World) (hn : n1 ≠ n2) :
    Calls Try.prog 16 #[.slice a1 n1 c1, .slice a2 n2 c2, .bool loose] w fun e w' => e = .returned (.bool false) ∧ ∃ k, w' = w.drewN k := by
  have h : ((n1 : Int) != (n2 : Int)) = true := by simp; omega
  go_enter Try.func16, Try.ntmps16
  go_wp2
  go_ret
  exact ⟨rfl, 0, rfl⟩

theorem same_any (xs ys : List Tok) (loose : Bool) (va vb : Value) (w : World) (ha : TokensAt w va xs) (hb : TokensAt w vb ys) :
    Calls Try.prog 16 #[va, vb, .bool loose] w fun e w' => e = .returned (.bool (sameB loose xs ys)) ∧ ∃ k, w' = w.drewN k := by
  obtain ⟨a1, c1, rfl, n1, _, _, f1⟩ := ha.form
  obtain ⟨a2, c2, rfl, n2, _, _, f2⟩ := hb.form
  by_cases hl : xs.length = ys.length
  · unfold maxLen at n1
    have F1 : Hid (∀ k t, xs[k]? = some t → ∃ b off, a1 = some ⟨b, off, none⟩ ∧ ∀ j, j < 4 → w.cell? ⟨b, off + k * 4 + j, none⟩ = (tokCells t)[j]?) := by
      intro k t h
      obtain ⟨b, off, e, _, _, g⟩ := f1 k t h
      exact ⟨b, off, e, g⟩
    have F2 : Hid (∀ k t, ys[k]? = some t → ∃ b off, a2 = some ⟨b, off, none⟩ ∧ ∀ j, j < 4 → w.cell? ⟨b, off + k * 4 + j, none⟩ = (tokCells t)[j]?) := by
      intro k t h
      obtain ⟨b, off, e, _, _, g⟩ := f2 k t h
      exact ⟨b, off, e, g⟩
    rw [← hl]
    exact same_core xs ys loose xs.length c1 c2 a1 a2 w rfl hl.symm (by omega) F1 F2
  · have hf : sameB loose xs ys = false := by
      cases h : sameB loose xs ys
      · rfl
      · exact absurd (sameB_length loose xs ys h) hl
    rw [hf]
    exact same_differ xs ys loose _ _ _ _ _ _ _ hl
end Go.Proofs.Ytahdmekakbagnaa
