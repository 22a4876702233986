/- Walks of the reference's tests on programs. -/
import Derived.Test.YtpnfdmajpkpjoaaDoorQLexP
import Derived.Test.YtpnfdmajpkpjoaaDoorQNameK
import Derived.Test.YtpnfdmajpkpjoaaDoorQGenP
import Derived.Deep.Light
set_option linter.unusedVariables false
set_option linter.unusedSimpArgs false
namespace Go.Proofs.YtpnfdmajpkpjoaaDoor
open Go.RowKit

theorem StrsAt.cell {w : World} {v : Value} {l : List Str} (h : StrsAt w v l) : ∃ a c, v = .slice a l.length c ∧ l.length ≤ maxLen ∧ ∀ k s, l[k]? = some s → ∃ b off, a = some ⟨b, off, none⟩ ∧ b < w.heap.size ∧ w.cell? ⟨b, off + k, none⟩ = some (sv s) := by
  obtain ⟨a, n, c, rfl, h1, h2, h3, h4, h5⟩ := SliceAt.form h
  simp at h1
  subst h1
  refine ⟨a, c, rfl, h2, fun k s hk => ?_⟩
  obtain ⟨hk2, rfl⟩ := List.getElem?_eq_some_iff.1 hk
  obtain ⟨b, off, rfl, hb, ht, hc⟩ := h5 (by omega)
  refine ⟨b, off, rfl, hb, ?_⟩
  rw [hc _ (by simpa using hk2)]
  simp [hk2]

theorem all_drop' {α : Type} (l : List α) (k : Nat) (c : α) (h : l[k]? = some c) (p : α → Bool) : (l.drop k).all p = (p c && (l.drop (k + 1)).all p) := by
  obtain ⟨h1, rfl⟩ := List.getElem?_eq_some_iff.1 h
  rw [List.drop_eq_getElem_cons h1, List.all_cons]

def BoolPost (b : Bool) (w : World) (e : Ending) (w' : World) : Prop := e = .returned (.bool b) ∧ Below w.heap.size w w'

theorem namesOK_any (l : List Str) (v : Value) (a b : Int) (w : World) (h : StrsAt w v l) :
    Calls Tryd.prog 84 #[v, .int .i64 a, .int .i64 b] w (BoolPost (namesB l a b) w) := by
  obtain ⟨sa, c, rfl, hn, hc⟩ := h.cell
  have HC := Lib.hid hc
  obtain ⟨n, hl⟩ : ∃ n, l.length = n := ⟨_, rfl⟩
  rw [hl] at hn ⊢
  have HL := Lib.hid hl
  clear hc h hl
  unfold maxLen at hn
  go_enter Tryd.func84, Tryd.ntmps84
  go_wp2
  go_loopw [7] (fun x wr => ∃ k : Nat, k ≤ n ∧ x = .int .i64 k ∧ Hid (Below w.heap.size w wr) ∧ Hid (l.all nameB = (l.drop k).all nameB)) (fun x _ => n - (intOf x).toNat)
  case atStart => exact ⟨0, Nat.zero_le _, rfl, Below.refl _ _, by unfold Hid; simp⟩
  case round =>
    obtain ⟨k, hk, rfl, HB, hs⟩ := hrel
    by_cases hlt : k < n
    · obtain ⟨t, ht⟩ : ∃ t, l[k]? = some t := ⟨_, List.getElem?_eq_getElem (show k < l.length by have := HL.out; omega)⟩
      obtain ⟨bb, off, rfl, hb, g⟩ := HC.out k t ht
      have g2 := (HB.out.cell (p := ⟨bb, off + k, none⟩) hb).trans g
      have st := Lib.hid (all_drop' l k t ht nameB)
      clear ht g hb
      have hR := Lib.hid (fun w => rname_any ⟨t.toArray⟩ w)
      cases e : nameB t
      · have E := Lib.hid e
        clear e
        go_wp2_with fail
        refine (hR.out _).mono ?_
        rintro e w2 ⟨rfl, hb2⟩
        rw [show nameB (ByteArray.mk t.toArray).data.toList = false from E.out]
        have HB2 := Lib.hid (HB.out.trans (hb2.mono HB.out.size))
        clear hb2
        go_wp2
        go_ret
        exact ⟨ret_bool (by unfold namesB; rw [hs.out, st.out, E.out]; rfl), HB2.out⟩
      · have E := Lib.hid e
        clear e
        go_wp2_with fail
        refine (hR.out _).mono ?_
        rintro e w2 ⟨rfl, hb2⟩
        rw [show nameB (ByteArray.mk t.toArray).data.toList = true from E.out]
        have HB2 := Lib.hid (HB.out.trans (hb2.mono HB.out.size))
        clear hb2
        go_wp2
        go_roundw
        case rel => exact ⟨k + 1, by omega, by go_num, HB2, by unfold Hid; rw [hs.out, st.out, E.out]; rfl⟩
        case measure => simp [intOf]; omega
    · have hall : Hid (namesB l a b = (decide (a ≤ (n : Int)) && decide ((n : Int) ≤ b))) := by
        unfold Hid namesB; rw [hs.out, List.drop_of_length_le (by have := HL.out; omega), HL.out]; rfl
      cases e : decide (a ≤ (n : Int))
      all_goals
        have E := Lib.hid e
        go_wp2
        go_ret
        exact ⟨ret_bool (by rw [hall.out, E.out]; rfl), HB.out⟩
end Go.Proofs.YtpnfdmajpkpjoaaDoor

/- Programs in memory: the cells of functions, blocks, statements. No walk. -/
namespace Go.Proofs.YtpnfdmajpkpjoaaDoor
open Go.RowKit

theorem All2.each {α β : Type} {R : α → β → Prop} {p : α → Prop} (hp : ∀ a b, R a b → p a) : ∀ {xs : List α} {ys : List β}, All2 R xs ys → ∀ x ∈ xs, p x
  | [], [], _ => by simp
  | a :: xs, b :: ys, ⟨h1, h2⟩ => by
    intro x hx
    rcases List.mem_cons.1 hx with rfl | hx
    · exact hp _ _ h1
    · exact All2.each hp h2 x hx
theorem All2.sat {α β : Type} {R : α → β → Prop} {xs : List α} {ys : List β} (h : All2 R xs ys) {k : Nat} {b : β} (hb : ys[k]? = some b) : ∃ a, xs[k]? = some a ∧ R a b := by
  obtain ⟨h1, rfl⟩ := List.getElem?_eq_some_iff.1 hb
  have h2 : k < xs.length := by rw [h.length]; exact h1
  exact ⟨xs[k], by simp [h2], h.get k h2 h1⟩

/-- A slice of structs: its rows. -/
theorem rows_cell {w : World} {T : TypeId} {sz : Nat} {v : Value} {xss : List (List Value)} (h : SliceAt w T sz v xss.flatten) (hl : ∀ x ∈ xss, x.length = sz) (hs : 0 < sz) :
    ∃ a c, v = .slice a xss.length c ∧ xss.length ≤ maxLen ∧ ∀ k x, xss[k]? = some x → ∃ b off, a = some ⟨b, off, none⟩ ∧ b < w.heap.size ∧ ∀ j, j < sz → w.cell? ⟨b, off + k * sz + j, none⟩ = x[j]? := by
  obtain ⟨a, n, c, rfl, h1, h2, h3, h4, h5⟩ := SliceAt.form h
  rw [flatten_len sz xss hl] at h1
  have hn : n = xss.length := (Nat.eq_of_mul_eq_mul_right hs h1).symm
  subst hn
  refine ⟨a, c, rfl, h2, fun k x hk => ?_⟩
  obtain ⟨hk2, rfl⟩ := List.getElem?_eq_some_iff.1 hk
  obtain ⟨b, off, rfl, hb, ht, hc⟩ := h5 (by omega)
  refine ⟨b, off, rfl, hb, fun j hj => ?_⟩
  have hlt : k * sz + j < xss.flatten.length := by
    rw [flatten_len sz xss hl]
    have : (k + 1) * sz ≤ xss.length * sz := Nat.mul_le_mul_right sz hk2
    rw [Nat.succ_mul] at this
    omega
  rw [Nat.add_assoc, hc _ hlt, flatten_get sz xss hl k j hk2 hj]

theorem FuncsAt.cell {w : World} {v : Value} {l : List PFunc} (h : FuncsAt w v l) : ∃ a c, v = .slice a l.length c ∧ l.length ≤ maxLen ∧ ∀ k f, l[k]? = some f → ∃ b off bv, a = some ⟨b, off, none⟩ ∧ b < w.heap.size ∧
    w.cell? ⟨b, off + k * 2, none⟩ = some (sv f.name) ∧ w.cell? ⟨b, off + k * 2 + 1, none⟩ = some bv ∧ BlocksAt w bv f.blocks := by
  obtain ⟨xss, h1, h2⟩ := h
  obtain ⟨a, c, e, hm, hc⟩ := rows_cell h1 (h2.each fun x f ⟨v, e, _⟩ => by rw [e]; rfl) (by omega)
  rw [h2.length] at e hm
  refine ⟨a, c, e, hm, fun k f hk => ?_⟩
  obtain ⟨x, hx, bv, rfl, hb⟩ := h2.sat hk
  obtain ⟨b, off, rfl, hlt, hc2⟩ := hc k _ hx
  exact ⟨b, off, bv, rfl, hlt, hc2 0 (by omega), hc2 1 (by omega), hb⟩
theorem BlocksAt.cell {w : World} {v : Value} {l : List PBlock} (h : BlocksAt w v l) : ∃ a c, v = .slice a l.length c ∧ l.length ≤ maxLen ∧ ∀ k f, l[k]? = some f → ∃ b off bv, a = some ⟨b, off, none⟩ ∧ b < w.heap.size ∧
    w.cell? ⟨b, off + k * 2, none⟩ = some (sv f.name) ∧ w.cell? ⟨b, off + k * 2 + 1, none⟩ = some bv ∧ StmtsAt w bv f.stmts := by
  obtain ⟨xss, h1, h2⟩ := h
  obtain ⟨a, c, e, hm, hc⟩ := rows_cell h1 (h2.each fun x f ⟨v, e, _⟩ => by rw [e]; rfl) (by omega)
  rw [h2.length] at e hm
  refine ⟨a, c, e, hm, fun k f hk => ?_⟩
  obtain ⟨x, hx, bv, rfl, hb⟩ := h2.sat hk
  obtain ⟨b, off, rfl, hlt, hc2⟩ := hc k _ hx
  exact ⟨b, off, bv, rfl, hlt, hc2 0 (by omega), hc2 1 (by omega), hb⟩
theorem StmtsAt.cell {w : World} {v : Value} {l : List PStmt} (h : StmtsAt w v l) : ∃ a c, v = .slice a l.length c ∧ l.length ≤ maxLen ∧ ∀ k s, l[k]? = some s → ∃ b off u t, a = some ⟨b, off, none⟩ ∧ b < w.heap.size ∧
    w.cell? ⟨b, off + k * 4, none⟩ = some (.int .i64 s.op) ∧ w.cell? ⟨b, off + k * 4 + 1, none⟩ = some (sv s.dfn) ∧ w.cell? ⟨b, off + k * 4 + 2, none⟩ = some u ∧ w.cell? ⟨b, off + k * 4 + 3, none⟩ = some t ∧ StrsAt w u s.uses ∧ StrsAt w t s.targets := by
  obtain ⟨xss, h1, h2⟩ := h
  obtain ⟨a, c, e, hm, hc⟩ := rows_cell h1 (h2.each fun x f ⟨u, t, e, _⟩ => by rw [e]; rfl) (by omega)
  rw [h2.length] at e hm
  refine ⟨a, c, e, hm, fun k f hk => ?_⟩
  obtain ⟨x, hx, u, t, rfl, hu, ht⟩ := h2.sat hk
  obtain ⟨b, off, rfl, hlt, hc2⟩ := hc k _ hx
  exact ⟨b, off, u, t, rfl, hlt, hc2 0 (by omega), hc2 1 (by omega), hc2 2 (by omega), hc2 3 (by omega), hu, ht⟩
end Go.Proofs.YtpnfdmajpkpjoaaDoor

/- Walk of the reference's test on a statement. -/
namespace Go.Proofs.YtpnfdmajpkpjoaaDoor
open Go.RowKit

theorem stmtOK_any (s : PStmt) (u t : Value) (w : World) (hu : StrsAt w u s.uses) (ht : StrsAt w t s.targets) :
    Calls Tryd.prog 67 #[.agg #[.int .i64 s.op, sv s.dfn, u, t]] w (BoolPost (stmtB s) w) := by
  obtain ⟨op, dfn, uses, targets⟩ := s
  obtain ⟨ua, uc, hu1, hu2, _⟩ := StrsAt.cell hu
  obtain ⟨ta, tc, ht1, ht2, _⟩ := StrsAt.cell ht
  simp only at hu1 hu2 ht1 ht2 hu ht
  subst hu1 ht1
  unfold maxLen at hu2 ht2
  obtain ⟨un, hun⟩ : ∃ n, uses.length = n := ⟨_, rfl⟩
  obtain ⟨tn, htn⟩ : ∃ n, targets.length = n := ⟨_, rfl⟩
  rw [hun] at hu hu2
  rw [htn] at ht ht2
  obtain ⟨d, hd⟩ : ∃ d, nameB dfn = d := ⟨_, rfl⟩
  obtain ⟨b1, hb1⟩ : ∃ b, namesB uses 0 4 = b := ⟨_, rfl⟩
  obtain ⟨b2, hb2⟩ : ∃ b, namesB targets 0 2 = b := ⟨_, rfl⟩
  have hS : stmtB ⟨op, dfn, uses, targets⟩ = (b1 && (b2 && opB op d dfn.isEmpty un tn)) := by unfold stmtB; rw [hb1, hb2, hd, hun, htn]
  rw [hS]
  simp only [hun, htn]
  have HU := Lib.hid hu
  have HT := Lib.hid ht
  have hR := Lib.hid (fun w => hd ▸ rname_any ⟨dfn.toArray⟩ w)
  have hN1 := Lib.hid (fun w h => hb1 ▸ namesOK_any uses (.slice ua un uc) 0 4 w h)
  have hN2 := Lib.hid (fun w h => hb2 ▸ namesOK_any targets (.slice ta tn tc) 0 2 w h)
  clear hd hb1 hb2 hS hun htn hu ht
  go_enter Tryd.func67, Tryd.ntmps67
  go_wp2_with fail
  refine (hR.out _).mono ?_
  rintro e w1 ⟨rfl, hb1⟩
  have k0 : w1.cell? ⟨w.heap.size, 0, none⟩ = some (.int .i64 op) := (hb1.cell (p := ⟨w.heap.size, 0, none⟩) (by simp)).trans (World.cell?_alloc_new _ _ _ _)
  have k1 : w1.cell? ⟨w.heap.size, 1, none⟩ = some (sv dfn) := (hb1.cell (p := ⟨w.heap.size, 1, none⟩) (by simp)).trans (World.cell?_alloc_new _ _ _ _)
  have k2 : w1.cell? ⟨w.heap.size, 2, none⟩ = some (.slice ua un uc) := (hb1.cell (p := ⟨w.heap.size, 2, none⟩) (by simp)).trans (World.cell?_alloc_new _ _ _ _)
  have k3 : w1.cell? ⟨w.heap.size, 3, none⟩ = some (.slice ta tn tc) := (hb1.cell (p := ⟨w.heap.size, 3, none⟩) (by simp)).trans (World.cell?_alloc_new _ _ _ _)
  have hz := hb1.size
  simp at hz
  have B1 := Lib.hid (((Below.refl w.heap.size w).alloc (Nat.le_refl _) _).trans (hb1.mono (by simp)))
  clear hb1
  go_wp2
  go_quiet (fail)
  have HU2 := Lib.hid (SliceAt.same (SliceAt.same HU.out (SameT.below B1.out)) (SameT.drewN (n := nq)))
  have HT2 := Lib.hid (SliceAt.same (SliceAt.same HT.out (SameT.below B1.out)) (SameT.drewN (n := nq)))
  clear HU HT
  go_wp2_with fail
  refine (hN1.out _ HU2.out).mono ?_
  rintro e w2 ⟨rfl, hb2⟩
  have j0 := (hb2.cell (p := ⟨w.heap.size, 0, none⟩) hz).trans k0
  have j1 := (hb2.cell (p := ⟨w.heap.size, 1, none⟩) hz).trans k1
  have j3 := (hb2.cell (p := ⟨w.heap.size, 3, none⟩) hz).trans k3
  have B2 := Lib.hid ((show Below w.heap.size w (w1.drewN nq) from below_drewN B1.out nq).trans (hb2.mono (show w.heap.size ≤ (w1.drewN nq).heap.size by show _ ≤ w1.heap.size; omega)))
  have HT3 := Lib.hid (SliceAt.same HT2.out (SameT.below hb2))
  have hz2 := hb2.size
  have hz3 : w1.heap.size ≤ w2.heap.size := hz2
  clear k0 k1 k2 k3 HT2 HU2 hb2 hz2
  cases b1
  · go_wp2
    go_ret
    exact ⟨rfl, B2.out⟩
  go_wp2_with fail
  refine (hN2.out _ HT3.out).mono ?_
  rintro e w3 ⟨rfl, hb3⟩
  have k0 := (hb3.cell (p := ⟨w.heap.size, 0, none⟩) (by show w.heap.size < _; omega)).trans j0
  have k1 := (hb3.cell (p := ⟨w.heap.size, 1, none⟩) (by show w.heap.size < _; omega)).trans j1
  have B3 := Lib.hid (B2.out.trans (hb3.mono (show w.heap.size ≤ w2.heap.size by omega)))
  clear j0 j1 j3 HT3 hb3 hN1 hN2 hR
  cases b2
  · go_wp2
    go_ret
    exact ⟨rfl, B3.out⟩
  clear hz hz3 B1 B2
  go_wp2
  all_goals
    go_ret
    refine ⟨ret_bool ?_, B3.out⟩
    go_light
    simp_all [opB]
    all_goals (first | done | omega | (rw [Bool.eq_iff_iff]; simp; omega) | (rw [Bool.eq_iff_iff]; simp))
end Go.Proofs.YtpnfdmajpkpjoaaDoor

