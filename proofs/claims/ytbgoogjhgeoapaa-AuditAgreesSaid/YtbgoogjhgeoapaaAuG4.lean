/- Walks: flqref19.over. Printed by wip/gen_aug4.py. -/
import Derived.Test.YtbgoogjhgeoapaaAuG3
import Derived.Test.YtbgoogjhgeoapaaTape
import Derived.Test.YtbgoogjhgeoapaaHold3
import Derived.BigQuiet
import Derived.Deep.Cut
import Derived.Deep.QuietTactic
set_option linter.unusedVariables false
set_option linter.unusedSimpArgs false
set_option linter.unusedSectionVars false
namespace Go.Proofs.Ytbgoogjhgeoapaa
open Go.RowKit
variable [Base]

/-- A store into a row of the call's own. -/
theorem own_set {w : World} {base : Nat} {e : TypeId} {size g n c : Nat} {xs : List Value} (h : w.ownsRow base e size (.slice (some ⟨g, 0, none⟩) n c) n xs) {j : Nat} (u : Value) : (w.setCell ⟨g, j, none⟩ u).ownsRow base e size (.slice (some ⟨g, 0, none⟩) n c) n (xs.set j u) := by
  obtain ⟨h1, h2⟩ := h
  refine ⟨by rw [List.length_set]; exact h1, ?_⟩
  rcases h2 with ⟨h2, _⟩ | ⟨g', cap, cur, e1, e2, e3, e4, e5, e6, e7⟩
  · cases h2
  · injection e1 with e1 _ e8
    injection e1 with e1
    injection e1 with e1 _
    subst e1 e8
    refine .inr ⟨g, c, cur.setIfInBounds j u, rfl, e2, set_cells e3, e4, e5, by simpa using e6, ?_⟩
    rw [Array.toList_setIfInBounds, List.take_set, e7]
theorem own_but {w w' : World} {base : Nat} {e : TypeId} {size : Nat} {v : Value} {n : Nat} {xs : List Value} {p : Nat} (h : w.ownsRow base e size v n xs) (hb : But p w w') (hne : v.ownBlock ≠ some p) : w'.ownsRow base e size v n xs := by
  obtain ⟨h1, h2⟩ := h
  refine ⟨h1, ?_⟩
  rcases h2 with h2 | ⟨g, cap, cur, e1, e2, e3, e4⟩
  · exact .inl h2
  · refine .inr ⟨g, cap, cur, e1, e2, (hb.block g (lt_heap e3) fun hh => hne (by rw [e1, hh]; rfl)).trans e3, e4⟩
theorem seatsX_at {l : List SV} {k j : Nat} {x : SV} (h : l[k]? = some x) (hj : j < 4) : (seatsX l)[k * 4 + j]? = (seatC x)[j]? := by
  obtain ⟨h1, rfl⟩ := List.getElem?_eq_some_iff.1 h
  rw [flatten_get 4 _ (seatC_len l) k j (by simpa using h1) hj]
  simp
/-- What lies in an owned row of seats. -/
theorem OwnS.form {B : Nat} {w : World} {g n c : Nat} {l : List SV} (h : OwnS B w (.slice (some ⟨g, 0, none⟩) n c) l) : l.length = n ∧ B ≤ g ∧ g < w.heap.size ∧ n ≤ c ∧ c ≤ maxLen ∧ (∀ o, w.frozen? ⟨g, o, none⟩ = false) ∧ ∀ k x, l[k]? = some x → ∀ j, j < 4 → w.cell? ⟨g, k * 4 + j, none⟩ = (seatC x)[j]? := by
  obtain ⟨h1, h2⟩ := h
  rcases h2 with ⟨h2, _⟩ | ⟨g', cap, cur, e1, e2, e3, e4, e5, e6, e7⟩
  · cases h2
  · injection e1 with e1 e9 e8
    injection e1 with e1
    injection e1 with e1 _
    subst e1 e8
    refine ⟨e9.symm, e2, lt_heap e3, by omega, e5, (lies_cells e3).2, fun k x hk j hj => ?_⟩
    rw [(lies_cells e3).1, ← seatsX_at hk hj, ← e7, List.getElem?_take_of_lt (by have := (List.getElem?_eq_some_iff.1 hk).1; omega), Array.getElem?_toList]
theorem seatsX_set {s' : SV} : ∀ (l : List SV) (k j : Nat) (s : SV) (u : Value), l[k]? = some s → (seatC s).set j u = seatC s' → (j < 4) → (seatsX l).set (k * 4 + j) u = seatsX (l.set k s')
  | [], _, _, _, _, h, _, _ => by simp at h
  | t :: l, 0, j, s, u, h, e, hj => by
    simp at h
    subst h
    simp only [seatsX, List.map_cons, List.flatten_cons, List.set_cons_zero, Nat.zero_mul, Nat.zero_add]
    rw [List.set_append_left _ _ (by simpa [seatC] using hj), e]
  | t :: l, k + 1, j, s, u, h, e, hj => by
    have ih := seatsX_set (s' := s') l k j s u (by simpa using h) e hj
    simp only [seatsX, List.map_cons, List.flatten_cons, List.set_cons_succ] at ih ⊢
    rw [show (k + 1) * 4 + j = (seatC t).length + (k * 4 + j) by simp [seatC]; omega, List.set_append_right _ _ (by omega), Nat.add_sub_cancel_left, ih]
def overS (s : SV) : SV := ⟨s.id, s.pri, addS s.age 1, s.df⟩
def overR (r : RV) (s : SV) : RV := ⟨r.ba, r.pe, r.ss.set r.at_ (overS s), if r.at_ + 1 = r.ss.length then 0 else r.at_ + 1, false⟩
theorem radd_eq {a b r : Int} (h : addS a b = r) (w : World) : Calls Try.prog 42 #[iv a, iv b] w fun e w' => e = .returned (iv r) ∧ w' = w := h ▸ radd_any a b w
/-- The answer's block, behind over. -/
theorem over_out {w v F : World} {g rb : Nat} {s z0 z1 z2 z3 z4 y0 y1 y2 y3 y4 u u' : Value} {l : List SV} {B n c j : Nat} {X : Value} (hz : w.heap[rb + 1]? = some (.cells #[z0, z1, z2, z3, z4] 44 (0, 0))) {a : World} (hb : But g a w) (hrb : a.heap.size = rb) (hg : g < rb)
    (ho : w.ownsRow B 49 4 (.slice (some ⟨g, 0, none⟩) n c) n (seatsX l)) {l' : List SV} (hl : (seatsX l).set j X = seatsX l') (hv : v = (w.setCell ⟨g, j, none⟩ X).setCell ⟨rb, 3, none⟩ u ∨ v = ((w.setCell ⟨g, j, none⟩ X).setCell ⟨rb, 3, none⟩ u').setCell ⟨rb, 3, none⟩ u)
    (hF : F = (((((v.setCell ⟨rb, 4, none⟩ (.bool false)).setCell ⟨rb + 1, 0, none⟩ y0).setCell ⟨rb + 1, 1, none⟩ y1).setCell ⟨rb + 1, 2, none⟩ y2).setCell ⟨rb + 1, 3, none⟩ y3).setCell ⟨rb + 1, 4, none⟩ y4) :
    F.heap[rb + 1]? = some (.cells #[y0, y1, y2, y3, y4] 44 (0, 0)) ∧ F.ownsRow B 49 4 (.slice (some ⟨g, 0, none⟩) n c) n (seatsX l') ∧ But g a F := by
  have hk : v.heap[rb + 1]? = some (.cells #[z0, z1, z2, z3, z4] 44 (0, 0)) ∧ v.ownsRow B 49 4 (.slice (some ⟨g, 0, none⟩) n c) n (seatsX l') ∧ But g a v := by
    have h1 : (w.setCell ⟨g, j, none⟩ X).heap[rb + 1]? = some (.cells #[z0, z1, z2, z3, z4] 44 (0, 0)) := by rw [Below.heap_setCell _ _ _ _ (by show rb + 1 ≠ g; omega)]; exact hz
    have h2 := own_set ho (j := j) X
    rw [hl] at h2
    have h3 := hb.setCell ⟨g, j, none⟩ (.inl rfl) X
    have st : ∀ {x : World} (u : Value), x.heap[rb + 1]? = some (.cells #[z0, z1, z2, z3, z4] 44 (0, 0)) ∧ x.ownsRow B 49 4 (.slice (some ⟨g, 0, none⟩) n c) n (seatsX l') ∧ But g a x → (x.setCell ⟨rb, 3, none⟩ u).heap[rb + 1]? = some (.cells #[z0, z1, z2, z3, z4] 44 (0, 0)) ∧ (x.setCell ⟨rb, 3, none⟩ u).ownsRow B 49 4 (.slice (some ⟨g, 0, none⟩) n c) n (seatsX l') ∧ But g a (x.setCell ⟨rb, 3, none⟩ u) := fun u h =>
      ⟨by rw [Below.heap_setCell _ _ _ _ (by show rb + 1 ≠ rb; omega)]; exact h.1, ownsRow_setCell_other h.2.1 (a := ⟨rb, 3, none⟩) (by simp [Value.ownBlock]; omega) _, h.2.2.setCell _ (.inr (by show _ ≤ rb; omega)) _⟩
    rcases hv with rfl | rfl
    · exact st _ ⟨h1, h2, h3⟩
    · exact st _ (st _ ⟨h1, h2, h3⟩)
  clear hv
  subst hF
  obtain ⟨k1, k2, k3⟩ := hk
  have e0 : (v.setCell ⟨rb, 4, none⟩ (.bool false)).heap[rb + 1]? = some (.cells #[z0, z1, z2, z3, z4] 44 (0, 0)) := by rw [Below.heap_setCell _ _ _ _ (by show rb + 1 ≠ rb; omega)]; exact k1
  have e1 := set_cells (o := 4) (u := y4) (set_cells (o := 3) (u := y3) (set_cells (o := 2) (u := y2) (set_cells (o := 1) (u := y1) (set_cells (o := 0) (u := y0) e0))))
  simp only [List.setIfInBounds_toArray, List.set_cons_zero, List.set_cons_succ] at e1
  have st : ∀ {x : World} (b o : Nat) (u : Value), rb ≤ b → x.ownsRow B 49 4 (.slice (some ⟨g, 0, none⟩) n c) n (seatsX l') ∧ But g a x → (x.setCell ⟨b, o, none⟩ u).ownsRow B 49 4 (.slice (some ⟨g, 0, none⟩) n c) n (seatsX l') ∧ But g a (x.setCell ⟨b, o, none⟩ u) := fun b o u hb h =>
    ⟨ownsRow_setCell_other h.1 (a := ⟨b, o, none⟩) (by simp [Value.ownBlock]; omega) _, h.2.setCell _ (.inr (by show _ ≤ b; omega)) _⟩
  exact ⟨e1, st _ _ _ (by omega) (st _ _ _ (by omega) (st _ _ _ (by omega) (st _ _ _ (by omega) (st _ _ _ (by omega) (st _ _ _ (Nat.le_refl _) ⟨k2, k3⟩)))))⟩
/-- The answer of over. -/
def OverQ (B : Nat) (r : RV) (v : Value) (g : Nat) (w : World) (e : Ending) (w' : World) : Prop := e = .returned (ringV r v) ∧ OwnS B w' v r.ss ∧ But g w w'
set_option maxRecDepth 100000 in
set_option maxHeartbeats 4000000 in
theorem over_step {B : Nat} (r : RV) (s : SV) (w : World) (g n c at0 : Nat) (op0 : Bool) (hop : r.op = op0) (hat : r.at_ = at0) (hown : OwnS B w (.slice (some ⟨g, 0, none⟩) n c) r.ss) (hs : r.ss[r.at_]? = some s) (hn : n ≤ 16) (hw : at0 + 1 < n) :
    Calls Try.prog 32 #[ringV r (.slice (some ⟨g, 0, none⟩) n c)] w (OverQ B (overR r s) (.slice (some ⟨g, 0, none⟩) n c) g w) := by
  obtain ⟨hl, hBg, hg, -, -, hfz, hcs⟩ := hown.form
  obtain ⟨W, hW⟩ : ∃ W, (w.alloc (.cells #[iv r.ba, iv r.pe, (.slice (some ⟨g, 0, none⟩) n c), iv at0, .bool op0] 44)).alloc (.cells #[iv 0, iv 0, .slice none 0 0, iv 0, .bool false] 44) = W := ⟨_, rfl⟩
  obtain ⟨rb, hrb⟩ : ∃ b, w.heap.size = b := ⟨_, rfl⟩
  have HB := Lib.hid (show W.heap[rb]? = some (.cells #[iv r.ba, iv r.pe, (.slice (some ⟨g, 0, none⟩) n c), iv at0, .bool op0] 44 (0, 0)) by rw [← hW, ← hrb]; exact lies_alloc _ (heap_alloc_new _ _))
  have HZ := Lib.hid (show W.heap[rb + 1]? = some (.cells #[iv 0, iv 0, .slice none 0 0, iv 0, .bool false] 44 (0, 0)) by rw [← hW, ← hrb]; exact lies_new2 _ _)
  have BW := Lib.hid (show Below w.heap.size w W by rw [← hW]; exact ((Below.refl _ _).alloc (Nat.le_refl _) _).alloc (by simp) _)
  have HRV : ringV r (.slice (some ⟨g, 0, none⟩) n c) = .agg #[iv r.ba, iv r.pe, (.slice (some ⟨g, 0, none⟩) n c), iv at0, .bool op0] := by unfold ringV; rw [hop, hat]
  rw [HRV]
  rw [hat] at hs
  have q1 : W.cell? ⟨g, at0 * 4 + 2, none⟩ = some (iv s.age) := (World.cell?_of_block (BW.out.block g hg)).trans (hcs at0 s hs 2 (by omega))
  have q2 : W.frozen? ⟨g, at0 * 4 + 2, none⟩ = false := (World.frozen?_of_block (BW.out.block g hg)).trans (hfz _)
  have HOWN := Lib.hid (show W.ownsRow B 49 4 (.slice (some ⟨g, 0, none⟩) n c) n (seatsX r.ss) by have := own_below hown BW.out; rwa [hl] at this)
  have HSX := Lib.hid (show (seatsX r.ss).set (at0 * 4 + 2) (iv (addS s.age 1)) = seatsX (overR r s).ss from by
    have := seatsX_set (s' := overS s) r.ss at0 2 s (iv (addS s.age 1)) hs rfl (by omega)
    rw [this]; unfold overR; rw [hat])
  have HOV := Lib.hid (show ringV (overR r s) (.slice (some ⟨g, 0, none⟩) n c) = .agg #[iv r.ba, iv r.pe, (.slice (some ⟨g, 0, none⟩) n c), iv (at0 + 1 : Nat), .bool false] by
    unfold overR ringV
    simp only []
    rw [hat, hl, if_neg (by omega)])
  have HOL := Lib.hid (show (overR r s).ss.length = n by unfold overR; simp only [List.length_set]; exact hl)
  have hlt : at0 < n := by have := (List.getElem?_eq_some_iff.1 hs).1; omega
  have HW := Lib.hid hW
  have HRB := Lib.hid hrb
  have HG := Lib.hid (show g < rb by omega)
  have hgr : g ≠ rb := by omega
  have hgr2 : g ≠ rb + 1 := by omega
  have hud : ∀ b : Bool, (undef = Value.bool b) = False := fun b => by simp [undef]
  have hwr : wrap64 ((at0 : Int) + 1) = (at0 : Int) + 1 := IntWalk.wrap64_in _ (by omega)
  have i1 : (0 : Int) ≤ (at0 : Int) := Int.natCast_nonneg _
  have i2 : (at0 : Int) < (n : Int) := Int.ofNat_lt.2 hlt
  have hnx : (((at0 : Int) + 1) == (n : Int)) = false := by simp; omega
  obtain ⟨ag, hag⟩ : ∃ a, addS s.age 1 = a := ⟨_, rfl⟩
  rw [hag] at HSX
  have HAG := Lib.hid hag
  clear hown hs hop hat HRV hW hBg hl hcs hfz hg hag hw
  go_enter Try.func32, Try.ntmps32
  go_upto_region 1 with (fail)
  rw [show (w.alloc (.cells #[iv r.ba, iv r.pe, (.slice (some ⟨g, 0, none⟩) n c), iv at0, .bool op0] 44)).alloc (.cells #[iv 0, iv 0, .slice none 0 0, iv 0, .bool false] 44) = W from HW.out]
  try rw [HRB.out]
  obtain ⟨x0, x1, x2, x3, x4⟩ := cells5 HB.out
  clear hrb
  refine wp_region_D (S := fun w' => w'.cell? ⟨rb, 2, none⟩ = some (.slice (some ⟨g, 0, none⟩) n c) ∧ w'.cell? ⟨rb, 3, none⟩ = some (iv at0) ∧ w'.cell? ⟨g, at0 * 4 + 2, none⟩ = some (iv s.age) ∧ w'.frozen? ⟨g, at0 * 4 + 2, none⟩ = false) (st := 14) (by kernel_rfl) ?_
  have hS0 : (fun w' : World => w'.cell? ⟨rb, 2, none⟩ = some (.slice (some ⟨g, 0, none⟩) n c) ∧ w'.cell? ⟨rb, 3, none⟩ = some (iv at0) ∧ w'.cell? ⟨g, at0 * 4 + 2, none⟩ = some (iv s.age) ∧ w'.frozen? ⟨g, at0 * 4 + 2, none⟩ = false) _ := ⟨x2, x3, q1, q2⟩
  refine wpAnyT_pureD 0 (some 3) ?v1 rfl (by kernel_rfl) (by kernel_rfl) (by kernel_rfl) (by kernel_rfl) (fun _ _ _ h => h) hS0 (by kernel_rfl) rfl ?run1 ?rest1
  case run1 => intro w hS; obtain ⟨s0, s1, s2, s3⟩ := hS; go_simp; rfl
  refine wpAnyT_pureD 1 (some 4) ?v2 rfl (by kernel_rfl) (by kernel_rfl) (by kernel_rfl) (by kernel_rfl) (fun _ _ _ h => h) hS0 (by kernel_rfl) rfl ?run2 ?rest2
  case run2 => intro w hS; obtain ⟨s0, s1, s2, s3⟩ := hS; go_simp; rfl
  refine wpAnyT_pureD 2 (some 5) ?v3 rfl (by kernel_rfl) (by kernel_rfl) (by kernel_rfl) (by kernel_rfl) (fun _ _ _ h => h) hS0 (by kernel_rfl) rfl ?run3 ?rest3
  case run3 => intro w hS; obtain ⟨s0, s1, s2, s3⟩ := hS; go_simp; rfl
  refine wpAnyT_pureD 3 (some 6) ?v4 rfl (by kernel_rfl) (by kernel_rfl) (by kernel_rfl) (by kernel_rfl) (fun _ _ _ h => h) hS0 (by kernel_rfl) rfl ?run4 ?rest4
  case run4 => intro w hS; obtain ⟨s0, s1, s2, s3⟩ := hS; go_simp; rfl
  refine wpAnyT_pureD 4 (some 7) ?v5 rfl (by kernel_rfl) (by kernel_rfl) (by kernel_rfl) (by kernel_rfl) (fun _ _ _ h => h) hS0 (by kernel_rfl) rfl ?run5 ?rest5
  case run5 => intro w hS; obtain ⟨s0, s1, s2, s3⟩ := hS; go_simp; rfl
  refine wpAnyT_pureD 5 (some 8) ?v6 rfl (by kernel_rfl) (by kernel_rfl) (by kernel_rfl) (by kernel_rfl) (fun _ _ _ h => h) hS0 (by kernel_rfl) rfl ?run6 ?rest6
  case run6 => intro w hS; obtain ⟨s0, s1, s2, s3⟩ := hS; go_simp; rfl
  refine wpAnyT_pureD 6 (some 9) ?v7 rfl (by kernel_rfl) (by kernel_rfl) (by kernel_rfl) (by kernel_rfl) (fun _ _ _ h => h) hS0 (by kernel_rfl) rfl ?run7 ?rest7
  case run7 => intro w hS; obtain ⟨s0, s1, s2, s3⟩ := hS; go_simp; rfl
  refine wpAnyT_pureD 7 (some 10) ?v8 rfl (by kernel_rfl) (by kernel_rfl) (by kernel_rfl) (by kernel_rfl) (fun _ _ _ h => h) hS0 (by kernel_rfl) rfl ?run8 ?rest8
  case run8 => intro w hS; obtain ⟨s0, s1, s2, s3⟩ := hS; go_simp; rfl
  refine wpAnyT_pureD 8 (some 11) ?v9 rfl (by kernel_rfl) (by kernel_rfl) (by kernel_rfl) (by kernel_rfl) (fun _ _ _ h => h) hS0 (by kernel_rfl) rfl ?run9 ?rest9
  case run9 => intro w hS; obtain ⟨s0, s1, s2, s3⟩ := hS; go_simp; rfl
  refine wpAnyT_pureD 9 (some 12) ?v10 rfl (by kernel_rfl) (by kernel_rfl) (by kernel_rfl) (by kernel_rfl) (fun _ _ _ h => h) hS0 (by kernel_rfl) rfl ?run10 ?rest10
  case run10 => intro w hS; obtain ⟨s0, s1, s2, s3⟩ := hS; go_simp; rfl
  refine wpAnyT_pureD 10 (some 13) ?v11 rfl (by kernel_rfl) (by kernel_rfl) (by kernel_rfl) (by kernel_rfl) (fun _ _ _ h => h) hS0 (by kernel_rfl) rfl ?run11 ?rest11
  case run11 => intro w hS; obtain ⟨s0, s1, s2, s3⟩ := hS; go_simp; rfl
  refine wpAnyT_call 11 (some 14) 42 #[iv s.age, iv 1] rfl (by kernel_rfl) (by kernel_rfl) (by kernel_rfl) rfl ?_
  refine (radd_eq HAG.out _).mono ?_
  rintro e z1 ⟨rfl, rfl⟩
  refine ⟨_, rfl, fun _ => hS0, ?_⟩
  refine wpAnyT_pureC 12 (some 15) [13] ?v12 rfl (by kernel_rfl) (by kernel_rfl) (by kernel_rfl) (by kernel_rfl) (fun _ _ _ h => h) hS0 (by kernel_rfl) rfl ?run12 ?rest12
  case run12 => intro w hS; obtain ⟨s0, s1, s2, s3⟩ := hS; go_simp; rfl
  refine wpAnyT_pureD 13 (some 16) ?v13 rfl (by kernel_rfl) (by kernel_rfl) (by kernel_rfl) (by kernel_rfl) (fun _ _ _ h => h) hS0 (by kernel_rfl) rfl ?run13 ?rest13
  case run13 => intro w hS; obtain ⟨s0, s1, s2, s3⟩ := hS; go_simp; rfl
  obtain ⟨s0, s1, s2, s3⟩ := hS0
  refine wpAnyT_step 14 none ?ws14 rfl (by kernel_rfl) (by kernel_rfl) ?rs14 rfl (fun h => absurd rfl h) ?_
  case rs14 => go_simp; rfl
  refine wpAnyT_done (by kernel_rfl) ?_ _
  generalize hA : Act.put _ _ _ = A0
  simp only [put_mk, put_no, List.setIfInBounds_toArray, List.set_cons_succ, List.set_cons_zero] at hA
  subst hA
  have HBV := Lib.hid (show ((W.drewN 1).setCell ⟨g, at0 * 4 + 2, none⟩ (iv ag)).heap[rb]? = some (.cells #[iv r.ba, iv r.pe, (.slice (some ⟨g, 0, none⟩) n c), iv at0, .bool op0] 44 (0, 0)) by rw [Below.heap_setCell _ _ _ _ (by show rb ≠ g; omega)]; exact HB.out)
  have HZV := Lib.hid (show ((W.drewN 1).setCell ⟨g, at0 * 4 + 2, none⟩ (iv ag)).heap[rb + 1]? = some (.cells #[iv 0, iv 0, .slice none 0 0, iv 0, .bool false] 44 (0, 0)) by rw [Below.heap_setCell _ _ _ _ (by show rb + 1 ≠ g; omega)]; exact HZ.out)
  obtain ⟨V, hV⟩ : ∃ V, (W.drewN 1).setCell ⟨g, at0 * 4 + 2, none⟩ (iv ag) = V := ⟨_, rfl⟩
  rw [hV] at HBV HZV
  rw [hV]
  clear x0 x1 x2 x3 x4 q1 q2 s0 s1 s2 s3
  obtain ⟨x0, x1, x2, x3, x4⟩ := cells5 HBV.out
  obtain ⟨z0, z1, z2, z3, z4⟩ := cells5 HZV.out
  have fx := (lies_cells HBV.out).2
  have fz := (lies_cells HZV.out).2
  have hrz : rb ≠ rb + 1 := Nat.ne_of_lt (Nat.lt_succ_self rb)
  have HV := Lib.hid hV
  clear hV
  go_wp2
  show bodyPost _ _ _ _ _ ((((((((V).setCell ⟨rb, 3, none⟩ (iv (at0 + 1 : Nat))).setCell ⟨rb, 4, none⟩ (.bool false)).setCell ⟨rb + 1, 0, none⟩ (iv r.ba)).setCell ⟨rb + 1, 1, none⟩ (iv r.pe)).setCell ⟨rb + 1, 2, none⟩ (.slice (some ⟨g, 0, none⟩) n c)).setCell ⟨rb + 1, 3, none⟩ (iv (at0 + 1 : Nat))).setCell ⟨rb + 1, 4, none⟩ (.bool false))
  obtain ⟨F, hF⟩ : ∃ F, (((((((V).setCell ⟨rb, 3, none⟩ (iv (at0 + 1 : Nat))).setCell ⟨rb, 4, none⟩ (.bool false)).setCell ⟨rb + 1, 0, none⟩ (iv r.ba)).setCell ⟨rb + 1, 1, none⟩ (iv r.pe)).setCell ⟨rb + 1, 2, none⟩ (.slice (some ⟨g, 0, none⟩) n c)).setCell ⟨rb + 1, 3, none⟩ (iv (at0 + 1 : Nat))).setCell ⟨rb + 1, 4, none⟩ (.bool false) = F := ⟨_, rfl⟩
  rw [hF]
  have HF := Lib.hid (over_out (w := W.drewN 1) (s := iv 0) (u' := iv 0) (F := F) (l' := (overR r s).ss) HZ.out (a := w) (((But.refl g w).below BW.out).drewN 1) HRB.out HG.out HOWN.out HSX.out (.inl (by rw [← HV.out])) hF.symm)
  obtain ⟨f0, f1, f2, f3, f4⟩ := cells5 HF.out.1
  refine bodyPost_ret (v := ringV (overR r s) (.slice (some ⟨g, 0, none⟩) n c)) (by rw [HOV.out]; simp [results, Try.results32, go_sem, f0, f1, f2, f3, f4]) rfl ⟨rfl, ?_, HF.out.2.2⟩
  show World.ownsRow _ _ _ _ _ (overR r s).ss.length _
  rw [HOL.out]
  exact HF.out.2.1
set_option maxRecDepth 100000 in
set_option maxHeartbeats 4000000 in
theorem over_wrap {B : Nat} (r : RV) (s : SV) (w : World) (g n c at0 : Nat) (op0 : Bool) (hop : r.op = op0) (hat : r.at_ = at0) (hown : OwnS B w (.slice (some ⟨g, 0, none⟩) n c) r.ss) (hs : r.ss[r.at_]? = some s) (hn : n ≤ 16) (hw : at0 + 1 = n) :
    Calls Try.prog 32 #[ringV r (.slice (some ⟨g, 0, none⟩) n c)] w (OverQ B (overR r s) (.slice (some ⟨g, 0, none⟩) n c) g w) := by
  obtain ⟨hl, hBg, hg, -, -, hfz, hcs⟩ := hown.form
  obtain ⟨W, hW⟩ : ∃ W, (w.alloc (.cells #[iv r.ba, iv r.pe, (.slice (some ⟨g, 0, none⟩) n c), iv at0, .bool op0] 44)).alloc (.cells #[iv 0, iv 0, .slice none 0 0, iv 0, .bool false] 44) = W := ⟨_, rfl⟩
  obtain ⟨rb, hrb⟩ : ∃ b, w.heap.size = b := ⟨_, rfl⟩
  have HB := Lib.hid (show W.heap[rb]? = some (.cells #[iv r.ba, iv r.pe, (.slice (some ⟨g, 0, none⟩) n c), iv at0, .bool op0] 44 (0, 0)) by rw [← hW, ← hrb]; exact lies_alloc _ (heap_alloc_new _ _))
  have HZ := Lib.hid (show W.heap[rb + 1]? = some (.cells #[iv 0, iv 0, .slice none 0 0, iv 0, .bool false] 44 (0, 0)) by rw [← hW, ← hrb]; exact lies_new2 _ _)
  have BW := Lib.hid (show Below w.heap.size w W by rw [← hW]; exact ((Below.refl _ _).alloc (Nat.le_refl _) _).alloc (by simp) _)
  have HRV : ringV r (.slice (some ⟨g, 0, none⟩) n c) = .agg #[iv r.ba, iv r.pe, (.slice (some ⟨g, 0, none⟩) n c), iv at0, .bool op0] := by unfold ringV; rw [hop, hat]
  rw [HRV]
  rw [hat] at hs
  have q1 : W.cell? ⟨g, at0 * 4 + 2, none⟩ = some (iv s.age) := (World.cell?_of_block (BW.out.block g hg)).trans (hcs at0 s hs 2 (by omega))
  have q2 : W.frozen? ⟨g, at0 * 4 + 2, none⟩ = false := (World.frozen?_of_block (BW.out.block g hg)).trans (hfz _)
  have HOWN := Lib.hid (show W.ownsRow B 49 4 (.slice (some ⟨g, 0, none⟩) n c) n (seatsX r.ss) by have := own_below hown BW.out; rwa [hl] at this)
  have HSX := Lib.hid (show (seatsX r.ss).set (at0 * 4 + 2) (iv (addS s.age 1)) = seatsX (overR r s).ss from by
    have := seatsX_set (s' := overS s) r.ss at0 2 s (iv (addS s.age 1)) hs rfl (by omega)
    rw [this]; unfold overR; rw [hat])
  have HOV := Lib.hid (show ringV (overR r s) (.slice (some ⟨g, 0, none⟩) n c) = .agg #[iv r.ba, iv r.pe, (.slice (some ⟨g, 0, none⟩) n c), iv (0 : Nat), .bool false] by
    unfold overR ringV
    simp only []
    rw [hat, hl, if_pos hw])
  have HOL := Lib.hid (show (overR r s).ss.length = n by unfold overR; simp only [List.length_set]; exact hl)
  have hlt : at0 < n := by have := (List.getElem?_eq_some_iff.1 hs).1; omega
  have HW := Lib.hid hW
  have HRB := Lib.hid hrb
  have HG := Lib.hid (show g < rb by omega)
  have hgr : g ≠ rb := by omega
  have hgr2 : g ≠ rb + 1 := by omega
  have hud : ∀ b : Bool, (undef = Value.bool b) = False := fun b => by simp [undef]
  have hwr : wrap64 ((at0 : Int) + 1) = (at0 : Int) + 1 := IntWalk.wrap64_in _ (by omega)
  have i1 : (0 : Int) ≤ (at0 : Int) := Int.natCast_nonneg _
  have i2 : (at0 : Int) < (n : Int) := Int.ofNat_lt.2 hlt
  have hnx : (((at0 : Int) + 1) == (n : Int)) = true := by simp; omega
  obtain ⟨ag, hag⟩ : ∃ a, addS s.age 1 = a := ⟨_, rfl⟩
  rw [hag] at HSX
  have HAG := Lib.hid hag
  clear hown hs hop hat HRV hW hBg hl hcs hfz hg hag hw
  go_enter Try.func32, Try.ntmps32
  go_upto_region 1 with (fail)
  rw [show (w.alloc (.cells #[iv r.ba, iv r.pe, (.slice (some ⟨g, 0, none⟩) n c), iv at0, .bool op0] 44)).alloc (.cells #[iv 0, iv 0, .slice none 0 0, iv 0, .bool false] 44) = W from HW.out]
  try rw [HRB.out]
  obtain ⟨x0, x1, x2, x3, x4⟩ := cells5 HB.out
  clear hrb
  refine wp_region_D (S := fun w' => w'.cell? ⟨rb, 2, none⟩ = some (.slice (some ⟨g, 0, none⟩) n c) ∧ w'.cell? ⟨rb, 3, none⟩ = some (iv at0) ∧ w'.cell? ⟨g, at0 * 4 + 2, none⟩ = some (iv s.age) ∧ w'.frozen? ⟨g, at0 * 4 + 2, none⟩ = false) (st := 14) (by kernel_rfl) ?_
  have hS0 : (fun w' : World => w'.cell? ⟨rb, 2, none⟩ = some (.slice (some ⟨g, 0, none⟩) n c) ∧ w'.cell? ⟨rb, 3, none⟩ = some (iv at0) ∧ w'.cell? ⟨g, at0 * 4 + 2, none⟩ = some (iv s.age) ∧ w'.frozen? ⟨g, at0 * 4 + 2, none⟩ = false) _ := ⟨x2, x3, q1, q2⟩
  refine wpAnyT_pureD 0 (some 3) ?v15 rfl (by kernel_rfl) (by kernel_rfl) (by kernel_rfl) (by kernel_rfl) (fun _ _ _ h => h) hS0 (by kernel_rfl) rfl ?run15 ?rest15
  case run15 => intro w hS; obtain ⟨s0, s1, s2, s3⟩ := hS; go_simp; rfl
  refine wpAnyT_pureD 1 (some 4) ?v16 rfl (by kernel_rfl) (by kernel_rfl) (by kernel_rfl) (by kernel_rfl) (fun _ _ _ h => h) hS0 (by kernel_rfl) rfl ?run16 ?rest16
  case run16 => intro w hS; obtain ⟨s0, s1, s2, s3⟩ := hS; go_simp; rfl
  refine wpAnyT_pureD 2 (some 5) ?v17 rfl (by kernel_rfl) (by kernel_rfl) (by kernel_rfl) (by kernel_rfl) (fun _ _ _ h => h) hS0 (by kernel_rfl) rfl ?run17 ?rest17
  case run17 => intro w hS; obtain ⟨s0, s1, s2, s3⟩ := hS; go_simp; rfl
  refine wpAnyT_pureD 3 (some 6) ?v18 rfl (by kernel_rfl) (by kernel_rfl) (by kernel_rfl) (by kernel_rfl) (fun _ _ _ h => h) hS0 (by kernel_rfl) rfl ?run18 ?rest18
  case run18 => intro w hS; obtain ⟨s0, s1, s2, s3⟩ := hS; go_simp; rfl
  refine wpAnyT_pureD 4 (some 7) ?v19 rfl (by kernel_rfl) (by kernel_rfl) (by kernel_rfl) (by kernel_rfl) (fun _ _ _ h => h) hS0 (by kernel_rfl) rfl ?run19 ?rest19
  case run19 => intro w hS; obtain ⟨s0, s1, s2, s3⟩ := hS; go_simp; rfl
  refine wpAnyT_pureD 5 (some 8) ?v20 rfl (by kernel_rfl) (by kernel_rfl) (by kernel_rfl) (by kernel_rfl) (fun _ _ _ h => h) hS0 (by kernel_rfl) rfl ?run20 ?rest20
  case run20 => intro w hS; obtain ⟨s0, s1, s2, s3⟩ := hS; go_simp; rfl
  refine wpAnyT_pureD 6 (some 9) ?v21 rfl (by kernel_rfl) (by kernel_rfl) (by kernel_rfl) (by kernel_rfl) (fun _ _ _ h => h) hS0 (by kernel_rfl) rfl ?run21 ?rest21
  case run21 => intro w hS; obtain ⟨s0, s1, s2, s3⟩ := hS; go_simp; rfl
  refine wpAnyT_pureD 7 (some 10) ?v22 rfl (by kernel_rfl) (by kernel_rfl) (by kernel_rfl) (by kernel_rfl) (fun _ _ _ h => h) hS0 (by kernel_rfl) rfl ?run22 ?rest22
  case run22 => intro w hS; obtain ⟨s0, s1, s2, s3⟩ := hS; go_simp; rfl
  refine wpAnyT_pureD 8 (some 11) ?v23 rfl (by kernel_rfl) (by kernel_rfl) (by kernel_rfl) (by kernel_rfl) (fun _ _ _ h => h) hS0 (by kernel_rfl) rfl ?run23 ?rest23
  case run23 => intro w hS; obtain ⟨s0, s1, s2, s3⟩ := hS; go_simp; rfl
  refine wpAnyT_pureD 9 (some 12) ?v24 rfl (by kernel_rfl) (by kernel_rfl) (by kernel_rfl) (by kernel_rfl) (fun _ _ _ h => h) hS0 (by kernel_rfl) rfl ?run24 ?rest24
  case run24 => intro w hS; obtain ⟨s0, s1, s2, s3⟩ := hS; go_simp; rfl
  refine wpAnyT_pureD 10 (some 13) ?v25 rfl (by kernel_rfl) (by kernel_rfl) (by kernel_rfl) (by kernel_rfl) (fun _ _ _ h => h) hS0 (by kernel_rfl) rfl ?run25 ?rest25
  case run25 => intro w hS; obtain ⟨s0, s1, s2, s3⟩ := hS; go_simp; rfl
  refine wpAnyT_call 11 (some 14) 42 #[iv s.age, iv 1] rfl (by kernel_rfl) (by kernel_rfl) (by kernel_rfl) rfl ?_
  refine (radd_eq HAG.out _).mono ?_
  rintro e z1 ⟨rfl, rfl⟩
  refine ⟨_, rfl, fun _ => hS0, ?_⟩
  refine wpAnyT_pureC 12 (some 15) [13] ?v26 rfl (by kernel_rfl) (by kernel_rfl) (by kernel_rfl) (by kernel_rfl) (fun _ _ _ h => h) hS0 (by kernel_rfl) rfl ?run26 ?rest26
  case run26 => intro w hS; obtain ⟨s0, s1, s2, s3⟩ := hS; go_simp; rfl
  refine wpAnyT_pureD 13 (some 16) ?v27 rfl (by kernel_rfl) (by kernel_rfl) (by kernel_rfl) (by kernel_rfl) (fun _ _ _ h => h) hS0 (by kernel_rfl) rfl ?run27 ?rest27
  case run27 => intro w hS; obtain ⟨s0, s1, s2, s3⟩ := hS; go_simp; rfl
  obtain ⟨s0, s1, s2, s3⟩ := hS0
  refine wpAnyT_step 14 none ?ws28 rfl (by kernel_rfl) (by kernel_rfl) ?rs28 rfl (fun h => absurd rfl h) ?_
  case rs28 => go_simp; rfl
  refine wpAnyT_done (by kernel_rfl) ?_ _
  generalize hA : Act.put _ _ _ = A0
  simp only [put_mk, put_no, List.setIfInBounds_toArray, List.set_cons_succ, List.set_cons_zero] at hA
  subst hA
  have HBV := Lib.hid (show ((W.drewN 1).setCell ⟨g, at0 * 4 + 2, none⟩ (iv ag)).heap[rb]? = some (.cells #[iv r.ba, iv r.pe, (.slice (some ⟨g, 0, none⟩) n c), iv at0, .bool op0] 44 (0, 0)) by rw [Below.heap_setCell _ _ _ _ (by show rb ≠ g; omega)]; exact HB.out)
  have HZV := Lib.hid (show ((W.drewN 1).setCell ⟨g, at0 * 4 + 2, none⟩ (iv ag)).heap[rb + 1]? = some (.cells #[iv 0, iv 0, .slice none 0 0, iv 0, .bool false] 44 (0, 0)) by rw [Below.heap_setCell _ _ _ _ (by show rb + 1 ≠ g; omega)]; exact HZ.out)
  obtain ⟨V, hV⟩ : ∃ V, (W.drewN 1).setCell ⟨g, at0 * 4 + 2, none⟩ (iv ag) = V := ⟨_, rfl⟩
  rw [hV] at HBV HZV
  rw [hV]
  clear x0 x1 x2 x3 x4 q1 q2 s0 s1 s2 s3
  obtain ⟨x0, x1, x2, x3, x4⟩ := cells5 HBV.out
  obtain ⟨z0, z1, z2, z3, z4⟩ := cells5 HZV.out
  have fx := (lies_cells HBV.out).2
  have fz := (lies_cells HZV.out).2
  have hrz : rb ≠ rb + 1 := Nat.ne_of_lt (Nat.lt_succ_self rb)
  have HV := Lib.hid hV
  clear hV
  go_wp2
  show bodyPost _ _ _ _ _ (((((((((V).setCell ⟨rb, 3, none⟩ (iv (at0 + 1 : Nat))).setCell ⟨rb, 3, none⟩ (iv 0)).setCell ⟨rb, 4, none⟩ (.bool false)).setCell ⟨rb + 1, 0, none⟩ (iv r.ba)).setCell ⟨rb + 1, 1, none⟩ (iv r.pe)).setCell ⟨rb + 1, 2, none⟩ (.slice (some ⟨g, 0, none⟩) n c)).setCell ⟨rb + 1, 3, none⟩ (iv (0 : Nat))).setCell ⟨rb + 1, 4, none⟩ (.bool false))
  obtain ⟨F, hF⟩ : ∃ F, ((((((((V).setCell ⟨rb, 3, none⟩ (iv (at0 + 1 : Nat))).setCell ⟨rb, 3, none⟩ (iv 0)).setCell ⟨rb, 4, none⟩ (.bool false)).setCell ⟨rb + 1, 0, none⟩ (iv r.ba)).setCell ⟨rb + 1, 1, none⟩ (iv r.pe)).setCell ⟨rb + 1, 2, none⟩ (.slice (some ⟨g, 0, none⟩) n c)).setCell ⟨rb + 1, 3, none⟩ (iv (0 : Nat))).setCell ⟨rb + 1, 4, none⟩ (.bool false) = F := ⟨_, rfl⟩
  rw [hF]
  have HF := Lib.hid (over_out (w := W.drewN 1) (s := iv 0)  (F := F) (l' := (overR r s).ss) HZ.out (a := w) (((But.refl g w).below BW.out).drewN 1) HRB.out HG.out HOWN.out HSX.out (.inr (by rw [← HV.out])) hF.symm)
  obtain ⟨f0, f1, f2, f3, f4⟩ := cells5 HF.out.1
  refine bodyPost_ret (v := ringV (overR r s) (.slice (some ⟨g, 0, none⟩) n c)) (by rw [HOV.out]; simp [results, Try.results32, go_sem, f0, f1, f2, f3, f4]) rfl ⟨rfl, ?_, HF.out.2.2⟩
  show World.ownsRow _ _ _ _ _ (overR r s).ss.length _
  rw [HOL.out]
  exact HF.out.2.1
theorem over_any {B : Nat} (r : RV) (s : SV) (w : World) (g n c : Nat) (hown : OwnS B w (.slice (some ⟨g, 0, none⟩) n c) r.ss) (hs : r.ss[r.at_]? = some s) (hn : n ≤ 16) :
    Calls Try.prog 32 #[ringV r (.slice (some ⟨g, 0, none⟩) n c)] w (OverQ B (overR r s) (.slice (some ⟨g, 0, none⟩) n c) g w) := by
  have h1 := hown.form.1
  have h2 := (List.getElem?_eq_some_iff.1 hs).1
  rcases Nat.lt_or_ge (r.at_ + 1) n with h | h
  · exact over_step r s w g n c _ _ rfl rfl hown hs hn h
  · exact over_wrap r s w g n c _ _ rfl rfl hown hs hn (by omega)
end Go.Proofs.Ytbgoogjhgeoapaa
