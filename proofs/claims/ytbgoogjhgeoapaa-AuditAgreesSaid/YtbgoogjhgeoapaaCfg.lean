/- Walks: the drawn configuration. Printed by wip/gen_cfg.py. -/
import Derived.Test.YtbgoogjhgeoapaaAuC
import Derived.Test.YtbgoogjhgeoapaaInv
import Derived.Test.YtbgoogjhgeoapaaTape
import Derived.BigQuiet
import Derived.Deep.Cut
import Derived.Deep.QuietTactic
set_option linter.unusedVariables false
set_option linter.unusedSimpArgs false
set_option linter.unusedSectionVars false
namespace Go.Proofs.Ytbgoogjhgeoapaa
open Go.RowKit
variable [Base]

def RngV (v : Value) (a b : Int) : Prop := ∃ z : Int, v = iv z ∧ a ≤ z ∧ z ≤ b
def ArrV (bt n : Nat) (lo hi : Int) (v : Value) (w : World) : Prop := ∃ (A : Nat) (f : Nat → Int), v = .slice (some ⟨A, 0, none⟩) n n ∧ A < w.heap.size ∧ A ≠ bt ∧ ∀ j, j < n → w.cell? ⟨A, j, none⟩ = some (iv (f j)) ∧ lo ≤ f j ∧ f j ≤ hi
def PtrV (bt : Nat) (lo hi : Int) (v : Value) (w : World) : Prop := ∃ (A j : Nat) (z : Int), v = .pointer (some ⟨A, j, none⟩) ∧ A < w.heap.size ∧ A ≠ bt ∧ w.cell? ⟨A, j, none⟩ = some (iv z) ∧ lo ≤ z ∧ z ≤ hi
theorem ArrV.keep {bt n : Nat} {lo hi : Int} {v : Value} {w w' : World} (h : ArrV bt n lo hi v w) (hb : But bt w w') : ArrV bt n lo hi v w' := by
  obtain ⟨A, f, h1, h2, h3, h4⟩ := h
  exact ⟨A, f, h1, Nat.lt_of_lt_of_le h2 hb.size, h3, fun j hj => ⟨(hb.cell A j h2 h3).trans (h4 j hj).1, (h4 j hj).2⟩⟩
theorem PtrV.keep {bt : Nat} {lo hi : Int} {v : Value} {w w' : World} (h : PtrV bt lo hi v w) (hb : But bt w w') : PtrV bt lo hi v w' := by
  obtain ⟨A, j, z, h1, h2, h3, h4, h5⟩ := h
  exact ⟨A, j, z, h1, Nat.lt_of_lt_of_le h2 hb.size, h3, (hb.cell A j h2 h3).trans h4, h5⟩
def CfgP (bt k : Nat) (v : Value) (w : World) : Prop := match k with
  | 0 => v = pv bt
  | 1 => RngV v 0 2
  | 2 => RngV v 1 3
  | 3 => v = pv bt
  | 4 => RngV v 0 3
  | 5 => RngV v 1 4
  | 6 => ArrV bt 5 0 40 v w
  | 7 => v = pv bt
  | 8 => RngV v 0 4
  | 9 => PtrV bt 0 40 v w
  | 10 => RngV v 0 40
  | 11 => ArrV bt 3 1 256 v w
  | 12 => v = pv bt
  | 13 => RngV v 0 2
  | 14 => PtrV bt 1 256 v w
  | 15 => RngV v 1 256
  | 16 => v = pv bt
  | 17 => RngV v 0 8
  | 18 => RngV v 1 9
  | 19 => v = pv bt
  | 20 => RngV v 0 2
  | 21 => RngV v 1 3
  | 22 => ∃ c, v = cfgV c ∧ cfgB c = true
  | _ => True
theorem CfgP.keep {bt k : Nat} {v : Value} {w w' : World} (h : CfgP bt k v w) (hb : But bt w w') : CfgP bt k v w' := by
  unfold CfgP at h ⊢
  split at h <;> first | exact h | exact ArrV.keep h hb | exact PtrV.keep h hb | trivial
def updU (u : Nat → Value) (d : Nat) (v : Value) : Nat → Value := fun k => if k = d then v else u k
def frC (u : Nat → Value) : Act := ⟨#[u 0, u 1, u 2, u 3, u 4, u 5, u 6, u 7, u 8, u 9, u 10, u 11, u 12, u 13, u 14, u 15, u 16, u 17, u 18, u 19, u 20, u 21, u 22, u 23, u 24, u 25], []⟩
def cfgC (c : CV) : Obj := .cells #[iv c.p, iv c.pe, iv c.me, iv c.no, iv c.ed, iv c.ba, iv c.ag] 26 (0, 0)
structure CfgU (B bt cb : Nat) (w0 : World) (listed : Array Bool) (u : Nat → Value) (w : World) : Prop where
  u0 : u 0 = pv bt
  u2 : u 2 = .pointer (some ⟨cb, 0, none⟩)
  tape : TapeOk B w bt
  but : But bt w0 w
  all : listed.getD 23 false = false → ∀ k, k < 23 → listed.getD k false = true → CfgP bt k (u (k + 3)) w
  cb : (listed.getD 23 false = false ∧ w.heap[cb]? = some (.cells #[iv 0, iv 0, iv 0, iv 0, iv 0, iv 0, iv 0] 26 (0, 0))) ∨ ((∀ k, k < 24 → listed.getD k false = true) ∧ ∃ c, cfgB c = true ∧ w.heap[cb]? = some (cfgC c))
def CfgI (B bt cb : Nat) (w0 : World) (listed : Array Bool) (a : Act) (w : World) : Prop := ∃ u, a = frC u ∧ CfgU B bt cb w0 listed u w
theorem CfgU.put {B bt cb : Nat} {w0 w w' : World} {listed : Array Bool} {u : Nat → Value} (h : CfgU B bt cb w0 listed u w) (hcb : cb ≠ bt) (h23 : listed.getD 23 false = false) (i : Nat) (hi : i < 23) (v : Value) (hk : But bt w w') (ht : TapeOk B w' bt) (hP : CfgP bt i v w') :
    CfgU B bt cb w0 (listed.setIfInBounds i true) (updU u (i + 3) v) w' := by
  have hz : w.heap[cb]? = some (.cells #[iv 0, iv 0, iv 0, iv 0, iv 0, iv 0, iv 0] 26 (0, 0)) := by
    rcases h.cb with h1 | h1
    · exact h1.2
    · rw [h1.1 23 (by decide)] at h23; cases h23
  refine ⟨?_, ?_, ht, h.but.trans hk, fun _ k hk1 hl => ?_, .inl ⟨by rw [getD_set_ne false (by omega)]; exact h23, (hk.block cb (lt_heap hz) hcb).trans hz⟩⟩
  · unfold updU; rw [if_neg (by omega)]; exact h.u0
  · unfold updU; rw [if_neg (by omega)]; exact h.u2
  · by_cases e : k = i
    · subst e
      unfold updU; rw [if_pos rfl]; exact hP
    · have hl' : listed.getD k false = true := by rcases getD_set_cases hl with h1 | h1; exact absurd h1 e; exact h1
      unfold updU; rw [if_neg (by omega)]; exact (h.all h23 k hk1 hl').keep hk
/-- The answer. -/
def CfgQ (B bt : Nat) (w : World) (e : Ending) (w' : World) : Prop := ∃ c, cfgB c = true ∧ e = .returned (cfgV c) ∧ TapeOk B w' bt ∧ But bt w w'
theorem cfgB_of {a b c d e f : Int} (h1 : 1 ≤ a ∧ a ≤ 3) (h2 : 1 ≤ b ∧ b ≤ 4) (h3 : 0 ≤ c ∧ c ≤ 40) (h4 : 1 ≤ d ∧ d ≤ 256) (h5 : 1 ≤ e ∧ e ≤ 9) (h6 : 1 ≤ f ∧ f ≤ 3) : cfgB ⟨a, b, c, d, 90, e, f⟩ = true := by
  unfold cfgB btwB; simp; omega
set_option maxRecDepth 100000 in
set_option maxHeartbeats 4000000 in
theorem config_any {B bt : Nat} {w : World} (ht : TapeOk B w bt) : Calls Try.prog 7 #[pv bt] w (CfgQ B bt w) := by
  have HT := Lib.hid ht
  have hlt := ht.lt
  clear ht
  go_enter Try.func7, Try.ntmps7
  go_upto_region 1 with (fail)
  obtain ⟨cb, hcb⟩ : ∃ b, w.heap.size = b := ⟨_, rfl⟩
  obtain ⟨W, hW⟩ : ∃ W, w.alloc (.cells #[iv 0, iv 0, iv 0, iv 0, iv 0, iv 0, iv 0] 26) = W := ⟨_, rfl⟩
  have hne : cb ≠ bt := by omega
  have HCB := Lib.hid hcb
  have HW := Lib.hid hW
  try rw [hcb]
  rw [show w.alloc (.cells #[.int .i64 0, .int .i64 0, .int .i64 0, .int .i64 0, .int .i64 0, .int .i64 0, .int .i64 0] 26) = W from hW]
  refine wp_region_inv (I := CfgI B bt cb w) (by kernel_rfl) (by kernel_rfl) ?_ ?_ ?_
  · refine ⟨fun k => if k = 0 then pv bt else if k = 2 then .pointer (some ⟨cb, 0, none⟩) else undef, rfl, rfl, rfl, ?_, ?_, fun _ k hk hl => ?_, .inl ⟨by kernel_rfl, ?_⟩⟩
    · exact (by rw [← hW]; exact HT.out.alloc _ : TapeOk B W bt).drewN 1
    · exact (by rw [← hW]; exact (But.refl bt w).alloc _ : But bt w W).drewN 1
    · exfalso
      rcases Nat.lt_or_ge k 24 with h1 | h1
      · have : (Array.replicate 24 false).getD k false = true := hl
        simp [h1] at this
      · omega
    · show W.heap[cb]? = _; rw [← hW, ← hcb]; exact heap_alloc_new _ _
  · intro listed a x i hsz hI hi
    obtain ⟨u, rfl, hU⟩ := hI
    have hlt24 : i < 24 := ready_lt hi
    have h23 : listed.getD 23 false = false := by
      rcases hU.cb with h1 | h1
      · exact h1.1
      · have h2 := ready_un hi
        rw [h1.1 i hlt24] at h2; cases h2
    have HU := Lib.hid hU
    have u0 := hU.u0
    have u2 := hU.u2
    have hall := hU.all h23
    have hbx : bt < x.heap.size := hU.tape.lt
    clear hU hW hcb
    have hcases : i = 0 ∨ i = 1 ∨ i = 2 ∨ i = 3 ∨ i = 4 ∨ i = 5 ∨ i = 6 ∨ i = 7 ∨ i = 8 ∨ i = 9 ∨ i = 10 ∨ i = 11 ∨ i = 12 ∨ i = 13 ∨ i = 14 ∨ i = 15 ∨ i = 16 ∨ i = 17 ∨ i = 18 ∨ i = 19 ∨ i = 20 ∨ i = 21 ∨ i = 22 ∨ i = 23 := by omega
    rcases hcases with rfl | rfl | rfl | rfl | rfl | rfl | rfl | rfl | rfl | rfl | rfl | rfl | rfl | rfl | rfl | rfl | rfl | rfl | rfl | rfl | rfl | rfl | rfl | rfl
    · -- 0
      refine wpOp_value 0 (some 3) (pv bt) x rfl (by kernel_rfl) ?_ rfl ?_
      · unfold frC; go_simp
      exact ⟨updU u 3 (pv bt), rfl, HU.out.put hne h23 0 (by decide) (pv bt) (But.refl bt x) (HU.out.tape) (rfl)⟩
    · -- 1
      have p0 := hall 0 (by decide) (ready_dep hi (by kernel_rfl))
      have q0 : u 3 = pv bt := p0
      refine wpOp_call 1 (some 4) 14 #[pv bt, iv 3] rfl (by kernel_rfl) ?_ rfl ?_
      · unfold frC; go_simp
      refine (next_any HU.out.tape 3 (by omega)).mono ?_
      rintro e y ⟨z, z1, z2, rfl, ty, hy⟩
      refine ⟨iv z, rfl, ?_⟩
      exact ⟨updU u 4 (iv z), rfl, HU.out.put hne h23 1 (by decide) (iv z) (hy) (ty) (⟨z, rfl, by omega, by omega⟩)⟩
    · -- 2
      have p1 := hall 1 (by decide) (ready_dep hi (by kernel_rfl))
      obtain ⟨z, q, a1, b1⟩ : RngV (u 4) _ _ := p1
      have hw : IntKind.i64.wrap (1 + z) = 1 + z := IntWalk.i64_in _ (by omega)
      refine wpOp_value 2 (some 5) (iv (1 + z)) x rfl (by kernel_rfl) ?_ rfl ?_
      · unfold frC; go_simp
      exact ⟨updU u 5 (iv (1 + z)), rfl, HU.out.put hne h23 2 (by decide) (iv (1 + z)) (But.refl bt x) (HU.out.tape) (⟨1 + z, rfl, by omega, by omega⟩)⟩
    · -- 3
      refine wpOp_value 3 (some 6) (pv bt) x rfl (by kernel_rfl) ?_ rfl ?_
      · unfold frC; go_simp
      exact ⟨updU u 6 (pv bt), rfl, HU.out.put hne h23 3 (by decide) (pv bt) (But.refl bt x) (HU.out.tape) (rfl)⟩
    · -- 4
      have p3 := hall 3 (by decide) (ready_dep hi (by kernel_rfl))
      have q3 : u 6 = pv bt := p3
      refine wpOp_call 4 (some 7) 14 #[pv bt, iv 4] rfl (by kernel_rfl) ?_ rfl ?_
      · unfold frC; go_simp
      refine (next_any HU.out.tape 4 (by omega)).mono ?_
      rintro e y ⟨z, z1, z2, rfl, ty, hy⟩
      refine ⟨iv z, rfl, ?_⟩
      exact ⟨updU u 7 (iv z), rfl, HU.out.put hne h23 4 (by decide) (iv z) (hy) (ty) (⟨z, rfl, by omega, by omega⟩)⟩
    · -- 5
      have p4 := hall 4 (by decide) (ready_dep hi (by kernel_rfl))
      obtain ⟨z, q, a1, b1⟩ : RngV (u 7) _ _ := p4
      have hw : IntKind.i64.wrap (1 + z) = 1 + z := IntWalk.i64_in _ (by omega)
      refine wpOp_value 5 (some 8) (iv (1 + z)) x rfl (by kernel_rfl) ?_ rfl ?_
      · unfold frC; go_simp
      exact ⟨updU u 8 (iv (1 + z)), rfl, HU.out.put hne h23 5 (by decide) (iv (1 + z)) (But.refl bt x) (HU.out.tape) (⟨1 + z, rfl, by omega, by omega⟩)⟩
    · -- 6
      refine wpOp_value 6 (some 9) (.slice (some ⟨x.heap.size, 0, none⟩) 5 5) (x.alloc (.cells #[iv 8, iv 0, iv 1, iv 3, iv 40] 3)) rfl (by kernel_rfl) ?_ rfl ?_
      · unfold frC; go_simp
      exact ⟨updU u 9 (.slice (some ⟨x.heap.size, 0, none⟩) 5 5), rfl, HU.out.put hne h23 6 (by decide) (.slice (some ⟨x.heap.size, 0, none⟩) 5 5) ((But.refl bt x).alloc _) (HU.out.tape.alloc _) (⟨x.heap.size, fun j => [8, 0, 1, 3, 40].getD j 0, rfl, by simp, by omega, fun j hj => by rw [World.cell?_alloc_new]; rcases (by omega : j = 0 ∨ j = 1 ∨ j = 2 ∨ j = 3 ∨ j = 4) with rfl | rfl | rfl | rfl | rfl <;> exact ⟨rfl, by decide, by decide⟩⟩)⟩
    · -- 7
      refine wpOp_value 7 (some 10) (pv bt) x rfl (by kernel_rfl) ?_ rfl ?_
      · unfold frC; go_simp
      exact ⟨updU u 10 (pv bt), rfl, HU.out.put hne h23 7 (by decide) (pv bt) (But.refl bt x) (HU.out.tape) (rfl)⟩
    · -- 8
      have p7 := hall 7 (by decide) (ready_dep hi (by kernel_rfl))
      have q7 : u 10 = pv bt := p7
      refine wpOp_call 8 (some 11) 14 #[pv bt, iv 5] rfl (by kernel_rfl) ?_ rfl ?_
      · unfold frC; go_simp
      refine (next_any HU.out.tape 5 (by omega)).mono ?_
      rintro e y ⟨z, z1, z2, rfl, ty, hy⟩
      refine ⟨iv z, rfl, ?_⟩
      exact ⟨updU u 11 (iv z), rfl, HU.out.put hne h23 8 (by decide) (iv z) (hy) (ty) (⟨z, rfl, by omega, by omega⟩)⟩
    · -- 9
      have p6 := hall 6 (by decide) (ready_dep hi (by kernel_rfl))
      have p8 := hall 8 (by decide) (ready_dep hi (by kernel_rfl))
      obtain ⟨A, f, q1, hA, hAb, hf⟩ : ArrV bt _ _ _ (u 9) x := p6
      obtain ⟨z, q2, a1, b1⟩ : RngV (u 11) _ _ := p8
      obtain ⟨j, rfl⟩ := Int.eq_ofNat_of_zero_le a1
      have hj : j < 5 := by omega
      have hj1 : (0 : Int) ≤ (j : Int) := Int.natCast_nonneg _
      have hj2 : (j : Int) < 5 := by omega
      have HF := Lib.hid hf
      clear hf
      refine wpOp_value 9 (some 12) (.pointer (some ⟨A, j, none⟩)) x rfl (by kernel_rfl) ?_ rfl ?_
      · unfold frC; go_simp
      exact ⟨updU u 12 (.pointer (some ⟨A, j, none⟩)), rfl, HU.out.put hne h23 9 (by decide) (.pointer (some ⟨A, j, none⟩)) (But.refl bt x) (HU.out.tape) (⟨A, j, f j, rfl, hA, hAb, (HF.out j hj).1, (HF.out j hj).2⟩)⟩
    · -- 10
      have p9 := hall 9 (by decide) (ready_dep hi (by kernel_rfl))
      obtain ⟨A, j, z, q1, hA, hAb, hc, a1, b1⟩ : PtrV bt _ _ (u 12) x := p9
      refine wpOp_value 10 (some 13) (iv z) x rfl (by kernel_rfl) ?_ rfl ?_
      · unfold frC; go_simp
      exact ⟨updU u 13 (iv z), rfl, HU.out.put hne h23 10 (by decide) (iv z) (But.refl bt x) (HU.out.tape) (⟨z, rfl, a1, b1⟩)⟩
    · -- 11
      refine wpOp_value 11 (some 14) (.slice (some ⟨x.heap.size, 0, none⟩) 3 3) (x.alloc (.cells #[iv 60, iv 20, iv 256] 3)) rfl (by kernel_rfl) ?_ rfl ?_
      · unfold frC; go_simp
      exact ⟨updU u 14 (.slice (some ⟨x.heap.size, 0, none⟩) 3 3), rfl, HU.out.put hne h23 11 (by decide) (.slice (some ⟨x.heap.size, 0, none⟩) 3 3) ((But.refl bt x).alloc _) (HU.out.tape.alloc _) (⟨x.heap.size, fun j => [60, 20, 256].getD j 0, rfl, by simp, by omega, fun j hj => by rw [World.cell?_alloc_new]; rcases (by omega : j = 0 ∨ j = 1 ∨ j = 2) with rfl | rfl | rfl <;> exact ⟨rfl, by decide, by decide⟩⟩)⟩
    · -- 12
      refine wpOp_value 12 (some 15) (pv bt) x rfl (by kernel_rfl) ?_ rfl ?_
      · unfold frC; go_simp
      exact ⟨updU u 15 (pv bt), rfl, HU.out.put hne h23 12 (by decide) (pv bt) (But.refl bt x) (HU.out.tape) (rfl)⟩
    · -- 13
      have p12 := hall 12 (by decide) (ready_dep hi (by kernel_rfl))
      have q12 : u 15 = pv bt := p12
      refine wpOp_call 13 (some 16) 14 #[pv bt, iv 3] rfl (by kernel_rfl) ?_ rfl ?_
      · unfold frC; go_simp
      refine (next_any HU.out.tape 3 (by omega)).mono ?_
      rintro e y ⟨z, z1, z2, rfl, ty, hy⟩
      refine ⟨iv z, rfl, ?_⟩
      exact ⟨updU u 16 (iv z), rfl, HU.out.put hne h23 13 (by decide) (iv z) (hy) (ty) (⟨z, rfl, by omega, by omega⟩)⟩
    · -- 14
      have p11 := hall 11 (by decide) (ready_dep hi (by kernel_rfl))
      have p13 := hall 13 (by decide) (ready_dep hi (by kernel_rfl))
      obtain ⟨A, f, q1, hA, hAb, hf⟩ : ArrV bt _ _ _ (u 14) x := p11
      obtain ⟨z, q2, a1, b1⟩ : RngV (u 16) _ _ := p13
      obtain ⟨j, rfl⟩ := Int.eq_ofNat_of_zero_le a1
      have hj : j < 3 := by omega
      have hj1 : (0 : Int) ≤ (j : Int) := Int.natCast_nonneg _
      have hj2 : (j : Int) < 3 := by omega
      have HF := Lib.hid hf
      clear hf
      refine wpOp_value 14 (some 17) (.pointer (some ⟨A, j, none⟩)) x rfl (by kernel_rfl) ?_ rfl ?_
      · unfold frC; go_simp
      exact ⟨updU u 17 (.pointer (some ⟨A, j, none⟩)), rfl, HU.out.put hne h23 14 (by decide) (.pointer (some ⟨A, j, none⟩)) (But.refl bt x) (HU.out.tape) (⟨A, j, f j, rfl, hA, hAb, (HF.out j hj).1, (HF.out j hj).2⟩)⟩
    · -- 15
      have p14 := hall 14 (by decide) (ready_dep hi (by kernel_rfl))
      obtain ⟨A, j, z, q1, hA, hAb, hc, a1, b1⟩ : PtrV bt _ _ (u 17) x := p14
      refine wpOp_value 15 (some 18) (iv z) x rfl (by kernel_rfl) ?_ rfl ?_
      · unfold frC; go_simp
      exact ⟨updU u 18 (iv z), rfl, HU.out.put hne h23 15 (by decide) (iv z) (But.refl bt x) (HU.out.tape) (⟨z, rfl, a1, b1⟩)⟩
    · -- 16
      refine wpOp_value 16 (some 19) (pv bt) x rfl (by kernel_rfl) ?_ rfl ?_
      · unfold frC; go_simp
      exact ⟨updU u 19 (pv bt), rfl, HU.out.put hne h23 16 (by decide) (pv bt) (But.refl bt x) (HU.out.tape) (rfl)⟩
    · -- 17
      have p16 := hall 16 (by decide) (ready_dep hi (by kernel_rfl))
      have q16 : u 19 = pv bt := p16
      refine wpOp_call 17 (some 20) 14 #[pv bt, iv 9] rfl (by kernel_rfl) ?_ rfl ?_
      · unfold frC; go_simp
      refine (next_any HU.out.tape 9 (by omega)).mono ?_
      rintro e y ⟨z, z1, z2, rfl, ty, hy⟩
      refine ⟨iv z, rfl, ?_⟩
      exact ⟨updU u 20 (iv z), rfl, HU.out.put hne h23 17 (by decide) (iv z) (hy) (ty) (⟨z, rfl, by omega, by omega⟩)⟩
    · -- 18
      have p17 := hall 17 (by decide) (ready_dep hi (by kernel_rfl))
      obtain ⟨z, q, a1, b1⟩ : RngV (u 20) _ _ := p17
      have hw : IntKind.i64.wrap (1 + z) = 1 + z := IntWalk.i64_in _ (by omega)
      refine wpOp_value 18 (some 21) (iv (1 + z)) x rfl (by kernel_rfl) ?_ rfl ?_
      · unfold frC; go_simp
      exact ⟨updU u 21 (iv (1 + z)), rfl, HU.out.put hne h23 18 (by decide) (iv (1 + z)) (But.refl bt x) (HU.out.tape) (⟨1 + z, rfl, by omega, by omega⟩)⟩
    · -- 19
      refine wpOp_value 19 (some 22) (pv bt) x rfl (by kernel_rfl) ?_ rfl ?_
      · unfold frC; go_simp
      exact ⟨updU u 22 (pv bt), rfl, HU.out.put hne h23 19 (by decide) (pv bt) (But.refl bt x) (HU.out.tape) (rfl)⟩
    · -- 20
      have p19 := hall 19 (by decide) (ready_dep hi (by kernel_rfl))
      have q19 : u 22 = pv bt := p19
      refine wpOp_call 20 (some 23) 14 #[pv bt, iv 3] rfl (by kernel_rfl) ?_ rfl ?_
      · unfold frC; go_simp
      refine (next_any HU.out.tape 3 (by omega)).mono ?_
      rintro e y ⟨z, z1, z2, rfl, ty, hy⟩
      refine ⟨iv z, rfl, ?_⟩
      exact ⟨updU u 23 (iv z), rfl, HU.out.put hne h23 20 (by decide) (iv z) (hy) (ty) (⟨z, rfl, by omega, by omega⟩)⟩
    · -- 21
      have p20 := hall 20 (by decide) (ready_dep hi (by kernel_rfl))
      obtain ⟨z, q, a1, b1⟩ : RngV (u 23) _ _ := p20
      have hw : IntKind.i64.wrap (1 + z) = 1 + z := IntWalk.i64_in _ (by omega)
      refine wpOp_value 21 (some 24) (iv (1 + z)) x rfl (by kernel_rfl) ?_ rfl ?_
      · unfold frC; go_simp
      exact ⟨updU u 24 (iv (1 + z)), rfl, HU.out.put hne h23 21 (by decide) (iv (1 + z)) (But.refl bt x) (HU.out.tape) (⟨1 + z, rfl, by omega, by omega⟩)⟩
    · -- 22
      have p2 := hall 2 (by decide) (ready_dep hi (by kernel_rfl))
      obtain ⟨z2, q2, a2, b2⟩ : RngV (u 5) _ _ := p2
      have p5 := hall 5 (by decide) (ready_dep hi (by kernel_rfl))
      obtain ⟨z5, q5, a5, b5⟩ : RngV (u 8) _ _ := p5
      have p10 := hall 10 (by decide) (ready_dep hi (by kernel_rfl))
      obtain ⟨z10, q10, a10, b10⟩ : RngV (u 13) _ _ := p10
      have p15 := hall 15 (by decide) (ready_dep hi (by kernel_rfl))
      obtain ⟨z15, q15, a15, b15⟩ : RngV (u 18) _ _ := p15
      have p18 := hall 18 (by decide) (ready_dep hi (by kernel_rfl))
      obtain ⟨z18, q18, a18, b18⟩ : RngV (u 21) _ _ := p18
      have p21 := hall 21 (by decide) (ready_dep hi (by kernel_rfl))
      obtain ⟨z21, q21, a21, b21⟩ : RngV (u 24) _ _ := p21
      refine wpOp_value 22 (some 25) (cfgV ⟨z2, z5, z10, z15, 90, z18, z21⟩) x rfl (by kernel_rfl) ?_ rfl ?_
      · unfold frC cfgV; go_simp
      exact ⟨updU u 25 (cfgV ⟨z2, z5, z10, z15, 90, z18, z21⟩), rfl, HU.out.put hne h23 22 (by decide) (cfgV ⟨z2, z5, z10, z15, 90, z18, z21⟩) (But.refl bt x) (HU.out.tape) (⟨_, rfl, cfgB_of ⟨a2, b2⟩ ⟨a5, b5⟩ ⟨a10, b10⟩ ⟨a15, b15⟩ ⟨a18, b18⟩ ⟨a21, b21⟩⟩)⟩
    · -- 23
      have p22 := hall 22 (by decide) (ready_dep hi (by kernel_rfl))
      obtain ⟨c, qc, hc⟩ : ∃ c, u 25 = cfgV c ∧ cfgB c = true := p22
      have hz : x.heap[cb]? = some (.cells #[iv 0, iv 0, iv 0, iv 0, iv 0, iv 0, iv 0] 26 (0, 0)) := by
        rcases HU.out.cb with h1 | h1
        · exact h1.2
        · rw [h1.1 23 (by decide)] at h23; cases h23
      have fz := (lies_cells hz).2
      have c0 := fun j => (lies_cells hz).1 j
      have e0 := c0 0
      have e1 := c0 1
      have e2 := c0 2
      have e3 := c0 3
      have e4 := c0 4
      have e5 := c0 5
      have e6 := c0 6
      simp only [List.getElem?_toArray, List.getElem?_cons_zero, List.getElem?_cons_succ] at e0 e1 e2 e3 e4 e5 e6
      have HZ := Lib.hid hz
      clear c0 hz hall
      unfold cfgV at qc
      refine wpOp_skip 23 none (((((((x.setCell ⟨cb, 0, none⟩ (iv c.p)).setCell ⟨cb, 1, none⟩ (iv c.pe)).setCell ⟨cb, 2, none⟩ (iv c.me)).setCell ⟨cb, 3, none⟩ (iv c.no)).setCell ⟨cb, 4, none⟩ (iv c.ed)).setCell ⟨cb, 5, none⟩ (iv c.ba)).setCell ⟨cb, 6, none⟩ (iv c.ag)) rfl (by kernel_rfl) ?_ rfl ?_
      · unfold frC; go_simp
      obtain ⟨Y, hY⟩ : ∃ Y, (((((((x.setCell ⟨cb, 0, none⟩ (iv c.p)).setCell ⟨cb, 1, none⟩ (iv c.pe)).setCell ⟨cb, 2, none⟩ (iv c.me)).setCell ⟨cb, 3, none⟩ (iv c.no)).setCell ⟨cb, 4, none⟩ (iv c.ed)).setCell ⟨cb, 5, none⟩ (iv c.ba)).setCell ⟨cb, 6, none⟩ (iv c.ag)) = Y := ⟨_, rfl⟩
      rw [hY]
      have hYc : Y.heap[cb]? = some (cfgC c) := by rw [← hY]; exact set_cells (o := 6) (u := iv c.ag) (set_cells (o := 5) (u := iv c.ba) (set_cells (o := 4) (u := iv c.ed) (set_cells (o := 3) (u := iv c.no) (set_cells (o := 2) (u := iv c.me) (set_cells (o := 1) (u := iv c.pe) (set_cells (o := 0) (u := iv c.p) HZ.out))))))
      have hYk : But cb x Y := by rw [← hY]; exact (((((((But.refl cb x).setCell ⟨cb, 0, none⟩ (.inl rfl) _).setCell ⟨cb, 1, none⟩ (.inl rfl) _).setCell ⟨cb, 2, none⟩ (.inl rfl) _).setCell ⟨cb, 3, none⟩ (.inl rfl) _).setCell ⟨cb, 4, none⟩ (.inl rfl) _).setCell ⟨cb, 5, none⟩ (.inl rfl) _).setCell ⟨cb, 6, none⟩ (.inl rfl) _
      have hwc : w.heap.size ≤ cb := by rw [HCB.out]; exact Nat.le_refl _
      have hge := HU.out.tape.ge
      have hbw := HU.out.but
      refine ⟨u, rfl, u0, u2, HU.out.tape.keep (hYk.block bt hbx (Ne.symm hne)) (fun q hq => hYk.block q (by omega) (by omega)) hYk.size, ?_, ?_, .inr ⟨?_, c, hc, hYc⟩⟩
      · exact ⟨hYk.os.trans hbw.os, hYk.tape.trans hbw.tape, hYk.output.trans hbw.output, Nat.le_trans hbw.size hYk.size, fun q hq hq2 => (hYk.block q (Nat.lt_of_lt_of_le hq hbw.size) (by omega)).trans (hbw.block q hq hq2)⟩
      · intro hbad; rw [show (listed.setIfInBounds 23 true).getD 23 false = true by simp [hsz]] at hbad; cases hbad
      · intro k hk
        by_cases e : k = 23
        · subst e; simp [hsz]
        · rw [getD_set_ne false (Ne.symm e)]; exact ready_dep hi (by rcases (by omega : k = 0 ∨ k = 1 ∨ k = 2 ∨ k = 3 ∨ k = 4 ∨ k = 5 ∨ k = 6 ∨ k = 7 ∨ k = 8 ∨ k = 9 ∨ k = 10 ∨ k = 11 ∨ k = 12 ∨ k = 13 ∨ k = 14 ∨ k = 15 ∨ k = 16 ∨ k = 17 ∨ k = 18 ∨ k = 19 ∨ k = 20 ∨ k = 21 ∨ k = 22) with rfl | rfl | rfl | rfl | rfl | rfl | rfl | rfl | rfl | rfl | rfl | rfl | rfl | rfl | rfl | rfl | rfl | rfl | rfl | rfl | rfl | rfl | rfl <;> kernel_rfl)
  · intro listed a x hI hall
    obtain ⟨u, rfl, hU⟩ := hI
    rcases hU.cb with h1 | ⟨-, c, hc, hcc⟩
    · have h2 := hall 23 (by decide)
      rw [h1.1] at h2; cases h2
    have HU := Lib.hid hU
    have hc0 := fun j => (lies_cells hcc).1 j
    have u2 := hU.u2
    have c0 := hc0 0
    have c1 := hc0 1
    have c2 := hc0 2
    have c3 := hc0 3
    have c4 := hc0 4
    have c5 := hc0 5
    have c6 := hc0 6
    simp only [List.getElem?_toArray, List.getElem?_cons_zero, List.getElem?_cons_succ] at c0 c1 c2 c3 c4 c5 c6
    clear hU hc0 hall hcc
    unfold frC
    go_wp2
    exact bodyPost_ret (v := cfgV c) (by unfold cfgV; simp [results, Try.results7, go_sem, u2, c0, c1, c2, c3, c4, c5, c6]) rfl ⟨c, hc, rfl, HU.out.tape, HU.out.but⟩
end Go.Proofs.Ytbgoogjhgeoapaa
