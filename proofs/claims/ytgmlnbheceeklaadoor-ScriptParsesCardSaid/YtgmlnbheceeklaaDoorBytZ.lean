/- Tape.Bytes where nothing comes in. -/
import Derived.Test.YtgmlnbheceeklaaDoorBytG
set_option linter.unusedVariables false
set_option linter.unusedSimpArgs false
set_option linter.unusedSectionVars false
namespace Go.Proofs.YtgmlnbheceeklaaDoor
open Go.RowKit
variable [Base]

theorem run_append_nil0 {P : Program} (ea : Option Addr) (c : Nat) (w : World) (base : Nat) (t ty e : TypeId) (i : TypeInfo) (size : Nat) (ht : P.underlying t = some (.slice e)) (hi : P.info? e = some i)
    (v : Value) (n : Nat) (xs : List Value) (hown : w.ownsRow base e size v n xs) : (Builtin.append_ #[t, t] ty #[v, .slice ea 0 c]).run P w = .ok v w := by
  have hz : ∀ a : Addr, (loadCells a 0).run P w = .ok #[] w := fun a => by simp [loadCells, loadCellsFrom]
  rcases hown.2 with ⟨rfl, rfl⟩ | ⟨g, cap, cur, rfl, _, _, hnc, _⟩
  · cases ea <;> simp [Builtin.append_, run_underlying ht, sizeOf, typeInfo, hi, Builtin.lenOf, Builtin.firstCells, hz]
  · cases ea <;> simp [Builtin.append_, run_underlying ht, sizeOf, typeInfo, hi, Builtin.lenOf, Builtin.firstCells, hz, hnc, storeCells]
theorem wpList_append_nil0 {P : Program} {w : World} {ops : Array Oper} {rest : List Oper} {o : Oper} {a : Act} {Q : Exit → Act → World → Prop} (hgd : o.guard = none) (s x : Operand) (t : TypeId)
    (ho : o.op = .call { callee := .builtin .append, args := #[s, x], argTypes := #[t, t] })
    (base : Nat) (e : TypeId) (i : TypeInfo) (size : Nat) (ht : P.underlying t = some (.slice e)) (hi : P.info? e = some i)
    (v : Value) (n : Nat) (xs : List Value) (hown : w.ownsRow base e size v n xs) (hs : a.eval s = v) (ea : Option Addr) (c : Nat) (hx : a.eval x = .slice ea 0 c)
    (h : wpList P ops Q rest (a.put o.dst v) w) : wpList P ops Q (o :: rest) a w := by
  refine wpList_plain hgd fun K hK => ?_
  have hrun := run_append_nil0 (P := P) ea c w base t o.type e i size ht hi v n xs hown
  unfold Oper.wp
  simp [execOp, ho, resolve, invoke, builtin, hs, hx, hrun, Result.andThen]
  exact hK _ _ h
set_option maxRecDepth 100000 in
set_option maxHeartbeats 2000000 in
theorem bytes_zero {B bt : Nat} {w : World} (ht : TapeOk B w bt) (b0 c : Nat) :
    Calls Tryd.prog 16 #[.pointer (some ⟨bt, 0, none⟩), .slice (some ⟨b0, 0, none⟩) 0 c] w (BytesPost B bt 0 w) := by
  have hlt := ht.lt
  have Ht := Lib.hid ht
  clear ht
  obtain ⟨i8, hi8, hz8, hs8, hb8⟩ := info_parts infoU8
  have hm0 := World.ownsRow_made (e := 5) (size := 1) (base := w.heap.size) w #[] 0 (Nat.le_refl _) (Nat.zero_le _) rfl
  have HM := Lib.hid hm0
  obtain ⟨w1, hw1⟩ : ∃ w1, w.alloc (.cells #[] 5) = w1 := ⟨_, rfl⟩
  obtain ⟨g, hg⟩ : ∃ g, w.heap.size = g := ⟨_, rfl⟩
  have T1 := Lib.hid (show TapeOk B w1 bt by rw [← hw1]; exact Ht.out.alloc _)
  have B1 := Lib.hid (show But bt w w1 by rw [← hw1]; exact (But.refl _ _).alloc _)
  have O1 := Lib.hid (BOut.of_row (zs := []) HM.out)
  rw [hw1, hg] at O1
  have hge : w.heap.size ≤ g := by omega
  have HW1 := Lib.hid hw1
  have HG := Lib.hid hg
  obtain ⟨zs, hzs⟩ : ∃ zs : List Int, zs = [] := ⟨_, rfl⟩
  clear hm0 hw1
  go_enter Tryd.func16, Tryd.ntmps16
  go_wp2_with (at_builtin; refine wpList_append_nil0 rfl _ _ 38 rfl w.heap.size 5 i8 1 Tryd.underlying38 hi8 _ 0 [] HM.out rfl _ c rfl ?_)
  try rw [show w.alloc (.cells #[] 5) = w1 from HW1.out]
  refine (next_any T1.out 0 (by omega)).mono ?_
  rintro e w2 ⟨i, i0, i1, rfl, t2, b2⟩
  obtain rfl : i = 0 := by omega
  have hgb : g ≠ bt := by omega
  have O2 := Lib.hid (O1.out.but b2 hgb)
  have T2 := Lib.hid t2
  have B2 := Lib.hid (B1.out.trans b2)
  clear t2 b2 O1 T1 B1 i0 i1
  go_wp2_with fail
  refine (next_any T2.out 4 (by omega)).mono ?_
  rintro e w3 ⟨q, q0, q1, rfl, t3, b3⟩
  have O3 := Lib.hid (O2.out.but b3 hgb)
  have T3 := Lib.hid t3
  have B3 := Lib.hid (B2.out.trans b3)
  clear t3 b3 O2 T2 B2
  have hq : q = 0 ∨ q = 1 ∨ q = 2 ∨ q = 3 := by omega
  clear q0 q1
  rcases hq with rfl | rfl | rfl | rfl
  · go_wp2
    go_ret
    exact ⟨g, 0, 0, [], rfl, rfl, by omega, fun j hj => absurd hj (by omega), T3.out, B3.out⟩
  · go_wp2
    go_ret
    exact ⟨g, 0, 0, [], rfl, rfl, by omega, fun j hj => absurd hj (by omega), T3.out, B3.out⟩
  · go_wp2_with fail
    refine (next_any T3.out 256 (by omega)).mono ?_
    rintro e w4 ⟨r, r0, r1, rfl, t4, b4⟩
    have r2 : r < 256 := by omega
    have O4 := Lib.hid (O3.out.but b4 hgb)
    have T4 := Lib.hid t4
    have B4 := Lib.hid (B3.out.trans b4)
    have hzw := O4.out.lt
    clear t4 b4 O3 T3 B3 r1
    go_wp2_with (at_builtin; refine wpList_pushH [.int .u8 r] rfl _ _ 38 rfl w.heap.size 5 _ 1 1 Tryd.underlying38 infoU8 rfl (by omega) _ _ _ (O4.out.own hge) rfl _ rfl (by simp) rfl rfl (by unfold maxLen; omega) (by omega) (by first | omega | (simp; omega)) ?_; intro g2 cap2 w6 hown1 hg1 hg2 hg3; have hown2 : w6.ownsRow w.heap.size 5 1 (.slice (some ⟨g2, 0, none⟩) (0 + 1) cap2) (0 + 1) (([] ++ [r]).map u8v) := (by rw [List.map_append]; exact hown1); have O5 := Lib.hid (BOut.of_row hown2); have hb6 := Below.of_grown hg1 (O4.out.own hge) (by omega); have T5 := Lib.hid (T4.out.keep (hb6.block bt hlt) (fun k hk => hb6.block k (by have := Ht.out.ge; omega)) hb6.size); have B5 := Lib.hid (B4.out.belowB hb6 (Nat.le_refl _)); clear hown1 hown2 hg1 hb6 O4 T4 B4)
    go_ret
    exact ⟨g2, 0 + 1, cap2, _, rfl, O5.out.len, by omega, O5.out.cell, T5.out, B5.out⟩
  · go_wp2
    go_ret
    exact ⟨g, 0, 0, [], rfl, rfl, by omega, fun j hj => absurd hj (by omega), T3.out, B3.out⟩
end Go.Proofs.YtgmlnbheceeklaaDoor
