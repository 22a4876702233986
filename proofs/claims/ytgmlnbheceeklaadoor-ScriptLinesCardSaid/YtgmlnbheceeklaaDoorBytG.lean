/- Walk of the generator 'Bytes'. -/
import Derived.Test.YtgmlnbheceeklaaDoorBits
import Derived.Test.YtgmlnbheceeklaaDoorMem2
import Derived.Test.YtgmlnbheceeklaaDoorTape
import Derived.Deep.Light
import Derived.RegionTactic
import Derived.Test.YtgmlnbheceeklaaDoorHold
import Derived.Lib.JoinLaws
set_option linter.unusedVariables false
set_option linter.unusedSimpArgs false
set_option linter.unusedSectionVars false
namespace Go.Proofs.YtgmlnbheceeklaaDoor
open Go.RowKit
variable [Base]

theorem But.blk {bt b : Nat} {w w' : World} {o : Obj} (h : But bt w w') (hb : w.heap[b]? = some o) (hne : b ≠ bt) : w'.heap[b]? = some o := (h.block b (lt_heap hb) hne).trans hb
theorem But.undrew {bt n : Nat} {w w' : World} (hb : But bt (w.drewN n) w') : But bt w w' := ⟨hb.os, hb.tape, hb.output, hb.size, hb.block⟩
theorem But.belowB {bt B : Nat} {a w w' : World} (h : But bt a w) (k : Below B w w') (hB : a.heap.size ≤ B) : But bt a w' :=
  ⟨k.os.trans h.os, k.tape.trans h.tape, k.output.trans h.output, Nat.le_trans h.size k.size, fun i hi hn => (k.block i (Nat.lt_of_lt_of_le hi hB)).trans (h.block i hi hn)⟩
theorem infoU8 : (Tryd.prog.info? 5).map (fun i => (i.zero, i.size, i.bytes)) = some (some (.int .u8 0), 1, 1) := by kernel_rfl
def u8v (z : Int) : Value := .int .u8 z

theorem cell_ltB {w : World} {b o : Nat} {v : Value} (h : w.cell? ⟨b, o, none⟩ = some v) : b < w.heap.size := by
  rcases Nat.lt_or_ge b w.heap.size with h' | h'
  · exact h'
  · simp [World.cell?, Array.getElem?_eq_none h'] at h

/-- The bytes at hand: block g, n of them. -/
structure BOut (w : World) (g n cap : Nat) (zs : List Int) : Prop where
  len : zs.length = n
  le : n ≤ cap
  max : cap ≤ maxLen
  blk : ∃ cur, w.heap[g]? = some (.cells cur 5 (0, 0)) ∧ cur.size = cap ∧ ∀ j, j < n → cur[j]? = some (u8v (zs.getD j 0))
theorem BOut.of_row {w : World} {base g n cap : Nat} {zs : List Int} (h : w.ownsRow base 5 1 (.slice (some ⟨g, 0, none⟩) n cap) n (zs.map u8v)) : BOut w g n cap zs := by
  obtain ⟨h1, h2⟩ := h
  simp at h1
  rcases h2 with ⟨e, _⟩ | ⟨g', cap', cur, e, _, hh, hn, hm, hs, ht⟩
  · injection e with e _ _; cases e
  · injection e with e1 e2 e3
    injection e1 with e1
    injection e1 with e1 _
    subst e1 e3
    refine ⟨h1, hn, hm, cur, hh, by omega, fun j hj => ?_⟩
    have h3 := congrArg (·[j]?) ht
    simp only [List.getElem?_take_of_lt (show j < n * 1 by omega), List.getElem?_map] at h3
    rw [← Array.getElem?_toList, h3]
    simp [List.getD, List.getElem?_eq_getElem (show j < zs.length by omega)]
theorem BOut.cell {w : World} {g n cap : Nat} {zs : List Int} (h : BOut w g n cap zs) (j : Nat) (hj : j < n) : w.cell? ⟨g, j, none⟩ = some (u8v (zs.getD j 0)) := by
  obtain ⟨cur, hh, _, hc⟩ := h.blk
  simp [World.cell?, hh]
  exact hc j hj
theorem BOut.free {w : World} {g n cap : Nat} {zs : List Int} (h : BOut w g n cap zs) (j : Nat) : w.frozen? ⟨g, j, none⟩ = false := by
  obtain ⟨cur, hh, _, hc⟩ := h.blk
  simp [World.frozen?, hh]
theorem BOut.lt {w : World} {g n cap : Nat} {zs : List Int} (h : BOut w g n cap zs) : g < w.heap.size := by
  obtain ⟨cur, hh, _, hc⟩ := h.blk
  exact lt_heap hh
theorem BOut.but {w w' : World} {bt g n cap : Nat} {zs : List Int} (h : BOut w g n cap zs) (hb : But bt w w') (hg : g ≠ bt) : BOut w' g n cap zs := by
  obtain ⟨cur, hh, hs, hc⟩ := h.blk
  exact ⟨h.len, h.le, h.max, cur, hb.blk hh hg, hs, hc⟩

theorem BOut.own {w : World} {g n cap : Nat} {zs : List Int} (h : BOut w g n cap zs) {base : Nat} (hb : base ≤ g) : w.ownsRow base 5 1 (.slice (some ⟨g, 0, none⟩) n cap) n (zs.map u8v) := by
  obtain ⟨cur, hh, hs, hc⟩ := h.blk
  have hl := h.len
  have hle := h.le
  refine ⟨by simp [hl], .inr ⟨g, cap, cur, rfl, hb, hh, h.le, h.max, by omega, ?_⟩⟩
  apply List.ext_getElem?
  intro j
  rcases Nat.lt_or_ge j n with hj | hj
  · rw [List.getElem?_take_of_lt (by omega), Array.getElem?_toList, hc j hj]
    simp [List.getD, List.getElem?_eq_getElem (show j < zs.length by omega)]
  · rw [List.getElem?_eq_none (by simp; omega), List.getElem?_eq_none (by simp; omega)]
theorem BOut.set {w : World} {g n cap : Nat} {zs : List Int} (h : BOut w g n cap zs) (i : Nat) (hi : i < n) (z : Int) : BOut (w.setCell ⟨g, i, none⟩ (u8v z)) g n cap (zs.set i z) := by
  obtain ⟨cur, hh, hs, hc⟩ := h.blk
  have hl := h.len
  have hle := h.le
  refine ⟨by simp [hl], h.le, h.max, cur.set! i (u8v z), by simp [World.setCell, Array.getElem?_modify, hh], by simp [hs], fun j hj => ?_⟩
  by_cases he : i = j
  · subst he
    simp [List.getD, show i < cur.size by omega, show i < zs.length by omega]
  · have h1 := hc j hj
    simp [List.getD, he] at h1 ⊢
    exact h1

theorem But.setCells {bt b : Nat} {a : World} (hb : a.heap.size ≤ b) : ∀ (vs : List Value) (o : Nat) (w : World), But bt a w → But bt a (w.setCells b o vs)
  | [], _, _, h => h
  | v :: r, o, w, h => But.setCells hb r (o + 1) _ (h.setCell ⟨b, o, none⟩ (.inr hb) v)
theorem TapeOk.setCells {B bt b : Nat} (h1 : b ≠ bt) (h2 : B ≤ b) : ∀ (vs : List Value) (o : Nat) (w : World), TapeOk B w bt → TapeOk B (w.setCells b o vs) bt
  | [], _, _, h => h
  | v :: r, o, w, h => TapeOk.setCells h1 h2 r (o + 1) _ (h.setCell (p := ⟨b, o, none⟩) h1 h2 v)

/-- What 'Bytes' comes to: some bytes. -/
def BytesPost (B bt N : Nat) (w : World) (e : Ending) (w' : World) : Prop :=
  ∃ (b n cap : Nat) (zs : List Int), e = .returned (.slice (some ⟨b, 0, none⟩) n cap) ∧ zs.length = n ∧ n ≤ N + 1 ∧ (∀ j, j < n → w'.cell? ⟨b, j, none⟩ = some (u8v (zs.getD j 0))) ∧ TapeOk B w' bt ∧ But bt w w'

set_option maxRecDepth 100000 in
set_option maxHeartbeats 2000000 in
theorem bytes_any {B bt : Nat} {w : World} (ht : TapeOk B w bt) (b0 n c : Nat) (zs : List Int) (hlen : zs.length = n) (h1 : 1 ≤ n) (hn : n ≤ 1000000)
    (hc : ∀ j, j < n → w.cell? ⟨b0, j, none⟩ = some (u8v (zs.getD j 0))) :
    Calls Tryd.prog 16 #[.pointer (some ⟨bt, 0, none⟩), .slice (some ⟨b0, 0, none⟩) n c] w (BytesPost B bt n w) := by
  have hlt := ht.lt
  have Ht := Lib.hid ht
  have HC := Lib.hid hc
  have HL := Lib.hid hlen
  clear ht hc hlen
  obtain ⟨i8, hi8, hz8, hs8, hb8⟩ := info_parts infoU8
  have hm0 := World.ownsRow_made (e := 5) (size := 1) (base := w.heap.size) w #[] 0 (Nat.le_refl _) (Nat.zero_le _) rfl
  have HM := Lib.hid hm0
  have HN : Hid (∀ j u, (zs.map u8v)[j]? = some u → (w.alloc (.cells #[] 5)).cell? ((⟨b0, 0, none⟩ : Addr).add j) = some u) := by
    intro j u hu
    have hj : j < n := by have := (List.getElem?_eq_some_iff.1 hu).1; have := HL.out; simp at *; omega
    have h1 := HC.out j hj
    have h2 : (⟨b0, 0, none⟩ : Addr).add j = ⟨b0, j, none⟩ := by rw [Addr.add_lit, Nat.zero_add]
    rw [h2]
    have h3 := (((Below.refl w.heap.size w).alloc (Nat.le_refl _) (.cells #[] 5)).cell (p := ⟨b0, j, none⟩) (cell_ltB h1)).trans h1
    rw [h3, ← hu]
    simp [List.getD, List.getElem?_eq_getElem (show j < zs.length by have := HL.out; omega)]
  have HO1 : Hid (∀ u ∈ zs.map u8v, u.oneCell' = true) := by
    intro u hu
    obtain ⟨x, _, rfl⟩ := List.mem_map.1 hu
    rfl
  clear hm0
  go_enter Tryd.func16, Tryd.ntmps16
  go_wp2_with (at_builtin; refine wpList_append_lies _ rfl _ _ 38 rfl w.heap.size 5 i8 _ 1 1 Tryd.underlying38 hi8 hz8 hs8 hb8 rfl (by omega) _ 0 [] rfl HM.out ⟨b0, 0, none⟩ n c (zs.map u8v) rfl (by simp; exact HL.out) HN.out HO1.out (by omega) (by unfold maxLen; omega) (by omega) (by simp) (w.heap.size + 1) (by simp) ?_; intro g cap w1 hown1 hgrow hor hgl; have hb1 := (((Below.refl w.heap.size w).alloc (Nat.le_refl _) (.cells #[] 5)).trans (Below.of_grown hgrow HM.out (by simp))); have hge : w.heap.size ≤ g := (by rcases hor with h | h; (have h2 : w.heap.size = g := Option.some.inj h; omega); omega); simp only [Nat.zero_add, List.nil_append] at hown1; have O1 := Lib.hid (BOut.of_row hown1); have T1 := Lib.hid (Ht.out.keep (hb1.block bt hlt) (fun k hk => hb1.block k (by have := Ht.out.ge; omega)) hb1.size); have B1 := Lib.hid (But.below (But.refl bt w) hb1); clear hown1 hgrow hor hb1 HN HO1 HM; rw [Nat.zero_add])
  refine (next_any T1.out n (by omega)).mono ?_
  rintro e w2 ⟨i, i0, i1, rfl, t2, b2⟩
  obtain ⟨iN, rfl⟩ := Int.eq_ofNat_of_zero_le i0
  have hiN : iN < n := by omega
  have hgb : g ≠ bt := by omega
  have O2 := Lib.hid (O1.out.but b2 hgb)
  have T2 := Lib.hid t2
  have B2 := Lib.hid (B1.out.trans b2)
  clear t2 b2 O1 T1 B1 i0 i1
  go_wp2_with fail
  refine (next_any T2.out 4 (by omega)).mono ?_
  rintro e w3 ⟨q, q0, q1, rfl, t3, b3⟩
  have O3 := Lib.hid (O2.out.but b3 hgb)
  have T3 := Lib.hid t3
  have B3 := Lib.hid (B2.out.trans b3)
  clear t3 b3 O2 T2 B2
  have hq : q = 0 ∨ q = 1 ∨ q = 2 ∨ q = 3 := by omega
  clear q0 q1
  have hcap := O3.out.le
  have hmax := O3.out.max
  unfold maxLen at hmax
  rcases hq with rfl | rfl | rfl | rfl
  · have c1 := O3.out.cell iN hiN
    go_wp2_with fail
    refine wp_region_T (S := fun w' => w'.cell? ⟨g, iN, none⟩ = some (u8v (zs.getD iN 0))) (st := 10) (by kernel_rfl) ?_
    refine wpAnyT_pure 0 ?v0 rfl (by kernel_rfl) (by kernel_rfl) (by kernel_rfl) (by kernel_rfl) (fun _ _ _ h => h) c1 rfl ?run0 ?rest0
    case run0 => intro w hS; go_simp; rfl
    case rest0 =>
    refine wpAnyT_pure 1 ?v1 rfl (by kernel_rfl) (by kernel_rfl) (by kernel_rfl) (by kernel_rfl) (fun _ _ _ h => h) c1 rfl ?run1 ?rest1
    case run1 => intro w hS; go_simp; rfl
    case rest1 =>
    refine wpAnyT_pure 2 ?v2 rfl (by kernel_rfl) (by kernel_rfl) (by kernel_rfl) (by kernel_rfl) (fun _ _ _ h => h) c1 rfl ?run2 ?rest2
    case run2 => intro w hS; go_simp; rfl
    case rest2 =>
    refine wpAnyT_pure 3 ?v3 rfl (by kernel_rfl) (by kernel_rfl) (by kernel_rfl) (by kernel_rfl) (fun _ _ _ h => h) c1 rfl ?run3 ?rest3
    case run3 => intro w hS; go_simp; rfl
    case rest3 =>
    refine wpAnyT_pure 4 ?v4 rfl (by kernel_rfl) (by kernel_rfl) (by kernel_rfl) (by kernel_rfl) (fun _ _ _ h => h) c1 rfl ?run4 ?rest4
    case run4 => intro w hS; go_simp; rfl
    case rest4 =>
    refine wpAnyT_all (rs := [5]) (by kernel_rfl) (by decide) ?_
    intro i hi
    obtain rfl : i = 5 := by simpa using hi
    clear hi
    refine wpOp_of_list rfl ?_
    go_wp2_with fail
    refine (next_any (T3.out.drewN 1) 255 (by omega)).mono ?_
    rintro e w4 ⟨r, r0, r1, rfl, t4, b4⟩
    have b4 := But.undrew b4
    have O4 := Lib.hid (O3.out.but b4 hgb)
    have T4 := Lib.hid t4
    have B4 := Lib.hid (B3.out.trans b4)
    have c2 := O4.out.cell iN hiN
    have f2 := O4.out.free iN
    clear t4 b4 O3 T3 B3 c1
    go_wp2
    refine ⟨fun _ => c2, ?_⟩
    refine wpAnyT_pure 6 ?v6 rfl (by kernel_rfl) (by kernel_rfl) (by kernel_rfl) (by kernel_rfl) (fun _ _ _ h => h) c2 rfl ?run6 ?rest6
    case run6 => intro w hS; go_simp; rfl
    case rest6 =>
    refine wpAnyT_pure 7 ?v7 rfl (by kernel_rfl) (by kernel_rfl) (by kernel_rfl) (by kernel_rfl) (fun _ _ _ h => h) c2 rfl ?run7 ?rest7
    case run7 => intro w hS; go_simp; rfl
    case rest7 =>
    refine wpAnyT_pure 8 ?v8 rfl (by kernel_rfl) (by kernel_rfl) (by kernel_rfl) (by kernel_rfl) (fun _ _ _ h => h) c2 rfl ?run8 ?rest8
    case run8 => intro w hS; go_simp; rfl
    case rest8 =>
    refine wpAnyT_pure 9 ?v9 rfl (by kernel_rfl) (by kernel_rfl) (by kernel_rfl) (by kernel_rfl) (fun _ _ _ h => h) c2 rfl ?run9 ?rest9
    case run9 => intro w hS; go_simp; rfl
    case rest9 =>
    refine wpAnyT_all (rs := [10]) (by kernel_rfl) (by decide) ?_
    intro i hi
    obtain rfl : i = 10 := by simpa using hi
    clear hi
    refine wpOp_of_list rfl ?_
    go_wp2
    refine ⟨fun h => absurd rfl h, ?_⟩
    refine wpAnyT_done (by kernel_rfl) ?_ _
    have O5 := Lib.hid (O4.out.set iN hiN)
    have T5 := Lib.hid (fun u => T4.out.setCell (p := ⟨g, iN, none⟩) hgb (by have := Ht.out.ge; show B ≤ g; omega) u)
    have B5 := Lib.hid (fun u => B4.out.setCell ⟨g, iN, none⟩ (.inr hge) u)
    go_wp2
    go_ret
    exact ⟨g, n, cap, _, rfl, (O5.out _).len, by omega, (O5.out _).cell, T5.out _, B5.out _⟩
  · have hid : decide ((iN : Int) ≤ (cap : Int)) = true := decide_eq_true (by omega)
    go_wp2
    go_ret
    exact ⟨g, iN, cap, (zs.take iN), rfl, by rw [List.length_take, HL.out]; omega, by omega, fun j hj => by rw [O3.out.cell j (by omega)]; congr 2; simp [List.getD, hj], T3.out, B3.out⟩
  · go_wp2_with fail
    refine (next_any T3.out 256 (by omega)).mono ?_
    rintro e w4 ⟨r, r0, r1, rfl, t4, b4⟩
    have r2 : r < 256 := by omega
    have O4 := Lib.hid (O3.out.but b4 hgb)
    have T4 := Lib.hid t4
    have B4 := Lib.hid (B3.out.trans b4)
    have hzw := O4.out.lt
    clear t4 b4 O3 T3 B3 r1
    go_wp2_with (at_builtin; refine wpList_pushH [.int .u8 r] rfl _ _ 38 rfl w.heap.size 5 _ 1 1 Tryd.underlying38 infoU8 rfl (by omega) _ _ _ (O4.out.own hge) rfl _ rfl (by simp) rfl rfl (by unfold maxLen; omega) (by omega) (by first | omega | (simp; omega)) ?_; intro g2 cap2 w6 hown1 hg1 hg2 hg3; have hown2 : w6.ownsRow w.heap.size 5 1 (.slice (some ⟨g2, 0, none⟩) (n + 1) cap2) (n + 1) ((zs ++ [r]).map u8v) := (by rw [List.map_append]; exact hown1); have O5 := Lib.hid (BOut.of_row hown2); have hb6 := Below.of_grown hg1 (O4.out.own hge) (by omega); have T5 := Lib.hid (T4.out.keep (hb6.block bt hlt) (fun k hk => hb6.block k (by have := Ht.out.ge; omega)) hb6.size); have B5 := Lib.hid (B4.out.belowB hb6 (Nat.le_refl _)); clear hown1 hown2 hg1 hb6 O4 T4 B4)
    go_ret
    exact ⟨g2, n + 1, cap2, _, rfl, O5.out.len, by omega, O5.out.cell, T5.out, B5.out⟩
  · obtain ⟨A, hA, hnews⟩ : ∃ A : Addr, (if cap = iN + 1 then some (⟨g, 0, none⟩ : Addr) else some ⟨g, iN + 1, none⟩) = some A ∧ Hid (∀ j u, ((zs.drop (iN + 1)).map u8v)[j]? = some u → w3.cell? (A.add j) = some u) := by
      have hlz := HL.out
      by_cases h : cap = iN + 1
      · refine ⟨⟨g, 0, none⟩, by simp [h], fun j u hu => ?_⟩
        rw [List.drop_of_length_le (by omega)] at hu
        simp at hu
      · refine ⟨⟨g, iN + 1, none⟩, by simp [h], fun j u hu => ?_⟩
        have hj : j < n - (iN + 1) := by
          have := (List.getElem?_eq_some_iff.1 hu).1
          simp at this
          omega
        rw [Addr.add_lit, O3.out.cell (iN + 1 + j) (by omega), ← hu]
        simp [List.getD, List.getElem?_eq_getElem (show iN + 1 + j < zs.length by omega)]
    have HSrc : Hid (Src Tryd.prog i8.size 38 (.slice (some A) (n - (iN + 1)) (cap - (iN + 1))) (n - (iN + 1)) ((zs.drop (iN + 1)).map u8v) (w3.drewN 1)) := by
      refine Src.ofSlice _ Tryd.underlying38 A _ _ _ (by rw [hs8, List.length_map, List.length_drop, HL.out]; omega) hnews.out ?_
      intro u hu
      obtain ⟨x, _, rfl⟩ := List.mem_map.1 hu
      rfl
    have hic : iN ≤ cap := by omega
    have hin : (iN : Int) ≤ (cap : Int) := by omega
    have hwr : IntKind.i64.wrap ((iN : Int) + 1) = (iN : Int) + 1 := by rw [IntKind.wrap_i64]; omega
    have hp0 : (0 : Int) ≤ (iN : Int) + 1 := by omega
    have hp1 : (iN : Int) + 1 ≤ (n : Int) := by omega
    have hp2 : ((iN : Int) + 1).toNat = iN + 1 := by omega
    go_wp2_with fail
    refine wp_region_T (S := fun _ => True) (st := 8) (by kernel_rfl) ?_
    refine wpAnyT_pure 0 ?u0 rfl (by kernel_rfl) (by kernel_rfl) (by kernel_rfl) (by kernel_rfl) (fun _ _ _ h => h) trivial rfl ?runx0 ?restx0
    case runx0 => intro w hS; go_simp; rfl
    case restx0 =>
    refine wpAnyT_pure 1 ?u1 rfl (by kernel_rfl) (by kernel_rfl) (by kernel_rfl) (by kernel_rfl) (fun _ _ _ h => h) trivial rfl ?runx1 ?restx1
    case runx1 => intro w hS; go_simp; rfl
    case restx1 =>
    refine wpAnyT_pure 2 ?u2 rfl (by kernel_rfl) (by kernel_rfl) (by kernel_rfl) (by kernel_rfl) (fun _ _ _ h => h) trivial rfl ?runx2 ?restx2
    case runx2 => intro w hS; go_simp; rfl
    case restx2 =>
    refine wpAnyT_pure 3 ?u3 rfl (by kernel_rfl) (by kernel_rfl) (by kernel_rfl) (by kernel_rfl) (fun _ _ _ h => h) trivial rfl ?runx3 ?restx3
    case runx3 => intro w hS; go_simp; rfl
    case restx3 =>
    refine wpAnyT_pure 4 ?u4 rfl (by kernel_rfl) (by kernel_rfl) (by kernel_rfl) (by kernel_rfl) (fun _ _ _ h => h) trivial rfl ?runx4 ?restx4
    case runx4 => intro w hS; go_simp; rfl
    case restx4 =>
    refine wpAnyT_pure 5 ?u5 rfl (by kernel_rfl) (by kernel_rfl) (by kernel_rfl) (by kernel_rfl) (fun _ _ _ h => h) trivial rfl ?runx5 ?restx5
    case runx5 => intro w hS; go_simp; rfl
    case restx5 =>
    refine wpAnyT_pure 6 ?u6 rfl (by kernel_rfl) (by kernel_rfl) (by kernel_rfl) (by kernel_rfl) (fun _ _ _ h => h) trivial rfl ?runx6 ?restx6
    case runx6 => intro w hS; go_simp; rfl
    case restx6 =>
    refine wpAnyT_all (rs := [7]) (by kernel_rfl) (by decide) ?_
    intro i hi
    obtain rfl : i = 7 := by simpa using hi
    clear hi
    refine wpOp_of_list rfl ?_
    have hnl : ((zs.drop (iN + 1)).map u8v).length = n - (iN + 1) := by rw [List.length_map, List.length_drop, HL.out]
    have HNL := Lib.hid hnl
    have hs1 : Hid (∀ j, j < ((zs.drop (iN + 1)).map u8v).length → ((w3.drewN 1).cell? ⟨g, 0 + iN * i8.size + j, none⟩).isSome = true) := by
      intro j hj
      rw [hnl] at hj
      rw [hs8, show 0 + iN * 1 + j = iN + j by omega]
      show (w3.cell? ⟨g, iN + j, none⟩).isSome = true
      rw [O3.out.cell (iN + j) (by omega)]
      rfl
    have hs2 : Hid (∀ j, j < ((zs.drop (iN + 1)).map u8v).length → (w3.drewN 1).frozen? ⟨g, 0 + iN * i8.size + j, none⟩ = false) := by
      intro j _
      exact O3.out.free _
    have T5 := Lib.hid (TapeOk.setCells hgb (by have := Ht.out.ge; omega) ((zs.drop (iN + 1)).map u8v) (0 + iN * i8.size) _ (T3.out.drewN 1))
    have B5 := Lib.hid (But.setCells hge ((zs.drop (iN + 1)).map u8v) (0 + iN * i8.size) _ (B3.out.drewN 1))
    have C5 : Hid (∀ j, j < iN + (n - (iN + 1)) → ((w3.drewN 1).setCells g (0 + iN * i8.size) ((zs.drop (iN + 1)).map u8v)).cell? ⟨g, j, none⟩ = some (u8v ((zs.take iN ++ zs.drop (iN + 1)).getD j 0))) := by
      intro j hj
      have hlz := HL.out
      rw [hs8, show 0 + iN * 1 = iN by omega]
      rcases Nat.lt_or_ge j iN with hlt | hge2
      · rw [World.cell?_setCells_out g _ _ _ ⟨g, j, none⟩ (fun _ _ => .inl hlt)]
        refine (O3.out.cell j (by omega)).trans ?_
        congr 2
        simp [List.getD, List.getElem?_append_left (show j < (zs.take iN).length by rw [List.length_take]; omega), hlt]
      · obtain ⟨m, rfl⟩ : ∃ m, j = iN + m := ⟨j - iN, by omega⟩
        have hm : m < ((zs.drop (iN + 1)).map u8v).length := by rw [hnl]; omega
        rw [World.cell?_setCells_in g _ iN _ (fun k hk => by have := hs1.out k hk; rw [hs8, show 0 + iN * 1 + k = iN + k by omega] at this; exact this) m hm]
        simp only [List.getElem_map, List.getElem_drop]
        congr 2
        rw [List.getD, List.getElem?_append_right (by rw [List.length_take]; omega), List.length_take, show iN + m - min iN zs.length = m by omega, List.getElem?_drop, List.getElem?_eq_getElem (show iN + 1 + m < zs.length by omega)]
        rfl
    clear hnl
    have HSrc2 := Lib.hid HSrc.out
    clear HSrc
    have ho : Hid (0 + iN * i8.size = iN) := by unfold Hid; rw [hs8]; omega
    obtain ⟨NW, hNW⟩ : ∃ NW, (zs.drop (iN + 1)).map u8v = NW := ⟨_, rfl⟩
    obtain ⟨ZZ, hZZ⟩ : ∃ ZZ, zs.take iN ++ zs.drop (iN + 1) = ZZ := ⟨_, rfl⟩
    have hZL : Hid (ZZ.length = iN + (n - (iN + 1))) := by unfold Hid; have := HL.out; rw [← hZZ, List.length_append, List.length_take, List.length_drop]; omega
    rw [hZZ] at C5
    rw [hNW] at C5 T5 B5 HSrc2 hs1 hs2 HNL hnews
    clear hNW hZZ
    refine wpList_append_room_src _ rfl _ _ _ _ rfl _ i8 Tryd.underlying38 hi8 g 0 iN cap (by simp [Act.eval, Act.put]) _ (by simp [Act.eval, Act.put]) _ _ HSrc2.out (by omega) hs1.out hs2.out ?_
    rw [ho.out] at C5 T5 B5
    rw [ho.out]
    clear hs1 hs2 HSrc2
    go_wp2
    refine ⟨fun _ => trivial, ?_⟩
    refine wpAnyT_all (rs := [8]) (by kernel_rfl) (by decide) ?_
    intro i hi
    obtain rfl : i = 8 := by simpa using hi
    clear hi
    refine wpOp_of_list rfl ?_
    go_wp2
    refine ⟨fun h => absurd rfl h, ?_⟩
    refine wpAnyT_done (by kernel_rfl) ?_ _
    go_wp2
    go_ret
    exact ⟨g, iN + (n - (iN + 1)), cap, ZZ, rfl, hZL.out, by omega, C5.out, T5.out, B5.out⟩
end Go.Proofs.YtgmlnbheceeklaaDoor
