/- Walks: flqref19.Remove, of a seat that is there. Printed by wip/gen_aug5.py. -/
import Derived.Test.YtbgoogjhgeoapaaAuG4
import Derived.Test.YtbgoogjhgeoapaaHold4
set_option linter.unusedVariables false
set_option linter.unusedSimpArgs false
set_option linter.unusedSectionVars false
namespace Go.Proofs.Ytbgoogjhgeoapaa
open Go.RowKit
variable [Base]

def remR (r : RV) (i : Nat) : RV := ⟨r.ba, r.pe, r.ss.take i ++ r.ss.drop (i + 1), if i < r.at_ then r.at_ - 1 else if i = r.at_ then (if r.ss.length ≤ r.at_ + 1 then 0 else r.at_) else r.at_, r.op && decide (i ≠ r.at_)⟩
/-- What stands while the ring's own block is written. -/
structure Good (base : Nat) (w : World) (rb : Nat) (z : Obj) (s : Value) (l : List SV) (x : World) : Prop where
  z : x.heap[rb + 1]? = some z
  own : x.ownsRow base 49 4 s l.length (seatsX l)
  bel : Below w.heap.size w x
theorem Good.set {base : Nat} {w : World} {rb : Nat} {z : Obj} {s : Value} {l : List SV} {x : World} (h : Good base w rb z s l x) (h1 : w.heap.size = rb) (h2 : rb + 1 < base) (o : Nat) (u : Value) : Good base w rb z s l (x.setCell ⟨rb, o, none⟩ u) :=
  ⟨by rw [Below.heap_setCell _ _ _ _ (by show rb + 1 ≠ rb; omega)]; exact h.z, own_keep h.own (fun q _ hq2 => Below.heap_setCell _ _ _ _ (by show q ≠ rb; omega)), h.bel.setCell (by show w.heap.size ≤ rb; omega) _⟩
theorem Good.fin {B base : Nat} {w F : World} {rb : Nat} {z0 z1 z2 z3 z4 y0 y1 y2 y3 y4 : Value} {s : Value} {l : List SV} {v : World} (h : Good base w rb (.cells #[z0, z1, z2, z3, z4] 44 (0, 0)) s l v) (h1 : w.heap.size = rb) (h2 : rb + 1 < base) (hB : B ≤ w.heap.size)
    (hF : F = (((((v.setCell ⟨rb + 1, 0, none⟩ y0).setCell ⟨rb + 1, 1, none⟩ y1).setCell ⟨rb + 1, 2, none⟩ y2).setCell ⟨rb + 1, 3, none⟩ y3).setCell ⟨rb + 1, 4, none⟩ y4)) :
    F.heap[rb + 1]? = some (.cells #[y0, y1, y2, y3, y4] 44 (0, 0)) ∧ OwnS B F s l ∧ Below w.heap.size w F := by
  subst hF
  have e1 := set_cells (o := 4) (u := y4) (set_cells (o := 3) (u := y3) (set_cells (o := 2) (u := y2) (set_cells (o := 1) (u := y1) (set_cells (o := 0) (u := y0) h.z))))
  simp only [List.setIfInBounds_toArray, List.set_cons_zero, List.set_cons_succ] at e1
  refine ⟨e1, ?_, ?_⟩
  · refine own_base (own_keep h.own fun q hq hq2 => ?_) (show B ≤ base by omega)
    rw [Below.heap_setCell _ _ _ _ (by show q ≠ rb + 1; omega), Below.heap_setCell _ _ _ _ (by show q ≠ rb + 1; omega), Below.heap_setCell _ _ _ _ (by show q ≠ rb + 1; omega), Below.heap_setCell _ _ _ _ (by show q ≠ rb + 1; omega), Below.heap_setCell _ _ _ _ (by show q ≠ rb + 1; omega)]
  · exact ((((h.bel.setCell (by show w.heap.size ≤ rb + 1; omega) _).setCell (by show w.heap.size ≤ rb + 1; omega) _).setCell (by show w.heap.size ≤ rb + 1; omega) _).setCell (by show w.heap.size ≤ rb + 1; omega) _).setCell (by show w.heap.size ≤ rb + 1; omega) _
set_option maxRecDepth 100000 in
set_option maxHeartbeats 4000000 in
theorem rem_lt_mid {B : Nat} (r : RV) (s : SV) (w : World) (n g c i at0 : Nat) (op0 : Bool) (hB : B ≤ w.heap.size) (hop : r.op = op0) (hat : r.at_ = at0) (hl : r.ss.length = n) (hown : OwnS B w (.slice (some ⟨g, 0, none⟩) n c) r.ss) (hr : RingOk r) (hi : r.ss[i]? = some s) (hc1 : i < at0) (at1 : Nat) (hc2 : at0 = at1 + 1) (hce : i + 1 < c) :
    Calls Try.prog 17 #[ringV r (.slice (some ⟨g, 0, none⟩) n c), iv s.id] w (RingQ B (remR r i) (.bool true) w) := by
  obtain ⟨-, hBg, hg, hnc, hc, -, -⟩ := hown.form
  unfold maxLen at hc
  have hx := hown.seats
  have HX := Lib.hid hx
  have HR := Lib.hid hr
  have HL := Lib.hid hl
  have HBB := Lib.hid hB
  have hin : i < n := by rw [← hl]; exact (List.getElem?_eq_some_iff.1 hi).1
  have hn16 : n ≤ 16 := by rw [← hl]; exact hr.len
  have hat16 : at0 ≤ 16 := by have h1 := hr.at_; rw [hat] at h1; omega
  have HRV : ∀ v, ringV r v = .agg #[iv r.ba, iv r.pe, v, iv at0, .bool op0] := fun v => by unfold ringV; rw [hop, hat]
  rw [HRV]
  have HVR := Lib.hid (show ∀ w', SeatsAt w' (.slice (some ⟨g, 0, none⟩) n c) r.ss → Calls Try.prog 29 #[.agg #[iv r.ba, iv r.pe, (.slice (some ⟨g, 0, none⟩) n c), iv at0, .bool op0]] w' (BoolQ true w') from fun w' h' => by rw [← HRV]; exact vring_any r _ w' h' HR.out)
  have HSE := Lib.hid (show ∀ w', SeatsAt w' (.slice (some ⟨g, 0, none⟩) n c) r.ss → Calls Try.prog 30 #[.agg #[iv r.ba, iv r.pe, (.slice (some ⟨g, 0, none⟩) n c), iv at0, .bool op0], iv s.id] w' (IntQ (i : Int) w') from fun w' h' => by rw [← HRV]; exact seat_eq (by have := seatFrom_at r.ss 0 i s HR.out.nd hi; simpa using this) _ w' h')
  have HREM := Lib.hid (show remR r i = ⟨r.ba, r.pe, r.ss.take i ++ r.ss.drop (i + 1), at1, op0⟩ by
    unfold remR
    rw [hop, hat, hl]
    rw [if_pos hc1, show decide (i ≠ at0) = true by simp; omega, Bool.and_true, hc2, Nat.add_sub_cancel])
  obtain ⟨j, hj⟩ : ∃ j, i + 1 = j := ⟨_, rfl⟩
  have HJ := Lib.hid hj
  obtain ⟨W, hW⟩ : ∃ W, (w.alloc (.cells #[iv r.ba, iv r.pe, (.slice (some ⟨g, 0, none⟩) n c), iv at0, .bool op0] 44)).alloc (.cells #[iv 0, iv 0, .slice none 0 0, iv 0, .bool false] 44) = W := ⟨_, rfl⟩
  obtain ⟨rb, hrb⟩ : ∃ b, w.heap.size = b := ⟨_, rfl⟩
  have HB := Lib.hid (show W.heap[rb]? = some (.cells #[iv r.ba, iv r.pe, (.slice (some ⟨g, 0, none⟩) n c), iv at0, .bool op0] 44 (0, 0)) by rw [← hW, ← hrb]; exact lies_alloc _ (heap_alloc_new _ _))
  have HZ := Lib.hid (show W.heap[rb + 1]? = some (.cells #[iv 0, iv 0, .slice none 0 0, iv 0, .bool false] 44 (0, 0)) by rw [← hW, ← hrb]; exact lies_new2 _ _)
  have BW := Lib.hid (show Below w.heap.size w W by rw [← hW]; exact ((Below.refl _ _).alloc (Nat.le_refl _) _).alloc (by simp) _)
  have HW := Lib.hid hW
  have HRB := Lib.hid hrb
  have hud : ∀ b : Bool, (undef = Value.bool b) = False := fun b => by simp [undef]
  have i0 : decide ((i : Int) < 0) = false := by simp
  have i1 : 0 ≤ (i : Int) := by omega
  have i2 : (i : Int) ≤ (c : Int) := by omega
  have i3 : 0 ≤ (j : Int) := by omega
  have i4 : (j : Int) ≤ (n : Int) := by omega
  have i5 : (n : Int) ≤ (c : Int) := by omega
  have i6 : (j : Int) ≤ (c : Int) := by omega
  have hcj : ¬ c = j := by omega
  have t1 : decide ((i : Int) < (at0 : Int)) = true := by simp; omega
  clear hx hown hr hl hop hat HRV hW hB hi
  have SF := Lib.hid (show SliceAt w 49 4 (.slice (some ⟨g, 0, none⟩) i c) (seatsX (r.ss.take i)) by rw [← seatsX_take]; exact (show SliceAt w 49 4 (.slice (some ⟨g, 0, none⟩) n c) (seatsX r.ss) from HX.out).front i (by omega))
  have SB := Lib.hid (show SliceAt w 49 4 (.slice (some ⟨g, j * 4, none⟩) (n - j) (c - j)) (seatsX (r.ss.drop (i + 1))) by rw [← seatsX_drop, HJ.out]; have h1 := (show SliceAt w 49 4 (.slice (some ⟨g, 0, none⟩) n c) (seatsX r.ss) from HX.out).back j (by omega); rw [Nat.zero_add] at h1; exact h1)
  have LF := Lib.hid (show (seatsX (r.ss.take i)).length = i * 4 by rw [seatsX_len, List.length_take, HL.out]; omega)
  have LB := Lib.hid (show (seatsX (r.ss.drop (i + 1))).length = (n - j) * 4 by rw [seatsX_len, List.length_drop, HL.out, HJ.out])
  have HT2 := Lib.hid (show (at0 : Int) - 1 = (at1 : Int) by omega)
  have HWJ := Lib.hid (show IntKind.i64.wrap ((i : Int) + 1) = (j : Int) by rw [IntWalk.i64_in _ (by omega)]; omega)
  go_enter Try.func17, Try.ntmps17
  clear hj hc2 hc
  go_wp2_with fail
  rw [show (w.alloc (.cells #[iv r.ba, iv r.pe, (.slice (some ⟨g, 0, none⟩) n c), iv at0, .bool op0] 44)).alloc (.cells #[iv 0, iv 0, .slice none 0 0, iv 0, .bool false] 44) = W from HW.out]
  try rw [HRB.out]
  obtain ⟨x0, x1, x2, x3, x4⟩ := cells5 HB.out
  clear hrb
  go_upto_region 4 with (first
    | (go_at_call 30; refine (HSE.out _ (HX.out.below BW.out)).mono ?_; rintro e w1 ⟨rfl, b1⟩; have B1 := Lib.hid b1; clear b1 x0 x1 x2 x3 x4; have HB1 := Lib.hid (lies_below HB.out B1.out (lt_heap HB.out)); obtain ⟨x0, x1, x2, x3, x4⟩ := cells5 HB1.out)
    | (go_at_call 29; refine (HVR.out _ ((HX.out.below BW.out).below B1.out)).mono ?_; rintro e w2 ⟨rfl, b2⟩; have B2 := Lib.hid (B1.out.trans (b2.mono B1.out.size)); clear b2 x0 x1 x2 x3 x4; have HB2 := Lib.hid (lies_below HB.out B2.out (lt_heap HB.out)); have HZ2 := Lib.hid (lies_below HZ.out B2.out (lt_heap HZ.out)); obtain ⟨x0, x1, x2, x3, x4⟩ := cells5 HB2.out))
  have BW2 := Lib.hid (show Below w.heap.size w (w2.drewN 1) from below_drewQ (BW.out.trans (B2.out.mono BW.out.size)) 1)
  have hlrz : rb + 1 < w2.heap.size := lt_heap HZ2.out
  have hws : w.heap.size ≤ w2.heap.size := BW2.out.size
  refine wp_region_D (S := fun w' => w'.cell? ⟨rb, 2, none⟩ = some (.slice (some ⟨g, 0, none⟩) n c)) (st := 13) (by kernel_rfl) ?_
  have hS0 : (fun w' : World => w'.cell? ⟨rb, 2, none⟩ = some (.slice (some ⟨g, 0, none⟩) n c)) _ := x2
  refine wpAnyT_pureD 1 (some 19) ?v1 rfl (by kernel_rfl) (by kernel_rfl) (by kernel_rfl) (by kernel_rfl) (fun _ _ _ h => h) hS0 (by kernel_rfl) rfl ?run1 ?rest1
  case run1 => intro w hS; have hS' : w.cell? ⟨rb, 2, none⟩ = some (.slice (some ⟨g, 0, none⟩) n c) := hS; go_simp; rfl
  refine wpAnyT_pureD 2 (some 20) ?v2 rfl (by kernel_rfl) (by kernel_rfl) (by kernel_rfl) (by kernel_rfl) (fun _ _ _ h => h) hS0 (by kernel_rfl) rfl ?run2 ?rest2
  case run2 => intro w hS; have hS' : w.cell? ⟨rb, 2, none⟩ = some (.slice (some ⟨g, 0, none⟩) n c) := hS; go_simp; rfl
  refine wpAnyT_pureD 3 (some 21) ?v3 rfl (by kernel_rfl) (by kernel_rfl) (by kernel_rfl) (by kernel_rfl) (fun _ _ _ h => h) hS0 (by kernel_rfl) rfl ?run3 ?rest3
  case run3 => intro w hS; have hS' : w.cell? ⟨rb, 2, none⟩ = some (.slice (some ⟨g, 0, none⟩) n c) := hS; go_simp; rfl
  refine wpAnyT_pureD 4 (some 22) ?v4 rfl (by kernel_rfl) (by kernel_rfl) (by kernel_rfl) (by kernel_rfl) (fun _ _ _ h => h) hS0 (by kernel_rfl) rfl ?run4 ?rest4
  case run4 => intro w hS; have hS' : w.cell? ⟨rb, 2, none⟩ = some (.slice (some ⟨g, 0, none⟩) n c) := hS; go_simp; rfl
  refine wpAnyT_pureD 6 (some 24) ?v5 rfl (by kernel_rfl) (by kernel_rfl) (by kernel_rfl) (by kernel_rfl) (fun _ _ _ h => h) hS0 (by kernel_rfl) rfl ?run5 ?rest5
  case run5 => intro w hS; have hS' : w.cell? ⟨rb, 2, none⟩ = some (.slice (some ⟨g, 0, none⟩) n c) := hS; go_simp; rfl
  refine wpAnyT_pureD 7 (some 25) ?v6 rfl (by kernel_rfl) (by kernel_rfl) (by kernel_rfl) (by kernel_rfl) (fun _ _ _ h => h) hS0 (by kernel_rfl) rfl ?run6 ?rest6
  case run6 => intro w hS; have hS' : w.cell? ⟨rb, 2, none⟩ = some (.slice (some ⟨g, 0, none⟩) n c) := hS; go_simp; rfl
  refine wpAnyT_pureD 8 (some 26) ?v7 rfl (by kernel_rfl) (by kernel_rfl) (by kernel_rfl) (by kernel_rfl) (fun _ _ _ h => h) hS0 (by kernel_rfl) rfl ?run7 ?rest7
  case run7 => intro w hS; have hS' : w.cell? ⟨rb, 2, none⟩ = some (.slice (some ⟨g, 0, none⟩) n c) := hS; go_simp; rfl
  refine wpAnyT_pureD 9 (some 27) ?v8 rfl (by kernel_rfl) (by kernel_rfl) (by kernel_rfl) (by kernel_rfl) (fun _ _ _ h => h) hS0 (by kernel_rfl) rfl ?run8 ?rest8
  case run8 => intro w hS; have hS' : w.cell? ⟨rb, 2, none⟩ = some (.slice (some ⟨g, 0, none⟩) n c) := hS; have hq := HWJ.out; go_simp; rfl
  refine wpAnyT_pureD 10 (some 28) ?v9 rfl (by kernel_rfl) (by kernel_rfl) (by kernel_rfl) (by kernel_rfl) (fun _ _ _ h => h) hS0 (by kernel_rfl) rfl ?run9 ?rest9
  case run9 => intro w hS; have hS' : w.cell? ⟨rb, 2, none⟩ = some (.slice (some ⟨g, 0, none⟩) n c) := hS; go_simp; rfl
  refine wpAnyT_value 0 (some 18) (.slice (some ⟨w2.heap.size, 0, none⟩) 0 0) ((w2.drewN 1).alloc (.cells #[] 49)) rfl (by kernel_rfl) (by kernel_rfl) ?rva rfl (fun _ => ?sa) ?_
  case rva => go_simp
  case sa => exact (World.cell?_of_block (Below.heap_alloc _ _ _ (by show rb < w2.heap.size; omega))).trans hS0
  have hS0 : (fun w' : World => w'.cell? ⟨rb, 2, none⟩ = some (.slice (some ⟨g, 0, none⟩) n c)) ((w2.drewN 1).alloc (.cells #[] 49)) := (World.cell?_of_block (Below.heap_alloc _ _ _ (by show rb < w2.heap.size; omega))).trans hS0
  refine wpAnyT_append 5 (some 23) rfl (by kernel_rfl) (by kernel_rfl) rfl _ _ 42 rfl w2.heap.size 49 _ 4 32 Try.underlying42 info_seat rfl (by decide) _ 0 [] (own_empty (w := w2.drewN 1) rfl) (by kernel_rfl) (.slice (some ⟨g, 0, none⟩) i c) i (seatsX (r.ss.take i)) (by kernel_rfl) (SliceAt.same SF.out (SameT.below (BW2.out.alloc BW2.out.size _))) LF.out (seatsX_oc _) (by unfold maxLen; omega) (by omega) (by simp) ?_
  intro g1 d1 v1 own1 gr1
  have B3 := Lib.hid (show Below w2.heap.size (w2.drewN 1) v1 from grown_below rfl gr1)
  have OW1 := Lib.hid own1
  have S3 : w2.heap.size ≤ v1.heap.size := B3.out.size
  clear own1 gr1
  have hS1 : (fun w' : World => w'.cell? ⟨rb, 2, none⟩ = some (.slice (some ⟨g, 0, none⟩) n c)) v1 := (World.cell?_of_block (B3.out.block rb (by omega))).trans ((World.cell?_of_block (Below.heap_alloc _ _ _ (by show rb < w2.heap.size; omega))).symm.trans hS0)
  clear hS0
  have hS0 : (fun w' : World => w'.cell? ⟨rb, 2, none⟩ = some (.slice (some ⟨g, 0, none⟩) n c)) v1 := hS1
  refine ⟨fun _ => hS0, ?_⟩
  refine wpAnyT_append 11 (some 29) rfl (by kernel_rfl) (by kernel_rfl) rfl _ _ 42 rfl w2.heap.size 49 _ 4 32 Try.underlying42 info_seat rfl (by decide) _ _ _ OW1.out (by kernel_rfl) (.slice (some ⟨g, j * 4, none⟩) (n - j) (c - j)) (n - j) (seatsX (r.ss.drop (i + 1))) (by kernel_rfl) (SliceAt.same SB.out (SameT.below (BW2.out.trans (B3.out.mono hws)))) LB.out (seatsX_oc _) (by unfold maxLen; omega) (by omega) S3 ?_
  intro g2 d2 v2 own2 gr2
  have B4 := Lib.hid (show Below w2.heap.size (w2.drewN 1) v2 from B3.out.trans (Below.of_grown gr2 OW1.out S3))
  have OW2 := Lib.hid own2
  have B4w := Lib.hid (show Below w2.heap.size w2 v2 from ⟨B4.out.os, B4.out.tape, B4.out.output, B4.out.size, B4.out.block⟩)
  have hS1 : (fun w' : World => w'.cell? ⟨rb, 2, none⟩ = some (.slice (some ⟨g, 0, none⟩) n c)) v2 := (World.cell?_of_block (B4.out.block rb (by omega))).trans ((World.cell?_of_block (B3.out.block rb (by omega))).symm.trans hS0)
  clear own2 gr2 hS0
  have hS0 : (fun w' : World => w'.cell? ⟨rb, 2, none⟩ = some (.slice (some ⟨g, 0, none⟩) n c)) v2 := hS1
  refine ⟨fun _ => hS0, ?_⟩
  refine wpAnyT_pureD 12 (some 30) ?v10 rfl (by kernel_rfl) (by kernel_rfl) (by kernel_rfl) (by kernel_rfl) (fun _ _ _ h => h) hS0 (by kernel_rfl) rfl ?run10 ?rest10
  case run10 => intro w hS; have hS' : w.cell? ⟨rb, 2, none⟩ = some (.slice (some ⟨g, 0, none⟩) n c) := hS; go_simp; rfl
  have fz := (lies_cells (lies_below HB2.out B4w.out (by omega))).2
  refine wpAnyT_step 13 none (v2.setCell ⟨rb, 2, none⟩ (.slice g2 (0 + i + (n - j)) d2)) rfl (by kernel_rfl) (by kernel_rfl) ?rs rfl (fun h => absurd rfl h) ?_
  case rs => (have q2 : v2.cell? ⟨rb, 2, none⟩ = some (.slice (some ⟨g, 0, none⟩) n c) := hS0); (have q3 := fz 2); go_simp
  refine wpAnyT_done (by kernel_rfl) ?_ _
  generalize hA : Act.put _ _ _ = A0
  simp only [put_mk, put_no, List.setIfInBounds_toArray, List.set_cons_succ, List.set_cons_zero] at hA
  subst hA
  simp only [Nat.zero_add, Nat.add_zero]
  have OW3 := Lib.hid (show v2.ownsRow w2.heap.size 49 4 (Value.slice g2 (i + (n - j)) d2) (i + (n - j)) ([] ++ seatsX (r.ss.take i) ++ seatsX (r.ss.drop (i + 1))) by have h := OW2.out; simp only [Nat.zero_add, Nat.add_zero] at h; exact h)
  obtain ⟨s3, hs3⟩ : ∃ s, (Value.slice g2 (i + (n - j)) d2) = s := ⟨_, rfl⟩
  rw [hs3]
  have HLEN := Lib.hid (show (remR r i).ss.length = (i + (n - j)) by rw [HREM.out]; have h1 := HL.out; have h2 := HJ.out; simp only [List.length_append, List.length_take, List.length_drop]; omega)
  have HXS := Lib.hid (show seatsX (remR r i).ss = [] ++ seatsX (r.ss.take i) ++ seatsX (r.ss.drop (i + 1)) by rw [HREM.out]; rw [List.nil_append]; exact seatsX_app _ _)
  have OW4 := Lib.hid (show v2.ownsRow w2.heap.size 49 4 s3 (remR r i).ss.length (seatsX (remR r i).ss) by rw [HLEN.out, HXS.out, ← hs3]; exact OW3.out)
  have HB4 : v2.heap[rb]? = some (.cells #[iv r.ba, iv r.pe, (.slice (some ⟨g, 0, none⟩) n c), iv at0, .bool op0] 44 (0, 0)) := lies_below HB2.out B4w.out (by omega)
  have HZ4 : v2.heap[rb + 1]? = some (.cells #[iv 0, iv 0, .slice none 0 0, iv 0, .bool false] 44 (0, 0)) := lies_below HZ2.out B4w.out (by omega)
  have BV : Below w.heap.size w v2 := BW2.out.trans (B4.out.mono hws)
  have GD := Lib.hid (show Good w2.heap.size w rb (.cells #[iv 0, iv 0, .slice none 0 0, iv 0, .bool false] 44 (0, 0)) s3 (remR r i).ss (v2.setCell ⟨rb, 2, none⟩ s3) from (Good.mk HZ4 OW4.out BV).set HRB.out hlrz 2 s3)
  have HBV := Lib.hid (show (v2.setCell ⟨rb, 2, none⟩ s3).heap[rb]? = some (.cells #[iv r.ba, iv r.pe, s3, iv at0, .bool op0] 44 (0, 0)) from set_cells HB4)
  have HSV := Lib.hid (show s3 = (Value.slice g2 (i + (n - j)) d2) from hs3.symm)
  have HLZ := Lib.hid hlrz
  clear hs3 x0 x1 x2 x3 x4 hS0 HB4 HZ4 BV fz S3 hlrz
  obtain ⟨V, hV⟩ : ∃ V, v2.setCell ⟨rb, 2, none⟩ s3 = V := ⟨_, rfl⟩
  rw [hV] at GD HBV ⊢
  clear hV
  have HZV := Lib.hid GD.out.z
  obtain ⟨x0, x1, x2, x3, x4⟩ := cells5 HBV.out
  obtain ⟨z0, z1, z2, z3, z4⟩ := cells5 HZV.out
  have fx := (lies_cells HBV.out).2
  have fz := (lies_cells HZV.out).2
  have hrz : rb ≠ rb + 1 := Nat.ne_of_lt (Nat.lt_succ_self rb)
  have hrz2 : rb + 1 ≠ rb := Nat.succ_ne_self rb
  obtain rfl := HSV.out
  go_wp2
  show bodyPost _ _ _ _ _ ((((((V.setCell ⟨rb, 3, none⟩ (iv ((at0 : Int) - 1))).setCell ⟨rb + 1, 0, none⟩ (iv r.ba)).setCell ⟨rb + 1, 1, none⟩ (iv r.pe)).setCell ⟨rb + 1, 2, none⟩ (Value.slice g2 (i + (n - j)) d2)).setCell ⟨rb + 1, 3, none⟩ (iv ((at0 : Int) - 1))).setCell ⟨rb + 1, 4, none⟩ (.bool op0))
  obtain ⟨F, hF⟩ : ∃ F, (((((V.setCell ⟨rb, 3, none⟩ (iv ((at0 : Int) - 1))).setCell ⟨rb + 1, 0, none⟩ (iv r.ba)).setCell ⟨rb + 1, 1, none⟩ (iv r.pe)).setCell ⟨rb + 1, 2, none⟩ (Value.slice g2 (i + (n - j)) d2)).setCell ⟨rb + 1, 3, none⟩ (iv ((at0 : Int) - 1))).setCell ⟨rb + 1, 4, none⟩ (.bool op0) = F := ⟨_, rfl⟩
  rw [hF]
  have HF := Lib.hid (Good.fin (B := B) (GD.out.set HRB.out HLZ.out _ _) HRB.out HLZ.out HBB.out hF.symm)
  obtain ⟨f0, f1, f2, f3, f4⟩ := cells5 HF.out.1
  refine bodyPost_ret (v := .tuple #[ringV (remR r i) (Value.slice g2 (i + (n - j)) d2), .bool true]) (by simp [results, Try.results17, go_sem, f0, f1, f2, f3, f4, ringV, HREM.out, HT2.out]) rfl ⟨_, rfl, HF.out.2.1, HF.out.2.2⟩
set_option maxRecDepth 100000 in
set_option maxHeartbeats 4000000 in
theorem rem_lt_end {B : Nat} (r : RV) (s : SV) (w : World) (g i at0 j : Nat) (op0 : Bool) (hB : B ≤ w.heap.size) (hop : r.op = op0) (hat : r.at_ = at0) (hl : r.ss.length = j) (hown : OwnS B w (.slice (some ⟨g, 0, none⟩) j j) r.ss) (hr : RingOk r) (hi : r.ss[i]? = some s) (hc1 : i < at0) (at1 : Nat) (hc2 : at0 = at1 + 1) (hj : i + 1 = j) :
    Calls Try.prog 17 #[ringV r (.slice (some ⟨g, 0, none⟩) j j), iv s.id] w (RingQ B (remR r i) (.bool true) w) := by
  obtain ⟨-, hBg, hg, hnc, hc, -, -⟩ := hown.form
  unfold maxLen at hc
  have hx := hown.seats
  have HX := Lib.hid hx
  have HR := Lib.hid hr
  have HL := Lib.hid hl
  have HBB := Lib.hid hB
  have hin : i < j := by rw [← hl]; exact (List.getElem?_eq_some_iff.1 hi).1
  have hn16 : j ≤ 16 := by rw [← hl]; exact hr.len
  have hat16 : at0 ≤ 16 := by have h1 := hr.at_; rw [hat] at h1; omega
  have HRV : ∀ v, ringV r v = .agg #[iv r.ba, iv r.pe, v, iv at0, .bool op0] := fun v => by unfold ringV; rw [hop, hat]
  rw [HRV]
  have HVR := Lib.hid (show ∀ w', SeatsAt w' (.slice (some ⟨g, 0, none⟩) j j) r.ss → Calls Try.prog 29 #[.agg #[iv r.ba, iv r.pe, (.slice (some ⟨g, 0, none⟩) j j), iv at0, .bool op0]] w' (BoolQ true w') from fun w' h' => by rw [← HRV]; exact vring_any r _ w' h' HR.out)
  have HSE := Lib.hid (show ∀ w', SeatsAt w' (.slice (some ⟨g, 0, none⟩) j j) r.ss → Calls Try.prog 30 #[.agg #[iv r.ba, iv r.pe, (.slice (some ⟨g, 0, none⟩) j j), iv at0, .bool op0], iv s.id] w' (IntQ (i : Int) w') from fun w' h' => by rw [← HRV]; exact seat_eq (by have := seatFrom_at r.ss 0 i s HR.out.nd hi; simpa using this) _ w' h')
  have HREM := Lib.hid (show remR r i = ⟨r.ba, r.pe, r.ss.take i ++ r.ss.drop (i + 1), at1, op0⟩ by
    unfold remR
    rw [hop, hat, hl]
    rw [if_pos hc1, show decide (i ≠ at0) = true by simp; omega, Bool.and_true, hc2, Nat.add_sub_cancel])
  have HJ := Lib.hid hj
  obtain ⟨W, hW⟩ : ∃ W, (w.alloc (.cells #[iv r.ba, iv r.pe, (.slice (some ⟨g, 0, none⟩) j j), iv at0, .bool op0] 44)).alloc (.cells #[iv 0, iv 0, .slice none 0 0, iv 0, .bool false] 44) = W := ⟨_, rfl⟩
  obtain ⟨rb, hrb⟩ : ∃ b, w.heap.size = b := ⟨_, rfl⟩
  have HB := Lib.hid (show W.heap[rb]? = some (.cells #[iv r.ba, iv r.pe, (.slice (some ⟨g, 0, none⟩) j j), iv at0, .bool op0] 44 (0, 0)) by rw [← hW, ← hrb]; exact lies_alloc _ (heap_alloc_new _ _))
  have HZ := Lib.hid (show W.heap[rb + 1]? = some (.cells #[iv 0, iv 0, .slice none 0 0, iv 0, .bool false] 44 (0, 0)) by rw [← hW, ← hrb]; exact lies_new2 _ _)
  have BW := Lib.hid (show Below w.heap.size w W by rw [← hW]; exact ((Below.refl _ _).alloc (Nat.le_refl _) _).alloc (by simp) _)
  have HW := Lib.hid hW
  have HRB := Lib.hid hrb
  have hud : ∀ b : Bool, (undef = Value.bool b) = False := fun b => by simp [undef]
  have i0 : decide ((i : Int) < 0) = false := by simp
  have i1 : 0 ≤ (i : Int) := by omega
  have i2 : (i : Int) ≤ (j : Int) := by omega
  have i3 : 0 ≤ (j : Int) := by omega
  have t1 : decide ((i : Int) < (at0 : Int)) = true := by simp; omega
  clear hx hown hr hl hop hat HRV hW hB hi
  have SF := Lib.hid (show SliceAt w 49 4 (.slice (some ⟨g, 0, none⟩) i j) (seatsX (r.ss.take i)) by rw [← seatsX_take]; exact (show SliceAt w 49 4 (.slice (some ⟨g, 0, none⟩) j j) (seatsX r.ss) from HX.out).front i (by omega))
  have LF := Lib.hid (show (seatsX (r.ss.take i)).length = i * 4 by rw [seatsX_len, List.length_take, HL.out]; omega)
  have LB := Lib.hid (show (seatsX (r.ss.drop (i + 1))).length = (j - j) * 4 by rw [seatsX_len, List.length_drop, HL.out, HJ.out])
  have HT2 := Lib.hid (show (at0 : Int) - 1 = (at1 : Int) by omega)
  have HWJ := Lib.hid (show IntKind.i64.wrap ((i : Int) + 1) = (j : Int) by rw [IntWalk.i64_in _ (by omega)]; omega)
  go_enter Try.func17, Try.ntmps17
  clear hj hc2 hc
  go_wp2_with fail
  rw [show (w.alloc (.cells #[iv r.ba, iv r.pe, (.slice (some ⟨g, 0, none⟩) j j), iv at0, .bool op0] 44)).alloc (.cells #[iv 0, iv 0, .slice none 0 0, iv 0, .bool false] 44) = W from HW.out]
  try rw [HRB.out]
  obtain ⟨x0, x1, x2, x3, x4⟩ := cells5 HB.out
  clear hrb
  go_upto_region 4 with (first
    | (go_at_call 30; refine (HSE.out _ (HX.out.below BW.out)).mono ?_; rintro e w1 ⟨rfl, b1⟩; have B1 := Lib.hid b1; clear b1 x0 x1 x2 x3 x4; have HB1 := Lib.hid (lies_below HB.out B1.out (lt_heap HB.out)); obtain ⟨x0, x1, x2, x3, x4⟩ := cells5 HB1.out)
    | (go_at_call 29; refine (HVR.out _ ((HX.out.below BW.out).below B1.out)).mono ?_; rintro e w2 ⟨rfl, b2⟩; have B2 := Lib.hid (B1.out.trans (b2.mono B1.out.size)); clear b2 x0 x1 x2 x3 x4; have HB2 := Lib.hid (lies_below HB.out B2.out (lt_heap HB.out)); have HZ2 := Lib.hid (lies_below HZ.out B2.out (lt_heap HZ.out)); obtain ⟨x0, x1, x2, x3, x4⟩ := cells5 HB2.out))
  have BW2 := Lib.hid (show Below w.heap.size w (w2.drewN 1) from below_drewQ (BW.out.trans (B2.out.mono BW.out.size)) 1)
  have hlrz : rb + 1 < w2.heap.size := lt_heap HZ2.out
  have hws : w.heap.size ≤ w2.heap.size := BW2.out.size
  refine wp_region_D (S := fun w' => w'.cell? ⟨rb, 2, none⟩ = some (.slice (some ⟨g, 0, none⟩) j j)) (st := 13) (by kernel_rfl) ?_
  have hS0 : (fun w' : World => w'.cell? ⟨rb, 2, none⟩ = some (.slice (some ⟨g, 0, none⟩) j j)) _ := x2
  refine wpAnyT_pureD 1 (some 19) ?v11 rfl (by kernel_rfl) (by kernel_rfl) (by kernel_rfl) (by kernel_rfl) (fun _ _ _ h => h) hS0 (by kernel_rfl) rfl ?run11 ?rest11
  case run11 => intro w hS; have hS' : w.cell? ⟨rb, 2, none⟩ = some (.slice (some ⟨g, 0, none⟩) j j) := hS; go_simp; rfl
  refine wpAnyT_pureD 2 (some 20) ?v12 rfl (by kernel_rfl) (by kernel_rfl) (by kernel_rfl) (by kernel_rfl) (fun _ _ _ h => h) hS0 (by kernel_rfl) rfl ?run12 ?rest12
  case run12 => intro w hS; have hS' : w.cell? ⟨rb, 2, none⟩ = some (.slice (some ⟨g, 0, none⟩) j j) := hS; go_simp; rfl
  refine wpAnyT_pureD 3 (some 21) ?v13 rfl (by kernel_rfl) (by kernel_rfl) (by kernel_rfl) (by kernel_rfl) (fun _ _ _ h => h) hS0 (by kernel_rfl) rfl ?run13 ?rest13
  case run13 => intro w hS; have hS' : w.cell? ⟨rb, 2, none⟩ = some (.slice (some ⟨g, 0, none⟩) j j) := hS; go_simp; rfl
  refine wpAnyT_pureD 4 (some 22) ?v14 rfl (by kernel_rfl) (by kernel_rfl) (by kernel_rfl) (by kernel_rfl) (fun _ _ _ h => h) hS0 (by kernel_rfl) rfl ?run14 ?rest14
  case run14 => intro w hS; have hS' : w.cell? ⟨rb, 2, none⟩ = some (.slice (some ⟨g, 0, none⟩) j j) := hS; go_simp; rfl
  refine wpAnyT_pureD 6 (some 24) ?v15 rfl (by kernel_rfl) (by kernel_rfl) (by kernel_rfl) (by kernel_rfl) (fun _ _ _ h => h) hS0 (by kernel_rfl) rfl ?run15 ?rest15
  case run15 => intro w hS; have hS' : w.cell? ⟨rb, 2, none⟩ = some (.slice (some ⟨g, 0, none⟩) j j) := hS; go_simp; rfl
  refine wpAnyT_pureD 7 (some 25) ?v16 rfl (by kernel_rfl) (by kernel_rfl) (by kernel_rfl) (by kernel_rfl) (fun _ _ _ h => h) hS0 (by kernel_rfl) rfl ?run16 ?rest16
  case run16 => intro w hS; have hS' : w.cell? ⟨rb, 2, none⟩ = some (.slice (some ⟨g, 0, none⟩) j j) := hS; go_simp; rfl
  refine wpAnyT_pureD 8 (some 26) ?v17 rfl (by kernel_rfl) (by kernel_rfl) (by kernel_rfl) (by kernel_rfl) (fun _ _ _ h => h) hS0 (by kernel_rfl) rfl ?run17 ?rest17
  case run17 => intro w hS; have hS' : w.cell? ⟨rb, 2, none⟩ = some (.slice (some ⟨g, 0, none⟩) j j) := hS; go_simp; rfl
  refine wpAnyT_pureD 9 (some 27) ?v18 rfl (by kernel_rfl) (by kernel_rfl) (by kernel_rfl) (by kernel_rfl) (fun _ _ _ h => h) hS0 (by kernel_rfl) rfl ?run18 ?rest18
  case run18 => intro w hS; have hS' : w.cell? ⟨rb, 2, none⟩ = some (.slice (some ⟨g, 0, none⟩) j j) := hS; have hq := HWJ.out; go_simp; rfl
  refine wpAnyT_pureD 10 (some 28) ?v19 rfl (by kernel_rfl) (by kernel_rfl) (by kernel_rfl) (by kernel_rfl) (fun _ _ _ h => h) hS0 (by kernel_rfl) rfl ?run19 ?rest19
  case run19 => intro w hS; have hS' : w.cell? ⟨rb, 2, none⟩ = some (.slice (some ⟨g, 0, none⟩) j j) := hS; go_simp; rfl
  refine wpAnyT_value 0 (some 18) (.slice (some ⟨w2.heap.size, 0, none⟩) 0 0) ((w2.drewN 1).alloc (.cells #[] 49)) rfl (by kernel_rfl) (by kernel_rfl) ?rva rfl (fun _ => ?sa) ?_
  case rva => go_simp
  case sa => exact (World.cell?_of_block (Below.heap_alloc _ _ _ (by show rb < w2.heap.size; omega))).trans hS0
  have hS0 : (fun w' : World => w'.cell? ⟨rb, 2, none⟩ = some (.slice (some ⟨g, 0, none⟩) j j)) ((w2.drewN 1).alloc (.cells #[] 49)) := (World.cell?_of_block (Below.heap_alloc _ _ _ (by show rb < w2.heap.size; omega))).trans hS0
  refine wpAnyT_append 5 (some 23) rfl (by kernel_rfl) (by kernel_rfl) rfl _ _ 42 rfl w2.heap.size 49 _ 4 32 Try.underlying42 info_seat rfl (by decide) _ 0 [] (own_empty (w := w2.drewN 1) rfl) (by kernel_rfl) (.slice (some ⟨g, 0, none⟩) i j) i (seatsX (r.ss.take i)) (by kernel_rfl) (SliceAt.same SF.out (SameT.below (BW2.out.alloc BW2.out.size _))) LF.out (seatsX_oc _) (by unfold maxLen; omega) (by omega) (by simp) ?_
  intro g1 d1 v1 own1 gr1
  have B3 := Lib.hid (show Below w2.heap.size (w2.drewN 1) v1 from grown_below rfl gr1)
  have OW1 := Lib.hid own1
  have S3 : w2.heap.size ≤ v1.heap.size := B3.out.size
  clear own1 gr1
  have hS1 : (fun w' : World => w'.cell? ⟨rb, 2, none⟩ = some (.slice (some ⟨g, 0, none⟩) j j)) v1 := (World.cell?_of_block (B3.out.block rb (by omega))).trans ((World.cell?_of_block (Below.heap_alloc _ _ _ (by show rb < w2.heap.size; omega))).symm.trans hS0)
  clear hS0
  have hS0 : (fun w' : World => w'.cell? ⟨rb, 2, none⟩ = some (.slice (some ⟨g, 0, none⟩) j j)) v1 := hS1
  refine ⟨fun _ => hS0, ?_⟩
  refine wpAnyT_append 11 (some 29) rfl (by kernel_rfl) (by kernel_rfl) rfl _ _ 42 rfl w2.heap.size 49 _ 4 32 Try.underlying42 info_seat rfl (by decide) _ _ _ OW1.out (by kernel_rfl) (.slice (some ⟨g, 0, none⟩) 0 0) 0 [] (by kernel_rfl) (show SliceAt v1 49 4 (.slice (some ⟨g, 0, none⟩) 0 0) [] from ⟨0, 0, rfl, Nat.zero_le _, Nat.zero_le _, .inl ⟨⟨_, rfl⟩, rfl⟩⟩) rfl rfl (by unfold maxLen; omega) (by omega) S3 ?_
  intro g2 d2 v2 own2 gr2
  have B4 := Lib.hid (show Below w2.heap.size (w2.drewN 1) v2 from B3.out.trans (Below.of_grown gr2 OW1.out S3))
  have OW2 := Lib.hid own2
  have B4w := Lib.hid (show Below w2.heap.size w2 v2 from ⟨B4.out.os, B4.out.tape, B4.out.output, B4.out.size, B4.out.block⟩)
  have hS1 : (fun w' : World => w'.cell? ⟨rb, 2, none⟩ = some (.slice (some ⟨g, 0, none⟩) j j)) v2 := (World.cell?_of_block (B4.out.block rb (by omega))).trans ((World.cell?_of_block (B3.out.block rb (by omega))).symm.trans hS0)
  clear own2 gr2 hS0
  have hS0 : (fun w' : World => w'.cell? ⟨rb, 2, none⟩ = some (.slice (some ⟨g, 0, none⟩) j j)) v2 := hS1
  refine ⟨fun _ => hS0, ?_⟩
  refine wpAnyT_pureD 12 (some 30) ?v20 rfl (by kernel_rfl) (by kernel_rfl) (by kernel_rfl) (by kernel_rfl) (fun _ _ _ h => h) hS0 (by kernel_rfl) rfl ?run20 ?rest20
  case run20 => intro w hS; have hS' : w.cell? ⟨rb, 2, none⟩ = some (.slice (some ⟨g, 0, none⟩) j j) := hS; go_simp; rfl
  have fz := (lies_cells (lies_below HB2.out B4w.out (by omega))).2
  refine wpAnyT_step 13 none (v2.setCell ⟨rb, 2, none⟩ (.slice g2 (0 + i + 0) d2)) rfl (by kernel_rfl) (by kernel_rfl) ?rs rfl (fun h => absurd rfl h) ?_
  case rs => (have q2 : v2.cell? ⟨rb, 2, none⟩ = some (.slice (some ⟨g, 0, none⟩) j j) := hS0); (have q3 := fz 2); go_simp
  refine wpAnyT_done (by kernel_rfl) ?_ _
  generalize hA : Act.put _ _ _ = A0
  simp only [put_mk, put_no, List.setIfInBounds_toArray, List.set_cons_succ, List.set_cons_zero] at hA
  subst hA
  simp only [Nat.zero_add, Nat.add_zero]
  have OW3 := Lib.hid (show v2.ownsRow w2.heap.size 49 4 (Value.slice g2 (i) d2) i ([] ++ seatsX (r.ss.take i) ++ []) by have h := OW2.out; simp only [Nat.zero_add, Nat.add_zero] at h; exact h)
  obtain ⟨s3, hs3⟩ : ∃ s, (Value.slice g2 (i) d2) = s := ⟨_, rfl⟩
  rw [hs3]
  have HLEN := Lib.hid (show (remR r i).ss.length = i by rw [HREM.out]; have h1 := HL.out; have h2 := HJ.out; simp only [List.length_append, List.length_take, List.length_drop]; omega)
  have HXS := Lib.hid (show seatsX (remR r i).ss = [] ++ seatsX (r.ss.take i) ++ [] by rw [HREM.out]; simp only [List.append_nil, List.nil_append]; rw [List.drop_eq_nil_of_le (by have h1 := HL.out; have h2 := HJ.out; omega), List.append_nil])
  have OW4 := Lib.hid (show v2.ownsRow w2.heap.size 49 4 s3 (remR r i).ss.length (seatsX (remR r i).ss) by rw [HLEN.out, HXS.out, ← hs3]; exact OW3.out)
  have HB4 : v2.heap[rb]? = some (.cells #[iv r.ba, iv r.pe, (.slice (some ⟨g, 0, none⟩) j j), iv at0, .bool op0] 44 (0, 0)) := lies_below HB2.out B4w.out (by omega)
  have HZ4 : v2.heap[rb + 1]? = some (.cells #[iv 0, iv 0, .slice none 0 0, iv 0, .bool false] 44 (0, 0)) := lies_below HZ2.out B4w.out (by omega)
  have BV : Below w.heap.size w v2 := BW2.out.trans (B4.out.mono hws)
  have GD := Lib.hid (show Good w2.heap.size w rb (.cells #[iv 0, iv 0, .slice none 0 0, iv 0, .bool false] 44 (0, 0)) s3 (remR r i).ss (v2.setCell ⟨rb, 2, none⟩ s3) from (Good.mk HZ4 OW4.out BV).set HRB.out hlrz 2 s3)
  have HBV := Lib.hid (show (v2.setCell ⟨rb, 2, none⟩ s3).heap[rb]? = some (.cells #[iv r.ba, iv r.pe, s3, iv at0, .bool op0] 44 (0, 0)) from set_cells HB4)
  have HSV := Lib.hid (show s3 = (Value.slice g2 (i) d2) from hs3.symm)
  have HLZ := Lib.hid hlrz
  clear hs3 x0 x1 x2 x3 x4 hS0 HB4 HZ4 BV fz S3 hlrz
  obtain ⟨V, hV⟩ : ∃ V, v2.setCell ⟨rb, 2, none⟩ s3 = V := ⟨_, rfl⟩
  rw [hV] at GD HBV ⊢
  clear hV
  have HZV := Lib.hid GD.out.z
  obtain ⟨x0, x1, x2, x3, x4⟩ := cells5 HBV.out
  obtain ⟨z0, z1, z2, z3, z4⟩ := cells5 HZV.out
  have fx := (lies_cells HBV.out).2
  have fz := (lies_cells HZV.out).2
  have hrz : rb ≠ rb + 1 := Nat.ne_of_lt (Nat.lt_succ_self rb)
  have hrz2 : rb + 1 ≠ rb := Nat.succ_ne_self rb
  obtain rfl := HSV.out
  go_wp2
  show bodyPost _ _ _ _ _ ((((((V.setCell ⟨rb, 3, none⟩ (iv ((at0 : Int) - 1))).setCell ⟨rb + 1, 0, none⟩ (iv r.ba)).setCell ⟨rb + 1, 1, none⟩ (iv r.pe)).setCell ⟨rb + 1, 2, none⟩ (Value.slice g2 (i) d2)).setCell ⟨rb + 1, 3, none⟩ (iv ((at0 : Int) - 1))).setCell ⟨rb + 1, 4, none⟩ (.bool op0))
  obtain ⟨F, hF⟩ : ∃ F, (((((V.setCell ⟨rb, 3, none⟩ (iv ((at0 : Int) - 1))).setCell ⟨rb + 1, 0, none⟩ (iv r.ba)).setCell ⟨rb + 1, 1, none⟩ (iv r.pe)).setCell ⟨rb + 1, 2, none⟩ (Value.slice g2 (i) d2)).setCell ⟨rb + 1, 3, none⟩ (iv ((at0 : Int) - 1))).setCell ⟨rb + 1, 4, none⟩ (.bool op0) = F := ⟨_, rfl⟩
  rw [hF]
  have HF := Lib.hid (Good.fin (B := B) (GD.out.set HRB.out HLZ.out _ _) HRB.out HLZ.out HBB.out hF.symm)
  obtain ⟨f0, f1, f2, f3, f4⟩ := cells5 HF.out.1
  refine bodyPost_ret (v := .tuple #[ringV (remR r i) (Value.slice g2 (i) d2), .bool true]) (by simp [results, Try.results17, go_sem, f0, f1, f2, f3, f4, ringV, HREM.out, HT2.out]) rfl ⟨_, rfl, HF.out.2.1, HF.out.2.2⟩
set_option maxRecDepth 100000 in
set_option maxHeartbeats 4000000 in
theorem rem_eqm_mid {B : Nat} (r : RV) (s : SV) (w : World) (n g c i at0 : Nat) (op0 : Bool) (hB : B ≤ w.heap.size) (hop : r.op = op0) (hat : r.at_ = at0) (hl : r.ss.length = n) (hown : OwnS B w (.slice (some ⟨g, 0, none⟩) n c) r.ss) (hr : RingOk r) (hi : r.ss[i]? = some s) (hc1 : i = at0) (hc2 : at0 + 1 < n) (hce : i + 1 < c) :
    Calls Try.prog 17 #[ringV r (.slice (some ⟨g, 0, none⟩) n c), iv s.id] w (RingQ B (remR r i) (.bool true) w) := by
  obtain ⟨-, hBg, hg, hnc, hc, -, -⟩ := hown.form
  unfold maxLen at hc
  have hx := hown.seats
  have HX := Lib.hid hx
  have HR := Lib.hid hr
  have HL := Lib.hid hl
  have HBB := Lib.hid hB
  have hin : i < n := by rw [← hl]; exact (List.getElem?_eq_some_iff.1 hi).1
  have hn16 : n ≤ 16 := by rw [← hl]; exact hr.len
  have hat16 : at0 ≤ 16 := by have h1 := hr.at_; rw [hat] at h1; omega
  have HRV : ∀ v, ringV r v = .agg #[iv r.ba, iv r.pe, v, iv at0, .bool op0] := fun v => by unfold ringV; rw [hop, hat]
  rw [HRV]
  have HVR := Lib.hid (show ∀ w', SeatsAt w' (.slice (some ⟨g, 0, none⟩) n c) r.ss → Calls Try.prog 29 #[.agg #[iv r.ba, iv r.pe, (.slice (some ⟨g, 0, none⟩) n c), iv at0, .bool op0]] w' (BoolQ true w') from fun w' h' => by rw [← HRV]; exact vring_any r _ w' h' HR.out)
  have HSE := Lib.hid (show ∀ w', SeatsAt w' (.slice (some ⟨g, 0, none⟩) n c) r.ss → Calls Try.prog 30 #[.agg #[iv r.ba, iv r.pe, (.slice (some ⟨g, 0, none⟩) n c), iv at0, .bool op0], iv s.id] w' (IntQ (i : Int) w') from fun w' h' => by rw [← HRV]; exact seat_eq (by have := seatFrom_at r.ss 0 i s HR.out.nd hi; simpa using this) _ w' h')
  have HREM := Lib.hid (show remR r i = ⟨r.ba, r.pe, r.ss.take i ++ r.ss.drop (i + 1), at0, false⟩ by
    unfold remR
    rw [hop, hat, hl]
    rw [if_neg (by omega), if_pos hc1, if_neg (by omega), show decide (i ≠ at0) = false by simp [hc1], Bool.and_false])
  obtain ⟨j, hj⟩ : ∃ j, i + 1 = j := ⟨_, rfl⟩
  have HJ := Lib.hid hj
  obtain ⟨W, hW⟩ : ∃ W, (w.alloc (.cells #[iv r.ba, iv r.pe, (.slice (some ⟨g, 0, none⟩) n c), iv at0, .bool op0] 44)).alloc (.cells #[iv 0, iv 0, .slice none 0 0, iv 0, .bool false] 44) = W := ⟨_, rfl⟩
  obtain ⟨rb, hrb⟩ : ∃ b, w.heap.size = b := ⟨_, rfl⟩
  have HB := Lib.hid (show W.heap[rb]? = some (.cells #[iv r.ba, iv r.pe, (.slice (some ⟨g, 0, none⟩) n c), iv at0, .bool op0] 44 (0, 0)) by rw [← hW, ← hrb]; exact lies_alloc _ (heap_alloc_new _ _))
  have HZ := Lib.hid (show W.heap[rb + 1]? = some (.cells #[iv 0, iv 0, .slice none 0 0, iv 0, .bool false] 44 (0, 0)) by rw [← hW, ← hrb]; exact lies_new2 _ _)
  have BW := Lib.hid (show Below w.heap.size w W by rw [← hW]; exact ((Below.refl _ _).alloc (Nat.le_refl _) _).alloc (by simp) _)
  have HW := Lib.hid hW
  have HRB := Lib.hid hrb
  have hud : ∀ b : Bool, (undef = Value.bool b) = False := fun b => by simp [undef]
  have i0 : decide ((i : Int) < 0) = false := by simp
  have i1 : 0 ≤ (i : Int) := by omega
  have i2 : (i : Int) ≤ (c : Int) := by omega
  have i3 : 0 ≤ (j : Int) := by omega
  have i4 : (j : Int) ≤ (n : Int) := by omega
  have i5 : (n : Int) ≤ (c : Int) := by omega
  have i6 : (j : Int) ≤ (c : Int) := by omega
  have hcj : ¬ c = j := by omega
  have t1 : decide ((i : Int) < (at0 : Int)) = false := by simp; omega
  have t2 : ((i : Int) == (at0 : Int)) = true := by simp; omega
  have t4 : ¬ (i < at0) := by omega
  have t3 : decide (((i + (n - j) : Nat) : Int) ≤ (at0 : Int)) = false := by simp; omega
  have t5 : ¬ ((((i + (n - j) : Nat) : Int) : Int) ≤ at0) := by omega
  clear hx hown hr hl hop hat HRV hW hB hi
  have SF := Lib.hid (show SliceAt w 49 4 (.slice (some ⟨g, 0, none⟩) i c) (seatsX (r.ss.take i)) by rw [← seatsX_take]; exact (show SliceAt w 49 4 (.slice (some ⟨g, 0, none⟩) n c) (seatsX r.ss) from HX.out).front i (by omega))
  have SB := Lib.hid (show SliceAt w 49 4 (.slice (some ⟨g, j * 4, none⟩) (n - j) (c - j)) (seatsX (r.ss.drop (i + 1))) by rw [← seatsX_drop, HJ.out]; have h1 := (show SliceAt w 49 4 (.slice (some ⟨g, 0, none⟩) n c) (seatsX r.ss) from HX.out).back j (by omega); rw [Nat.zero_add] at h1; exact h1)
  have LF := Lib.hid (show (seatsX (r.ss.take i)).length = i * 4 by rw [seatsX_len, List.length_take, HL.out]; omega)
  have LB := Lib.hid (show (seatsX (r.ss.drop (i + 1))).length = (n - j) * 4 by rw [seatsX_len, List.length_drop, HL.out, HJ.out])
  have HWJ := Lib.hid (show IntKind.i64.wrap ((i : Int) + 1) = (j : Int) by rw [IntWalk.i64_in _ (by omega)]; omega)
  go_enter Try.func17, Try.ntmps17
  clear hj hc1 hc2 hc
  go_wp2_with fail
  rw [show (w.alloc (.cells #[iv r.ba, iv r.pe, (.slice (some ⟨g, 0, none⟩) n c), iv at0, .bool op0] 44)).alloc (.cells #[iv 0, iv 0, .slice none 0 0, iv 0, .bool false] 44) = W from HW.out]
  try rw [HRB.out]
  obtain ⟨x0, x1, x2, x3, x4⟩ := cells5 HB.out
  clear hrb
  go_upto_region 4 with (first
    | (go_at_call 30; refine (HSE.out _ (HX.out.below BW.out)).mono ?_; rintro e w1 ⟨rfl, b1⟩; have B1 := Lib.hid b1; clear b1 x0 x1 x2 x3 x4; have HB1 := Lib.hid (lies_below HB.out B1.out (lt_heap HB.out)); obtain ⟨x0, x1, x2, x3, x4⟩ := cells5 HB1.out)
    | (go_at_call 29; refine (HVR.out _ ((HX.out.below BW.out).below B1.out)).mono ?_; rintro e w2 ⟨rfl, b2⟩; have B2 := Lib.hid (B1.out.trans (b2.mono B1.out.size)); clear b2 x0 x1 x2 x3 x4; have HB2 := Lib.hid (lies_below HB.out B2.out (lt_heap HB.out)); have HZ2 := Lib.hid (lies_below HZ.out B2.out (lt_heap HZ.out)); obtain ⟨x0, x1, x2, x3, x4⟩ := cells5 HB2.out))
  have BW2 := Lib.hid (show Below w.heap.size w (w2.drewN 1) from below_drewQ (BW.out.trans (B2.out.mono BW.out.size)) 1)
  have hlrz : rb + 1 < w2.heap.size := lt_heap HZ2.out
  have hws : w.heap.size ≤ w2.heap.size := BW2.out.size
  refine wp_region_D (S := fun w' => w'.cell? ⟨rb, 2, none⟩ = some (.slice (some ⟨g, 0, none⟩) n c)) (st := 13) (by kernel_rfl) ?_
  have hS0 : (fun w' : World => w'.cell? ⟨rb, 2, none⟩ = some (.slice (some ⟨g, 0, none⟩) n c)) _ := x2
  refine wpAnyT_pureD 1 (some 19) ?v21 rfl (by kernel_rfl) (by kernel_rfl) (by kernel_rfl) (by kernel_rfl) (fun _ _ _ h => h) hS0 (by kernel_rfl) rfl ?run21 ?rest21
  case run21 => intro w hS; have hS' : w.cell? ⟨rb, 2, none⟩ = some (.slice (some ⟨g, 0, none⟩) n c) := hS; go_simp; rfl
  refine wpAnyT_pureD 2 (some 20) ?v22 rfl (by kernel_rfl) (by kernel_rfl) (by kernel_rfl) (by kernel_rfl) (fun _ _ _ h => h) hS0 (by kernel_rfl) rfl ?run22 ?rest22
  case run22 => intro w hS; have hS' : w.cell? ⟨rb, 2, none⟩ = some (.slice (some ⟨g, 0, none⟩) n c) := hS; go_simp; rfl
  refine wpAnyT_pureD 3 (some 21) ?v23 rfl (by kernel_rfl) (by kernel_rfl) (by kernel_rfl) (by kernel_rfl) (fun _ _ _ h => h) hS0 (by kernel_rfl) rfl ?run23 ?rest23
  case run23 => intro w hS; have hS' : w.cell? ⟨rb, 2, none⟩ = some (.slice (some ⟨g, 0, none⟩) n c) := hS; go_simp; rfl
  refine wpAnyT_pureD 4 (some 22) ?v24 rfl (by kernel_rfl) (by kernel_rfl) (by kernel_rfl) (by kernel_rfl) (fun _ _ _ h => h) hS0 (by kernel_rfl) rfl ?run24 ?rest24
  case run24 => intro w hS; have hS' : w.cell? ⟨rb, 2, none⟩ = some (.slice (some ⟨g, 0, none⟩) n c) := hS; go_simp; rfl
  refine wpAnyT_pureD 6 (some 24) ?v25 rfl (by kernel_rfl) (by kernel_rfl) (by kernel_rfl) (by kernel_rfl) (fun _ _ _ h => h) hS0 (by kernel_rfl) rfl ?run25 ?rest25
  case run25 => intro w hS; have hS' : w.cell? ⟨rb, 2, none⟩ = some (.slice (some ⟨g, 0, none⟩) n c) := hS; go_simp; rfl
  refine wpAnyT_pureD 7 (some 25) ?v26 rfl (by kernel_rfl) (by kernel_rfl) (by kernel_rfl) (by kernel_rfl) (fun _ _ _ h => h) hS0 (by kernel_rfl) rfl ?run26 ?rest26
  case run26 => intro w hS; have hS' : w.cell? ⟨rb, 2, none⟩ = some (.slice (some ⟨g, 0, none⟩) n c) := hS; go_simp; rfl
  refine wpAnyT_pureD 8 (some 26) ?v27 rfl (by kernel_rfl) (by kernel_rfl) (by kernel_rfl) (by kernel_rfl) (fun _ _ _ h => h) hS0 (by kernel_rfl) rfl ?run27 ?rest27
  case run27 => intro w hS; have hS' : w.cell? ⟨rb, 2, none⟩ = some (.slice (some ⟨g, 0, none⟩) n c) := hS; go_simp; rfl
  refine wpAnyT_pureD 9 (some 27) ?v28 rfl (by kernel_rfl) (by kernel_rfl) (by kernel_rfl) (by kernel_rfl) (fun _ _ _ h => h) hS0 (by kernel_rfl) rfl ?run28 ?rest28
  case run28 => intro w hS; have hS' : w.cell? ⟨rb, 2, none⟩ = some (.slice (some ⟨g, 0, none⟩) n c) := hS; have hq := HWJ.out; go_simp; rfl
  refine wpAnyT_pureD 10 (some 28) ?v29 rfl (by kernel_rfl) (by kernel_rfl) (by kernel_rfl) (by kernel_rfl) (fun _ _ _ h => h) hS0 (by kernel_rfl) rfl ?run29 ?rest29
  case run29 => intro w hS; have hS' : w.cell? ⟨rb, 2, none⟩ = some (.slice (some ⟨g, 0, none⟩) n c) := hS; go_simp; rfl
  refine wpAnyT_value 0 (some 18) (.slice (some ⟨w2.heap.size, 0, none⟩) 0 0) ((w2.drewN 1).alloc (.cells #[] 49)) rfl (by kernel_rfl) (by kernel_rfl) ?rva rfl (fun _ => ?sa) ?_
  case rva => go_simp
  case sa => exact (World.cell?_of_block (Below.heap_alloc _ _ _ (by show rb < w2.heap.size; omega))).trans hS0
  have hS0 : (fun w' : World => w'.cell? ⟨rb, 2, none⟩ = some (.slice (some ⟨g, 0, none⟩) n c)) ((w2.drewN 1).alloc (.cells #[] 49)) := (World.cell?_of_block (Below.heap_alloc _ _ _ (by show rb < w2.heap.size; omega))).trans hS0
  refine wpAnyT_append 5 (some 23) rfl (by kernel_rfl) (by kernel_rfl) rfl _ _ 42 rfl w2.heap.size 49 _ 4 32 Try.underlying42 info_seat rfl (by decide) _ 0 [] (own_empty (w := w2.drewN 1) rfl) (by kernel_rfl) (.slice (some ⟨g, 0, none⟩) i c) i (seatsX (r.ss.take i)) (by kernel_rfl) (SliceAt.same SF.out (SameT.below (BW2.out.alloc BW2.out.size _))) LF.out (seatsX_oc _) (by unfold maxLen; omega) (by omega) (by simp) ?_
  intro g1 d1 v1 own1 gr1
  have B3 := Lib.hid (show Below w2.heap.size (w2.drewN 1) v1 from grown_below rfl gr1)
  have OW1 := Lib.hid own1
  have S3 : w2.heap.size ≤ v1.heap.size := B3.out.size
  clear own1 gr1
  have hS1 : (fun w' : World => w'.cell? ⟨rb, 2, none⟩ = some (.slice (some ⟨g, 0, none⟩) n c)) v1 := (World.cell?_of_block (B3.out.block rb (by omega))).trans ((World.cell?_of_block (Below.heap_alloc _ _ _ (by show rb < w2.heap.size; omega))).symm.trans hS0)
  clear hS0
  have hS0 : (fun w' : World => w'.cell? ⟨rb, 2, none⟩ = some (.slice (some ⟨g, 0, none⟩) n c)) v1 := hS1
  refine ⟨fun _ => hS0, ?_⟩
  refine wpAnyT_append 11 (some 29) rfl (by kernel_rfl) (by kernel_rfl) rfl _ _ 42 rfl w2.heap.size 49 _ 4 32 Try.underlying42 info_seat rfl (by decide) _ _ _ OW1.out (by kernel_rfl) (.slice (some ⟨g, j * 4, none⟩) (n - j) (c - j)) (n - j) (seatsX (r.ss.drop (i + 1))) (by kernel_rfl) (SliceAt.same SB.out (SameT.below (BW2.out.trans (B3.out.mono hws)))) LB.out (seatsX_oc _) (by unfold maxLen; omega) (by omega) S3 ?_
  intro g2 d2 v2 own2 gr2
  have B4 := Lib.hid (show Below w2.heap.size (w2.drewN 1) v2 from B3.out.trans (Below.of_grown gr2 OW1.out S3))
  have OW2 := Lib.hid own2
  have B4w := Lib.hid (show Below w2.heap.size w2 v2 from ⟨B4.out.os, B4.out.tape, B4.out.output, B4.out.size, B4.out.block⟩)
  have hS1 : (fun w' : World => w'.cell? ⟨rb, 2, none⟩ = some (.slice (some ⟨g, 0, none⟩) n c)) v2 := (World.cell?_of_block (B4.out.block rb (by omega))).trans ((World.cell?_of_block (B3.out.block rb (by omega))).symm.trans hS0)
  clear own2 gr2 hS0
  have hS0 : (fun w' : World => w'.cell? ⟨rb, 2, none⟩ = some (.slice (some ⟨g, 0, none⟩) n c)) v2 := hS1
  refine ⟨fun _ => hS0, ?_⟩
  refine wpAnyT_pureD 12 (some 30) ?v30 rfl (by kernel_rfl) (by kernel_rfl) (by kernel_rfl) (by kernel_rfl) (fun _ _ _ h => h) hS0 (by kernel_rfl) rfl ?run30 ?rest30
  case run30 => intro w hS; have hS' : w.cell? ⟨rb, 2, none⟩ = some (.slice (some ⟨g, 0, none⟩) n c) := hS; go_simp; rfl
  have fz := (lies_cells (lies_below HB2.out B4w.out (by omega))).2
  refine wpAnyT_step 13 none (v2.setCell ⟨rb, 2, none⟩ (.slice g2 (0 + i + (n - j)) d2)) rfl (by kernel_rfl) (by kernel_rfl) ?rs rfl (fun h => absurd rfl h) ?_
  case rs => (have q2 : v2.cell? ⟨rb, 2, none⟩ = some (.slice (some ⟨g, 0, none⟩) n c) := hS0); (have q3 := fz 2); go_simp
  refine wpAnyT_done (by kernel_rfl) ?_ _
  generalize hA : Act.put _ _ _ = A0
  simp only [put_mk, put_no, List.setIfInBounds_toArray, List.set_cons_succ, List.set_cons_zero] at hA
  subst hA
  simp only [Nat.zero_add, Nat.add_zero]
  have OW3 := Lib.hid (show v2.ownsRow w2.heap.size 49 4 (Value.slice g2 (i + (n - j)) d2) (i + (n - j)) ([] ++ seatsX (r.ss.take i) ++ seatsX (r.ss.drop (i + 1))) by have h := OW2.out; simp only [Nat.zero_add, Nat.add_zero] at h; exact h)
  obtain ⟨s3, hs3⟩ : ∃ s, (Value.slice g2 (i + (n - j)) d2) = s := ⟨_, rfl⟩
  rw [hs3]
  have HLEN := Lib.hid (show (remR r i).ss.length = (i + (n - j)) by rw [HREM.out]; have h1 := HL.out; have h2 := HJ.out; simp only [List.length_append, List.length_take, List.length_drop]; omega)
  have HXS := Lib.hid (show seatsX (remR r i).ss = [] ++ seatsX (r.ss.take i) ++ seatsX (r.ss.drop (i + 1)) by rw [HREM.out]; rw [List.nil_append]; exact seatsX_app _ _)
  have OW4 := Lib.hid (show v2.ownsRow w2.heap.size 49 4 s3 (remR r i).ss.length (seatsX (remR r i).ss) by rw [HLEN.out, HXS.out, ← hs3]; exact OW3.out)
  have HB4 : v2.heap[rb]? = some (.cells #[iv r.ba, iv r.pe, (.slice (some ⟨g, 0, none⟩) n c), iv at0, .bool op0] 44 (0, 0)) := lies_below HB2.out B4w.out (by omega)
  have HZ4 : v2.heap[rb + 1]? = some (.cells #[iv 0, iv 0, .slice none 0 0, iv 0, .bool false] 44 (0, 0)) := lies_below HZ2.out B4w.out (by omega)
  have BV : Below w.heap.size w v2 := BW2.out.trans (B4.out.mono hws)
  have GD := Lib.hid (show Good w2.heap.size w rb (.cells #[iv 0, iv 0, .slice none 0 0, iv 0, .bool false] 44 (0, 0)) s3 (remR r i).ss (v2.setCell ⟨rb, 2, none⟩ s3) from (Good.mk HZ4 OW4.out BV).set HRB.out hlrz 2 s3)
  have HBV := Lib.hid (show (v2.setCell ⟨rb, 2, none⟩ s3).heap[rb]? = some (.cells #[iv r.ba, iv r.pe, s3, iv at0, .bool op0] 44 (0, 0)) from set_cells HB4)
  have HSV := Lib.hid (show s3 = (Value.slice g2 (i + (n - j)) d2) from hs3.symm)
  have HLZ := Lib.hid hlrz
  clear hs3 x0 x1 x2 x3 x4 hS0 HB4 HZ4 BV fz S3 hlrz
  obtain ⟨V, hV⟩ : ∃ V, v2.setCell ⟨rb, 2, none⟩ s3 = V := ⟨_, rfl⟩
  rw [hV] at GD HBV ⊢
  clear hV
  have HZV := Lib.hid GD.out.z
  obtain ⟨x0, x1, x2, x3, x4⟩ := cells5 HBV.out
  obtain ⟨z0, z1, z2, z3, z4⟩ := cells5 HZV.out
  have fx := (lies_cells HBV.out).2
  have fz := (lies_cells HZV.out).2
  have hrz : rb ≠ rb + 1 := Nat.ne_of_lt (Nat.lt_succ_self rb)
  have hrz2 : rb + 1 ≠ rb := Nat.succ_ne_self rb
  obtain rfl := HSV.out
  go_wp2
  show bodyPost _ _ _ _ _ ((((((V.setCell ⟨rb, 4, none⟩ (.bool false)).setCell ⟨rb + 1, 0, none⟩ (iv r.ba)).setCell ⟨rb + 1, 1, none⟩ (iv r.pe)).setCell ⟨rb + 1, 2, none⟩ (Value.slice g2 (i + (n - j)) d2)).setCell ⟨rb + 1, 3, none⟩ (iv (at0 : Nat))).setCell ⟨rb + 1, 4, none⟩ (.bool false))
  obtain ⟨F, hF⟩ : ∃ F, (((((V.setCell ⟨rb, 4, none⟩ (.bool false)).setCell ⟨rb + 1, 0, none⟩ (iv r.ba)).setCell ⟨rb + 1, 1, none⟩ (iv r.pe)).setCell ⟨rb + 1, 2, none⟩ (Value.slice g2 (i + (n - j)) d2)).setCell ⟨rb + 1, 3, none⟩ (iv (at0 : Nat))).setCell ⟨rb + 1, 4, none⟩ (.bool false) = F := ⟨_, rfl⟩
  rw [hF]
  have HF := Lib.hid (Good.fin (B := B) (GD.out.set HRB.out HLZ.out _ _) HRB.out HLZ.out HBB.out hF.symm)
  obtain ⟨f0, f1, f2, f3, f4⟩ := cells5 HF.out.1
  refine bodyPost_ret (v := .tuple #[ringV (remR r i) (Value.slice g2 (i + (n - j)) d2), .bool true]) (by simp [results, Try.results17, go_sem, f0, f1, f2, f3, f4, ringV, HREM.out]) rfl ⟨_, rfl, HF.out.2.1, HF.out.2.2⟩
set_option maxRecDepth 100000 in
set_option maxHeartbeats 4000000 in
theorem rem_eql_mid {B : Nat} (r : RV) (s : SV) (w : World) (n g c i at0 : Nat) (op0 : Bool) (hB : B ≤ w.heap.size) (hop : r.op = op0) (hat : r.at_ = at0) (hl : r.ss.length = n) (hown : OwnS B w (.slice (some ⟨g, 0, none⟩) n c) r.ss) (hr : RingOk r) (hi : r.ss[i]? = some s) (hc1 : i = at0) (hc2 : n ≤ at0 + 1) (hce : i + 1 < c) :
    Calls Try.prog 17 #[ringV r (.slice (some ⟨g, 0, none⟩) n c), iv s.id] w (RingQ B (remR r i) (.bool true) w) := by
  obtain ⟨-, hBg, hg, hnc, hc, -, -⟩ := hown.form
  unfold maxLen at hc
  have hx := hown.seats
  have HX := Lib.hid hx
  have HR := Lib.hid hr
  have HL := Lib.hid hl
  have HBB := Lib.hid hB
  have hin : i < n := by rw [← hl]; exact (List.getElem?_eq_some_iff.1 hi).1
  have hn16 : n ≤ 16 := by rw [← hl]; exact hr.len
  have hat16 : at0 ≤ 16 := by have h1 := hr.at_; rw [hat] at h1; omega
  have HRV : ∀ v, ringV r v = .agg #[iv r.ba, iv r.pe, v, iv at0, .bool op0] := fun v => by unfold ringV; rw [hop, hat]
  rw [HRV]
  have HVR := Lib.hid (show ∀ w', SeatsAt w' (.slice (some ⟨g, 0, none⟩) n c) r.ss → Calls Try.prog 29 #[.agg #[iv r.ba, iv r.pe, (.slice (some ⟨g, 0, none⟩) n c), iv at0, .bool op0]] w' (BoolQ true w') from fun w' h' => by rw [← HRV]; exact vring_any r _ w' h' HR.out)
  have HSE := Lib.hid (show ∀ w', SeatsAt w' (.slice (some ⟨g, 0, none⟩) n c) r.ss → Calls Try.prog 30 #[.agg #[iv r.ba, iv r.pe, (.slice (some ⟨g, 0, none⟩) n c), iv at0, .bool op0], iv s.id] w' (IntQ (i : Int) w') from fun w' h' => by rw [← HRV]; exact seat_eq (by have := seatFrom_at r.ss 0 i s HR.out.nd hi; simpa using this) _ w' h')
  have HREM := Lib.hid (show remR r i = ⟨r.ba, r.pe, r.ss.take i ++ r.ss.drop (i + 1), 0, false⟩ by
    unfold remR
    rw [hop, hat, hl]
    rw [if_neg (by omega), if_pos hc1, if_pos (by omega), show decide (i ≠ at0) = false by simp [hc1], Bool.and_false])
  obtain ⟨j, hj⟩ : ∃ j, i + 1 = j := ⟨_, rfl⟩
  have HJ := Lib.hid hj
  obtain ⟨W, hW⟩ : ∃ W, (w.alloc (.cells #[iv r.ba, iv r.pe, (.slice (some ⟨g, 0, none⟩) n c), iv at0, .bool op0] 44)).alloc (.cells #[iv 0, iv 0, .slice none 0 0, iv 0, .bool false] 44) = W := ⟨_, rfl⟩
  obtain ⟨rb, hrb⟩ : ∃ b, w.heap.size = b := ⟨_, rfl⟩
  have HB := Lib.hid (show W.heap[rb]? = some (.cells #[iv r.ba, iv r.pe, (.slice (some ⟨g, 0, none⟩) n c), iv at0, .bool op0] 44 (0, 0)) by rw [← hW, ← hrb]; exact lies_alloc _ (heap_alloc_new _ _))
  have HZ := Lib.hid (show W.heap[rb + 1]? = some (.cells #[iv 0, iv 0, .slice none 0 0, iv 0, .bool false] 44 (0, 0)) by rw [← hW, ← hrb]; exact lies_new2 _ _)
  have BW := Lib.hid (show Below w.heap.size w W by rw [← hW]; exact ((Below.refl _ _).alloc (Nat.le_refl _) _).alloc (by simp) _)
  have HW := Lib.hid hW
  have HRB := Lib.hid hrb
  have hud : ∀ b : Bool, (undef = Value.bool b) = False := fun b => by simp [undef]
  have i0 : decide ((i : Int) < 0) = false := by simp
  have i1 : 0 ≤ (i : Int) := by omega
  have i2 : (i : Int) ≤ (c : Int) := by omega
  have i3 : 0 ≤ (j : Int) := by omega
  have i4 : (j : Int) ≤ (n : Int) := by omega
  have i5 : (n : Int) ≤ (c : Int) := by omega
  have i6 : (j : Int) ≤ (c : Int) := by omega
  have hcj : ¬ c = j := by omega
  have t1 : decide ((i : Int) < (at0 : Int)) = false := by simp; omega
  have t2 : ((i : Int) == (at0 : Int)) = true := by simp; omega
  have t4 : ¬ (i < at0) := by omega
  have t3 : decide (((i + (n - j) : Nat) : Int) ≤ (at0 : Int)) = true := by simp; omega
  have t5 : (((i + (n - j) : Nat) : Int) : Int) ≤ at0 := by omega
  clear hx hown hr hl hop hat HRV hW hB hi
  have SF := Lib.hid (show SliceAt w 49 4 (.slice (some ⟨g, 0, none⟩) i c) (seatsX (r.ss.take i)) by rw [← seatsX_take]; exact (show SliceAt w 49 4 (.slice (some ⟨g, 0, none⟩) n c) (seatsX r.ss) from HX.out).front i (by omega))
  have SB := Lib.hid (show SliceAt w 49 4 (.slice (some ⟨g, j * 4, none⟩) (n - j) (c - j)) (seatsX (r.ss.drop (i + 1))) by rw [← seatsX_drop, HJ.out]; have h1 := (show SliceAt w 49 4 (.slice (some ⟨g, 0, none⟩) n c) (seatsX r.ss) from HX.out).back j (by omega); rw [Nat.zero_add] at h1; exact h1)
  have LF := Lib.hid (show (seatsX (r.ss.take i)).length = i * 4 by rw [seatsX_len, List.length_take, HL.out]; omega)
  have LB := Lib.hid (show (seatsX (r.ss.drop (i + 1))).length = (n - j) * 4 by rw [seatsX_len, List.length_drop, HL.out, HJ.out])
  have HWJ := Lib.hid (show IntKind.i64.wrap ((i : Int) + 1) = (j : Int) by rw [IntWalk.i64_in _ (by omega)]; omega)
  go_enter Try.func17, Try.ntmps17
  clear hj hc1 hc2 hc
  go_wp2_with fail
  rw [show (w.alloc (.cells #[iv r.ba, iv r.pe, (.slice (some ⟨g, 0, none⟩) n c), iv at0, .bool op0] 44)).alloc (.cells #[iv 0, iv 0, .slice none 0 0, iv 0, .bool false] 44) = W from HW.out]
  try rw [HRB.out]
  obtain ⟨x0, x1, x2, x3, x4⟩ := cells5 HB.out
  clear hrb
  go_upto_region 4 with (first
    | (go_at_call 30; refine (HSE.out _ (HX.out.below BW.out)).mono ?_; rintro e w1 ⟨rfl, b1⟩; have B1 := Lib.hid b1; clear b1 x0 x1 x2 x3 x4; have HB1 := Lib.hid (lies_below HB.out B1.out (lt_heap HB.out)); obtain ⟨x0, x1, x2, x3, x4⟩ := cells5 HB1.out)
    | (go_at_call 29; refine (HVR.out _ ((HX.out.below BW.out).below B1.out)).mono ?_; rintro e w2 ⟨rfl, b2⟩; have B2 := Lib.hid (B1.out.trans (b2.mono B1.out.size)); clear b2 x0 x1 x2 x3 x4; have HB2 := Lib.hid (lies_below HB.out B2.out (lt_heap HB.out)); have HZ2 := Lib.hid (lies_below HZ.out B2.out (lt_heap HZ.out)); obtain ⟨x0, x1, x2, x3, x4⟩ := cells5 HB2.out))
  have BW2 := Lib.hid (show Below w.heap.size w (w2.drewN 1) from below_drewQ (BW.out.trans (B2.out.mono BW.out.size)) 1)
  have hlrz : rb + 1 < w2.heap.size := lt_heap HZ2.out
  have hws : w.heap.size ≤ w2.heap.size := BW2.out.size
  refine wp_region_D (S := fun w' => w'.cell? ⟨rb, 2, none⟩ = some (.slice (some ⟨g, 0, none⟩) n c)) (st := 13) (by kernel_rfl) ?_
  have hS0 : (fun w' : World => w'.cell? ⟨rb, 2, none⟩ = some (.slice (some ⟨g, 0, none⟩) n c)) _ := x2
  refine wpAnyT_pureD 1 (some 19) ?v31 rfl (by kernel_rfl) (by kernel_rfl) (by kernel_rfl) (by kernel_rfl) (fun _ _ _ h => h) hS0 (by kernel_rfl) rfl ?run31 ?rest31
  case run31 => intro w hS; have hS' : w.cell? ⟨rb, 2, none⟩ = some (.slice (some ⟨g, 0, none⟩) n c) := hS; go_simp; rfl
  refine wpAnyT_pureD 2 (some 20) ?v32 rfl (by kernel_rfl) (by kernel_rfl) (by kernel_rfl) (by kernel_rfl) (fun _ _ _ h => h) hS0 (by kernel_rfl) rfl ?run32 ?rest32
  case run32 => intro w hS; have hS' : w.cell? ⟨rb, 2, none⟩ = some (.slice (some ⟨g, 0, none⟩) n c) := hS; go_simp; rfl
  refine wpAnyT_pureD 3 (some 21) ?v33 rfl (by kernel_rfl) (by kernel_rfl) (by kernel_rfl) (by kernel_rfl) (fun _ _ _ h => h) hS0 (by kernel_rfl) rfl ?run33 ?rest33
  case run33 => intro w hS; have hS' : w.cell? ⟨rb, 2, none⟩ = some (.slice (some ⟨g, 0, none⟩) n c) := hS; go_simp; rfl
  refine wpAnyT_pureD 4 (some 22) ?v34 rfl (by kernel_rfl) (by kernel_rfl) (by kernel_rfl) (by kernel_rfl) (fun _ _ _ h => h) hS0 (by kernel_rfl) rfl ?run34 ?rest34
  case run34 => intro w hS; have hS' : w.cell? ⟨rb, 2, none⟩ = some (.slice (some ⟨g, 0, none⟩) n c) := hS; go_simp; rfl
  refine wpAnyT_pureD 6 (some 24) ?v35 rfl (by kernel_rfl) (by kernel_rfl) (by kernel_rfl) (by kernel_rfl) (fun _ _ _ h => h) hS0 (by kernel_rfl) rfl ?run35 ?rest35
  case run35 => intro w hS; have hS' : w.cell? ⟨rb, 2, none⟩ = some (.slice (some ⟨g, 0, none⟩) n c) := hS; go_simp; rfl
  refine wpAnyT_pureD 7 (some 25) ?v36 rfl (by kernel_rfl) (by kernel_rfl) (by kernel_rfl) (by kernel_rfl) (fun _ _ _ h => h) hS0 (by kernel_rfl) rfl ?run36 ?rest36
  case run36 => intro w hS; have hS' : w.cell? ⟨rb, 2, none⟩ = some (.slice (some ⟨g, 0, none⟩) n c) := hS; go_simp; rfl
  refine wpAnyT_pureD 8 (some 26) ?v37 rfl (by kernel_rfl) (by kernel_rfl) (by kernel_rfl) (by kernel_rfl) (fun _ _ _ h => h) hS0 (by kernel_rfl) rfl ?run37 ?rest37
  case run37 => intro w hS; have hS' : w.cell? ⟨rb, 2, none⟩ = some (.slice (some ⟨g, 0, none⟩) n c) := hS; go_simp; rfl
  refine wpAnyT_pureD 9 (some 27) ?v38 rfl (by kernel_rfl) (by kernel_rfl) (by kernel_rfl) (by kernel_rfl) (fun _ _ _ h => h) hS0 (by kernel_rfl) rfl ?run38 ?rest38
  case run38 => intro w hS; have hS' : w.cell? ⟨rb, 2, none⟩ = some (.slice (some ⟨g, 0, none⟩) n c) := hS; have hq := HWJ.out; go_simp; rfl
  refine wpAnyT_pureD 10 (some 28) ?v39 rfl (by kernel_rfl) (by kernel_rfl) (by kernel_rfl) (by kernel_rfl) (fun _ _ _ h => h) hS0 (by kernel_rfl) rfl ?run39 ?rest39
  case run39 => intro w hS; have hS' : w.cell? ⟨rb, 2, none⟩ = some (.slice (some ⟨g, 0, none⟩) n c) := hS; go_simp; rfl
  refine wpAnyT_value 0 (some 18) (.slice (some ⟨w2.heap.size, 0, none⟩) 0 0) ((w2.drewN 1).alloc (.cells #[] 49)) rfl (by kernel_rfl) (by kernel_rfl) ?rva rfl (fun _ => ?sa) ?_
  case rva => go_simp
  case sa => exact (World.cell?_of_block (Below.heap_alloc _ _ _ (by show rb < w2.heap.size; omega))).trans hS0
  have hS0 : (fun w' : World => w'.cell? ⟨rb, 2, none⟩ = some (.slice (some ⟨g, 0, none⟩) n c)) ((w2.drewN 1).alloc (.cells #[] 49)) := (World.cell?_of_block (Below.heap_alloc _ _ _ (by show rb < w2.heap.size; omega))).trans hS0
  refine wpAnyT_append 5 (some 23) rfl (by kernel_rfl) (by kernel_rfl) rfl _ _ 42 rfl w2.heap.size 49 _ 4 32 Try.underlying42 info_seat rfl (by decide) _ 0 [] (own_empty (w := w2.drewN 1) rfl) (by kernel_rfl) (.slice (some ⟨g, 0, none⟩) i c) i (seatsX (r.ss.take i)) (by kernel_rfl) (SliceAt.same SF.out (SameT.below (BW2.out.alloc BW2.out.size _))) LF.out (seatsX_oc _) (by unfold maxLen; omega) (by omega) (by simp) ?_
  intro g1 d1 v1 own1 gr1
  have B3 := Lib.hid (show Below w2.heap.size (w2.drewN 1) v1 from grown_below rfl gr1)
  have OW1 := Lib.hid own1
  have S3 : w2.heap.size ≤ v1.heap.size := B3.out.size
  clear own1 gr1
  have hS1 : (fun w' : World => w'.cell? ⟨rb, 2, none⟩ = some (.slice (some ⟨g, 0, none⟩) n c)) v1 := (World.cell?_of_block (B3.out.block rb (by omega))).trans ((World.cell?_of_block (Below.heap_alloc _ _ _ (by show rb < w2.heap.size; omega))).symm.trans hS0)
  clear hS0
  have hS0 : (fun w' : World => w'.cell? ⟨rb, 2, none⟩ = some (.slice (some ⟨g, 0, none⟩) n c)) v1 := hS1
  refine ⟨fun _ => hS0, ?_⟩
  refine wpAnyT_append 11 (some 29) rfl (by kernel_rfl) (by kernel_rfl) rfl _ _ 42 rfl w2.heap.size 49 _ 4 32 Try.underlying42 info_seat rfl (by decide) _ _ _ OW1.out (by kernel_rfl) (.slice (some ⟨g, j * 4, none⟩) (n - j) (c - j)) (n - j) (seatsX (r.ss.drop (i + 1))) (by kernel_rfl) (SliceAt.same SB.out (SameT.below (BW2.out.trans (B3.out.mono hws)))) LB.out (seatsX_oc _) (by unfold maxLen; omega) (by omega) S3 ?_
  intro g2 d2 v2 own2 gr2
  have B4 := Lib.hid (show Below w2.heap.size (w2.drewN 1) v2 from B3.out.trans (Below.of_grown gr2 OW1.out S3))
  have OW2 := Lib.hid own2
  have B4w := Lib.hid (show Below w2.heap.size w2 v2 from ⟨B4.out.os, B4.out.tape, B4.out.output, B4.out.size, B4.out.block⟩)
  have hS1 : (fun w' : World => w'.cell? ⟨rb, 2, none⟩ = some (.slice (some ⟨g, 0, none⟩) n c)) v2 := (World.cell?_of_block (B4.out.block rb (by omega))).trans ((World.cell?_of_block (B3.out.block rb (by omega))).symm.trans hS0)
  clear own2 gr2 hS0
  have hS0 : (fun w' : World => w'.cell? ⟨rb, 2, none⟩ = some (.slice (some ⟨g, 0, none⟩) n c)) v2 := hS1
  refine ⟨fun _ => hS0, ?_⟩
  refine wpAnyT_pureD 12 (some 30) ?v40 rfl (by kernel_rfl) (by kernel_rfl) (by kernel_rfl) (by kernel_rfl) (fun _ _ _ h => h) hS0 (by kernel_rfl) rfl ?run40 ?rest40
  case run40 => intro w hS; have hS' : w.cell? ⟨rb, 2, none⟩ = some (.slice (some ⟨g, 0, none⟩) n c) := hS; go_simp; rfl
  have fz := (lies_cells (lies_below HB2.out B4w.out (by omega))).2
  refine wpAnyT_step 13 none (v2.setCell ⟨rb, 2, none⟩ (.slice g2 (0 + i + (n - j)) d2)) rfl (by kernel_rfl) (by kernel_rfl) ?rs rfl (fun h => absurd rfl h) ?_
  case rs => (have q2 : v2.cell? ⟨rb, 2, none⟩ = some (.slice (some ⟨g, 0, none⟩) n c) := hS0); (have q3 := fz 2); go_simp
  refine wpAnyT_done (by kernel_rfl) ?_ _
  generalize hA : Act.put _ _ _ = A0
  simp only [put_mk, put_no, List.setIfInBounds_toArray, List.set_cons_succ, List.set_cons_zero] at hA
  subst hA
  simp only [Nat.zero_add, Nat.add_zero]
  have OW3 := Lib.hid (show v2.ownsRow w2.heap.size 49 4 (Value.slice g2 (i + (n - j)) d2) (i + (n - j)) ([] ++ seatsX (r.ss.take i) ++ seatsX (r.ss.drop (i + 1))) by have h := OW2.out; simp only [Nat.zero_add, Nat.add_zero] at h; exact h)
  obtain ⟨s3, hs3⟩ : ∃ s, (Value.slice g2 (i + (n - j)) d2) = s := ⟨_, rfl⟩
  rw [hs3]
  have HLEN := Lib.hid (show (remR r i).ss.length = (i + (n - j)) by rw [HREM.out]; have h1 := HL.out; have h2 := HJ.out; simp only [List.length_append, List.length_take, List.length_drop]; omega)
  have HXS := Lib.hid (show seatsX (remR r i).ss = [] ++ seatsX (r.ss.take i) ++ seatsX (r.ss.drop (i + 1)) by rw [HREM.out]; rw [List.nil_append]; exact seatsX_app _ _)
  have OW4 := Lib.hid (show v2.ownsRow w2.heap.size 49 4 s3 (remR r i).ss.length (seatsX (remR r i).ss) by rw [HLEN.out, HXS.out, ← hs3]; exact OW3.out)
  have HB4 : v2.heap[rb]? = some (.cells #[iv r.ba, iv r.pe, (.slice (some ⟨g, 0, none⟩) n c), iv at0, .bool op0] 44 (0, 0)) := lies_below HB2.out B4w.out (by omega)
  have HZ4 : v2.heap[rb + 1]? = some (.cells #[iv 0, iv 0, .slice none 0 0, iv 0, .bool false] 44 (0, 0)) := lies_below HZ2.out B4w.out (by omega)
  have BV : Below w.heap.size w v2 := BW2.out.trans (B4.out.mono hws)
  have GD := Lib.hid (show Good w2.heap.size w rb (.cells #[iv 0, iv 0, .slice none 0 0, iv 0, .bool false] 44 (0, 0)) s3 (remR r i).ss (v2.setCell ⟨rb, 2, none⟩ s3) from (Good.mk HZ4 OW4.out BV).set HRB.out hlrz 2 s3)
  have HBV := Lib.hid (show (v2.setCell ⟨rb, 2, none⟩ s3).heap[rb]? = some (.cells #[iv r.ba, iv r.pe, s3, iv at0, .bool op0] 44 (0, 0)) from set_cells HB4)
  have HSV := Lib.hid (show s3 = (Value.slice g2 (i + (n - j)) d2) from hs3.symm)
  have HLZ := Lib.hid hlrz
  clear hs3 x0 x1 x2 x3 x4 hS0 HB4 HZ4 BV fz S3 hlrz
  obtain ⟨V, hV⟩ : ∃ V, v2.setCell ⟨rb, 2, none⟩ s3 = V := ⟨_, rfl⟩
  rw [hV] at GD HBV ⊢
  clear hV
  have HZV := Lib.hid GD.out.z
  obtain ⟨x0, x1, x2, x3, x4⟩ := cells5 HBV.out
  obtain ⟨z0, z1, z2, z3, z4⟩ := cells5 HZV.out
  have fx := (lies_cells HBV.out).2
  have fz := (lies_cells HZV.out).2
  have hrz : rb ≠ rb + 1 := Nat.ne_of_lt (Nat.lt_succ_self rb)
  have hrz2 : rb + 1 ≠ rb := Nat.succ_ne_self rb
  obtain rfl := HSV.out
  go_wp2
  show bodyPost _ _ _ _ _ (((((((V.setCell ⟨rb, 4, none⟩ (.bool false)).setCell ⟨rb, 3, none⟩ (iv 0)).setCell ⟨rb + 1, 0, none⟩ (iv r.ba)).setCell ⟨rb + 1, 1, none⟩ (iv r.pe)).setCell ⟨rb + 1, 2, none⟩ (Value.slice g2 (i + (n - j)) d2)).setCell ⟨rb + 1, 3, none⟩ (iv 0)).setCell ⟨rb + 1, 4, none⟩ (.bool false))
  obtain ⟨F, hF⟩ : ∃ F, ((((((V.setCell ⟨rb, 4, none⟩ (.bool false)).setCell ⟨rb, 3, none⟩ (iv 0)).setCell ⟨rb + 1, 0, none⟩ (iv r.ba)).setCell ⟨rb + 1, 1, none⟩ (iv r.pe)).setCell ⟨rb + 1, 2, none⟩ (Value.slice g2 (i + (n - j)) d2)).setCell ⟨rb + 1, 3, none⟩ (iv 0)).setCell ⟨rb + 1, 4, none⟩ (.bool false) = F := ⟨_, rfl⟩
  rw [hF]
  have HF := Lib.hid (Good.fin (B := B) ((GD.out.set HRB.out HLZ.out _ _).set HRB.out HLZ.out _ _) HRB.out HLZ.out HBB.out hF.symm)
  obtain ⟨f0, f1, f2, f3, f4⟩ := cells5 HF.out.1
  refine bodyPost_ret (v := .tuple #[ringV (remR r i) (Value.slice g2 (i + (n - j)) d2), .bool true]) (by simp [results, Try.results17, go_sem, f0, f1, f2, f3, f4, ringV, HREM.out]) rfl ⟨_, rfl, HF.out.2.1, HF.out.2.2⟩
set_option maxRecDepth 100000 in
set_option maxHeartbeats 4000000 in
theorem rem_eql_end {B : Nat} (r : RV) (s : SV) (w : World) (g i at0 j : Nat) (op0 : Bool) (hB : B ≤ w.heap.size) (hop : r.op = op0) (hat : r.at_ = at0) (hl : r.ss.length = j) (hown : OwnS B w (.slice (some ⟨g, 0, none⟩) j j) r.ss) (hr : RingOk r) (hi : r.ss[i]? = some s) (hc1 : i = at0) (hc2 : j ≤ at0 + 1) (hj : i + 1 = j) :
    Calls Try.prog 17 #[ringV r (.slice (some ⟨g, 0, none⟩) j j), iv s.id] w (RingQ B (remR r i) (.bool true) w) := by
  obtain ⟨-, hBg, hg, hnc, hc, -, -⟩ := hown.form
  unfold maxLen at hc
  have hx := hown.seats
  have HX := Lib.hid hx
  have HR := Lib.hid hr
  have HL := Lib.hid hl
  have HBB := Lib.hid hB
  have hin : i < j := by rw [← hl]; exact (List.getElem?_eq_some_iff.1 hi).1
  have hn16 : j ≤ 16 := by rw [← hl]; exact hr.len
  have hat16 : at0 ≤ 16 := by have h1 := hr.at_; rw [hat] at h1; omega
  have HRV : ∀ v, ringV r v = .agg #[iv r.ba, iv r.pe, v, iv at0, .bool op0] := fun v => by unfold ringV; rw [hop, hat]
  rw [HRV]
  have HVR := Lib.hid (show ∀ w', SeatsAt w' (.slice (some ⟨g, 0, none⟩) j j) r.ss → Calls Try.prog 29 #[.agg #[iv r.ba, iv r.pe, (.slice (some ⟨g, 0, none⟩) j j), iv at0, .bool op0]] w' (BoolQ true w') from fun w' h' => by rw [← HRV]; exact vring_any r _ w' h' HR.out)
  have HSE := Lib.hid (show ∀ w', SeatsAt w' (.slice (some ⟨g, 0, none⟩) j j) r.ss → Calls Try.prog 30 #[.agg #[iv r.ba, iv r.pe, (.slice (some ⟨g, 0, none⟩) j j), iv at0, .bool op0], iv s.id] w' (IntQ (i : Int) w') from fun w' h' => by rw [← HRV]; exact seat_eq (by have := seatFrom_at r.ss 0 i s HR.out.nd hi; simpa using this) _ w' h')
  have HREM := Lib.hid (show remR r i = ⟨r.ba, r.pe, r.ss.take i ++ r.ss.drop (i + 1), 0, false⟩ by
    unfold remR
    rw [hop, hat, hl]
    rw [if_neg (by omega), if_pos hc1, if_pos (by omega), show decide (i ≠ at0) = false by simp [hc1], Bool.and_false])
  have HJ := Lib.hid hj
  obtain ⟨W, hW⟩ : ∃ W, (w.alloc (.cells #[iv r.ba, iv r.pe, (.slice (some ⟨g, 0, none⟩) j j), iv at0, .bool op0] 44)).alloc (.cells #[iv 0, iv 0, .slice none 0 0, iv 0, .bool false] 44) = W := ⟨_, rfl⟩
  obtain ⟨rb, hrb⟩ : ∃ b, w.heap.size = b := ⟨_, rfl⟩
  have HB := Lib.hid (show W.heap[rb]? = some (.cells #[iv r.ba, iv r.pe, (.slice (some ⟨g, 0, none⟩) j j), iv at0, .bool op0] 44 (0, 0)) by rw [← hW, ← hrb]; exact lies_alloc _ (heap_alloc_new _ _))
  have HZ := Lib.hid (show W.heap[rb + 1]? = some (.cells #[iv 0, iv 0, .slice none 0 0, iv 0, .bool false] 44 (0, 0)) by rw [← hW, ← hrb]; exact lies_new2 _ _)
  have BW := Lib.hid (show Below w.heap.size w W by rw [← hW]; exact ((Below.refl _ _).alloc (Nat.le_refl _) _).alloc (by simp) _)
  have HW := Lib.hid hW
  have HRB := Lib.hid hrb
  have hud : ∀ b : Bool, (undef = Value.bool b) = False := fun b => by simp [undef]
  have i0 : decide ((i : Int) < 0) = false := by simp
  have i1 : 0 ≤ (i : Int) := by omega
  have i2 : (i : Int) ≤ (j : Int) := by omega
  have i3 : 0 ≤ (j : Int) := by omega
  have t1 : decide ((i : Int) < (at0 : Int)) = false := by simp; omega
  have t2 : ((i : Int) == (at0 : Int)) = true := by simp; omega
  have t4 : ¬ (i < at0) := by omega
  have t3 : decide (((i : Nat) : Int) ≤ (at0 : Int)) = true := by simp; omega
  have t5 : (((i : Nat) : Int) : Int) ≤ at0 := by omega
  clear hx hown hr hl hop hat HRV hW hB hi
  have SF := Lib.hid (show SliceAt w 49 4 (.slice (some ⟨g, 0, none⟩) i j) (seatsX (r.ss.take i)) by rw [← seatsX_take]; exact (show SliceAt w 49 4 (.slice (some ⟨g, 0, none⟩) j j) (seatsX r.ss) from HX.out).front i (by omega))
  have LF := Lib.hid (show (seatsX (r.ss.take i)).length = i * 4 by rw [seatsX_len, List.length_take, HL.out]; omega)
  have LB := Lib.hid (show (seatsX (r.ss.drop (i + 1))).length = (j - j) * 4 by rw [seatsX_len, List.length_drop, HL.out, HJ.out])
  have HWJ := Lib.hid (show IntKind.i64.wrap ((i : Int) + 1) = (j : Int) by rw [IntWalk.i64_in _ (by omega)]; omega)
  go_enter Try.func17, Try.ntmps17
  clear hj hc1 hc2 hc
  go_wp2_with fail
  rw [show (w.alloc (.cells #[iv r.ba, iv r.pe, (.slice (some ⟨g, 0, none⟩) j j), iv at0, .bool op0] 44)).alloc (.cells #[iv 0, iv 0, .slice none 0 0, iv 0, .bool false] 44) = W from HW.out]
  try rw [HRB.out]
  obtain ⟨x0, x1, x2, x3, x4⟩ := cells5 HB.out
  clear hrb
  go_upto_region 4 with (first
    | (go_at_call 30; refine (HSE.out _ (HX.out.below BW.out)).mono ?_; rintro e w1 ⟨rfl, b1⟩; have B1 := Lib.hid b1; clear b1 x0 x1 x2 x3 x4; have HB1 := Lib.hid (lies_below HB.out B1.out (lt_heap HB.out)); obtain ⟨x0, x1, x2, x3, x4⟩ := cells5 HB1.out)
    | (go_at_call 29; refine (HVR.out _ ((HX.out.below BW.out).below B1.out)).mono ?_; rintro e w2 ⟨rfl, b2⟩; have B2 := Lib.hid (B1.out.trans (b2.mono B1.out.size)); clear b2 x0 x1 x2 x3 x4; have HB2 := Lib.hid (lies_below HB.out B2.out (lt_heap HB.out)); have HZ2 := Lib.hid (lies_below HZ.out B2.out (lt_heap HZ.out)); obtain ⟨x0, x1, x2, x3, x4⟩ := cells5 HB2.out))
  have BW2 := Lib.hid (show Below w.heap.size w (w2.drewN 1) from below_drewQ (BW.out.trans (B2.out.mono BW.out.size)) 1)
  have hlrz : rb + 1 < w2.heap.size := lt_heap HZ2.out
  have hws : w.heap.size ≤ w2.heap.size := BW2.out.size
  refine wp_region_D (S := fun w' => w'.cell? ⟨rb, 2, none⟩ = some (.slice (some ⟨g, 0, none⟩) j j)) (st := 13) (by kernel_rfl) ?_
  have hS0 : (fun w' : World => w'.cell? ⟨rb, 2, none⟩ = some (.slice (some ⟨g, 0, none⟩) j j)) _ := x2
  refine wpAnyT_pureD 1 (some 19) ?v41 rfl (by kernel_rfl) (by kernel_rfl) (by kernel_rfl) (by kernel_rfl) (fun _ _ _ h => h) hS0 (by kernel_rfl) rfl ?run41 ?rest41
  case run41 => intro w hS; have hS' : w.cell? ⟨rb, 2, none⟩ = some (.slice (some ⟨g, 0, none⟩) j j) := hS; go_simp; rfl
  refine wpAnyT_pureD 2 (some 20) ?v42 rfl (by kernel_rfl) (by kernel_rfl) (by kernel_rfl) (by kernel_rfl) (fun _ _ _ h => h) hS0 (by kernel_rfl) rfl ?run42 ?rest42
  case run42 => intro w hS; have hS' : w.cell? ⟨rb, 2, none⟩ = some (.slice (some ⟨g, 0, none⟩) j j) := hS; go_simp; rfl
  refine wpAnyT_pureD 3 (some 21) ?v43 rfl (by kernel_rfl) (by kernel_rfl) (by kernel_rfl) (by kernel_rfl) (fun _ _ _ h => h) hS0 (by kernel_rfl) rfl ?run43 ?rest43
  case run43 => intro w hS; have hS' : w.cell? ⟨rb, 2, none⟩ = some (.slice (some ⟨g, 0, none⟩) j j) := hS; go_simp; rfl
  refine wpAnyT_pureD 4 (some 22) ?v44 rfl (by kernel_rfl) (by kernel_rfl) (by kernel_rfl) (by kernel_rfl) (fun _ _ _ h => h) hS0 (by kernel_rfl) rfl ?run44 ?rest44
  case run44 => intro w hS; have hS' : w.cell? ⟨rb, 2, none⟩ = some (.slice (some ⟨g, 0, none⟩) j j) := hS; go_simp; rfl
  refine wpAnyT_pureD 6 (some 24) ?v45 rfl (by kernel_rfl) (by kernel_rfl) (by kernel_rfl) (by kernel_rfl) (fun _ _ _ h => h) hS0 (by kernel_rfl) rfl ?run45 ?rest45
  case run45 => intro w hS; have hS' : w.cell? ⟨rb, 2, none⟩ = some (.slice (some ⟨g, 0, none⟩) j j) := hS; go_simp; rfl
  refine wpAnyT_pureD 7 (some 25) ?v46 rfl (by kernel_rfl) (by kernel_rfl) (by kernel_rfl) (by kernel_rfl) (fun _ _ _ h => h) hS0 (by kernel_rfl) rfl ?run46 ?rest46
  case run46 => intro w hS; have hS' : w.cell? ⟨rb, 2, none⟩ = some (.slice (some ⟨g, 0, none⟩) j j) := hS; go_simp; rfl
  refine wpAnyT_pureD 8 (some 26) ?v47 rfl (by kernel_rfl) (by kernel_rfl) (by kernel_rfl) (by kernel_rfl) (fun _ _ _ h => h) hS0 (by kernel_rfl) rfl ?run47 ?rest47
  case run47 => intro w hS; have hS' : w.cell? ⟨rb, 2, none⟩ = some (.slice (some ⟨g, 0, none⟩) j j) := hS; go_simp; rfl
  refine wpAnyT_pureD 9 (some 27) ?v48 rfl (by kernel_rfl) (by kernel_rfl) (by kernel_rfl) (by kernel_rfl) (fun _ _ _ h => h) hS0 (by kernel_rfl) rfl ?run48 ?rest48
  case run48 => intro w hS; have hS' : w.cell? ⟨rb, 2, none⟩ = some (.slice (some ⟨g, 0, none⟩) j j) := hS; have hq := HWJ.out; go_simp; rfl
  refine wpAnyT_pureD 10 (some 28) ?v49 rfl (by kernel_rfl) (by kernel_rfl) (by kernel_rfl) (by kernel_rfl) (fun _ _ _ h => h) hS0 (by kernel_rfl) rfl ?run49 ?rest49
  case run49 => intro w hS; have hS' : w.cell? ⟨rb, 2, none⟩ = some (.slice (some ⟨g, 0, none⟩) j j) := hS; go_simp; rfl
  refine wpAnyT_value 0 (some 18) (.slice (some ⟨w2.heap.size, 0, none⟩) 0 0) ((w2.drewN 1).alloc (.cells #[] 49)) rfl (by kernel_rfl) (by kernel_rfl) ?rva rfl (fun _ => ?sa) ?_
  case rva => go_simp
  case sa => exact (World.cell?_of_block (Below.heap_alloc _ _ _ (by show rb < w2.heap.size; omega))).trans hS0
  have hS0 : (fun w' : World => w'.cell? ⟨rb, 2, none⟩ = some (.slice (some ⟨g, 0, none⟩) j j)) ((w2.drewN 1).alloc (.cells #[] 49)) := (World.cell?_of_block (Below.heap_alloc _ _ _ (by show rb < w2.heap.size; omega))).trans hS0
  refine wpAnyT_append 5 (some 23) rfl (by kernel_rfl) (by kernel_rfl) rfl _ _ 42 rfl w2.heap.size 49 _ 4 32 Try.underlying42 info_seat rfl (by decide) _ 0 [] (own_empty (w := w2.drewN 1) rfl) (by kernel_rfl) (.slice (some ⟨g, 0, none⟩) i j) i (seatsX (r.ss.take i)) (by kernel_rfl) (SliceAt.same SF.out (SameT.below (BW2.out.alloc BW2.out.size _))) LF.out (seatsX_oc _) (by unfold maxLen; omega) (by omega) (by simp) ?_
  intro g1 d1 v1 own1 gr1
  have B3 := Lib.hid (show Below w2.heap.size (w2.drewN 1) v1 from grown_below rfl gr1)
  have OW1 := Lib.hid own1
  have S3 : w2.heap.size ≤ v1.heap.size := B3.out.size
  clear own1 gr1
  have hS1 : (fun w' : World => w'.cell? ⟨rb, 2, none⟩ = some (.slice (some ⟨g, 0, none⟩) j j)) v1 := (World.cell?_of_block (B3.out.block rb (by omega))).trans ((World.cell?_of_block (Below.heap_alloc _ _ _ (by show rb < w2.heap.size; omega))).symm.trans hS0)
  clear hS0
  have hS0 : (fun w' : World => w'.cell? ⟨rb, 2, none⟩ = some (.slice (some ⟨g, 0, none⟩) j j)) v1 := hS1
  refine ⟨fun _ => hS0, ?_⟩
  refine wpAnyT_append 11 (some 29) rfl (by kernel_rfl) (by kernel_rfl) rfl _ _ 42 rfl w2.heap.size 49 _ 4 32 Try.underlying42 info_seat rfl (by decide) _ _ _ OW1.out (by kernel_rfl) (.slice (some ⟨g, 0, none⟩) 0 0) 0 [] (by kernel_rfl) (show SliceAt v1 49 4 (.slice (some ⟨g, 0, none⟩) 0 0) [] from ⟨0, 0, rfl, Nat.zero_le _, Nat.zero_le _, .inl ⟨⟨_, rfl⟩, rfl⟩⟩) rfl rfl (by unfold maxLen; omega) (by omega) S3 ?_
  intro g2 d2 v2 own2 gr2
  have B4 := Lib.hid (show Below w2.heap.size (w2.drewN 1) v2 from B3.out.trans (Below.of_grown gr2 OW1.out S3))
  have OW2 := Lib.hid own2
  have B4w := Lib.hid (show Below w2.heap.size w2 v2 from ⟨B4.out.os, B4.out.tape, B4.out.output, B4.out.size, B4.out.block⟩)
  have hS1 : (fun w' : World => w'.cell? ⟨rb, 2, none⟩ = some (.slice (some ⟨g, 0, none⟩) j j)) v2 := (World.cell?_of_block (B4.out.block rb (by omega))).trans ((World.cell?_of_block (B3.out.block rb (by omega))).symm.trans hS0)
  clear own2 gr2 hS0
  have hS0 : (fun w' : World => w'.cell? ⟨rb, 2, none⟩ = some (.slice (some ⟨g, 0, none⟩) j j)) v2 := hS1
  refine ⟨fun _ => hS0, ?_⟩
  refine wpAnyT_pureD 12 (some 30) ?v50 rfl (by kernel_rfl) (by kernel_rfl) (by kernel_rfl) (by kernel_rfl) (fun _ _ _ h => h) hS0 (by kernel_rfl) rfl ?run50 ?rest50
  case run50 => intro w hS; have hS' : w.cell? ⟨rb, 2, none⟩ = some (.slice (some ⟨g, 0, none⟩) j j) := hS; go_simp; rfl
  have fz := (lies_cells (lies_below HB2.out B4w.out (by omega))).2
  refine wpAnyT_step 13 none (v2.setCell ⟨rb, 2, none⟩ (.slice g2 (0 + i + 0) d2)) rfl (by kernel_rfl) (by kernel_rfl) ?rs rfl (fun h => absurd rfl h) ?_
  case rs => (have q2 : v2.cell? ⟨rb, 2, none⟩ = some (.slice (some ⟨g, 0, none⟩) j j) := hS0); (have q3 := fz 2); go_simp
  refine wpAnyT_done (by kernel_rfl) ?_ _
  generalize hA : Act.put _ _ _ = A0
  simp only [put_mk, put_no, List.setIfInBounds_toArray, List.set_cons_succ, List.set_cons_zero] at hA
  subst hA
  simp only [Nat.zero_add, Nat.add_zero]
  have OW3 := Lib.hid (show v2.ownsRow w2.heap.size 49 4 (Value.slice g2 (i) d2) i ([] ++ seatsX (r.ss.take i) ++ []) by have h := OW2.out; simp only [Nat.zero_add, Nat.add_zero] at h; exact h)
  obtain ⟨s3, hs3⟩ : ∃ s, (Value.slice g2 (i) d2) = s := ⟨_, rfl⟩
  rw [hs3]
  have HLEN := Lib.hid (show (remR r i).ss.length = i by rw [HREM.out]; have h1 := HL.out; have h2 := HJ.out; simp only [List.length_append, List.length_take, List.length_drop]; omega)
  have HXS := Lib.hid (show seatsX (remR r i).ss = [] ++ seatsX (r.ss.take i) ++ [] by rw [HREM.out]; simp only [List.append_nil, List.nil_append]; rw [List.drop_eq_nil_of_le (by have h1 := HL.out; have h2 := HJ.out; omega), List.append_nil])
  have OW4 := Lib.hid (show v2.ownsRow w2.heap.size 49 4 s3 (remR r i).ss.length (seatsX (remR r i).ss) by rw [HLEN.out, HXS.out, ← hs3]; exact OW3.out)
  have HB4 : v2.heap[rb]? = some (.cells #[iv r.ba, iv r.pe, (.slice (some ⟨g, 0, none⟩) j j), iv at0, .bool op0] 44 (0, 0)) := lies_below HB2.out B4w.out (by omega)
  have HZ4 : v2.heap[rb + 1]? = some (.cells #[iv 0, iv 0, .slice none 0 0, iv 0, .bool false] 44 (0, 0)) := lies_below HZ2.out B4w.out (by omega)
  have BV : Below w.heap.size w v2 := BW2.out.trans (B4.out.mono hws)
  have GD := Lib.hid (show Good w2.heap.size w rb (.cells #[iv 0, iv 0, .slice none 0 0, iv 0, .bool false] 44 (0, 0)) s3 (remR r i).ss (v2.setCell ⟨rb, 2, none⟩ s3) from (Good.mk HZ4 OW4.out BV).set HRB.out hlrz 2 s3)
  have HBV := Lib.hid (show (v2.setCell ⟨rb, 2, none⟩ s3).heap[rb]? = some (.cells #[iv r.ba, iv r.pe, s3, iv at0, .bool op0] 44 (0, 0)) from set_cells HB4)
  have HSV := Lib.hid (show s3 = (Value.slice g2 (i) d2) from hs3.symm)
  have HLZ := Lib.hid hlrz
  clear hs3 x0 x1 x2 x3 x4 hS0 HB4 HZ4 BV fz S3 hlrz
  obtain ⟨V, hV⟩ : ∃ V, v2.setCell ⟨rb, 2, none⟩ s3 = V := ⟨_, rfl⟩
  rw [hV] at GD HBV ⊢
  clear hV
  have HZV := Lib.hid GD.out.z
  obtain ⟨x0, x1, x2, x3, x4⟩ := cells5 HBV.out
  obtain ⟨z0, z1, z2, z3, z4⟩ := cells5 HZV.out
  have fx := (lies_cells HBV.out).2
  have fz := (lies_cells HZV.out).2
  have hrz : rb ≠ rb + 1 := Nat.ne_of_lt (Nat.lt_succ_self rb)
  have hrz2 : rb + 1 ≠ rb := Nat.succ_ne_self rb
  obtain rfl := HSV.out
  go_wp2
  show bodyPost _ _ _ _ _ (((((((V.setCell ⟨rb, 4, none⟩ (.bool false)).setCell ⟨rb, 3, none⟩ (iv 0)).setCell ⟨rb + 1, 0, none⟩ (iv r.ba)).setCell ⟨rb + 1, 1, none⟩ (iv r.pe)).setCell ⟨rb + 1, 2, none⟩ (Value.slice g2 (i) d2)).setCell ⟨rb + 1, 3, none⟩ (iv 0)).setCell ⟨rb + 1, 4, none⟩ (.bool false))
  obtain ⟨F, hF⟩ : ∃ F, ((((((V.setCell ⟨rb, 4, none⟩ (.bool false)).setCell ⟨rb, 3, none⟩ (iv 0)).setCell ⟨rb + 1, 0, none⟩ (iv r.ba)).setCell ⟨rb + 1, 1, none⟩ (iv r.pe)).setCell ⟨rb + 1, 2, none⟩ (Value.slice g2 (i) d2)).setCell ⟨rb + 1, 3, none⟩ (iv 0)).setCell ⟨rb + 1, 4, none⟩ (.bool false) = F := ⟨_, rfl⟩
  rw [hF]
  have HF := Lib.hid (Good.fin (B := B) ((GD.out.set HRB.out HLZ.out _ _).set HRB.out HLZ.out _ _) HRB.out HLZ.out HBB.out hF.symm)
  obtain ⟨f0, f1, f2, f3, f4⟩ := cells5 HF.out.1
  refine bodyPost_ret (v := .tuple #[ringV (remR r i) (Value.slice g2 (i) d2), .bool true]) (by simp [results, Try.results17, go_sem, f0, f1, f2, f3, f4, ringV, HREM.out]) rfl ⟨_, rfl, HF.out.2.1, HF.out.2.2⟩
set_option maxRecDepth 100000 in
set_option maxHeartbeats 4000000 in
theorem rem_gt_mid {B : Nat} (r : RV) (s : SV) (w : World) (n g c i at0 : Nat) (op0 : Bool) (hB : B ≤ w.heap.size) (hop : r.op = op0) (hat : r.at_ = at0) (hl : r.ss.length = n) (hown : OwnS B w (.slice (some ⟨g, 0, none⟩) n c) r.ss) (hr : RingOk r) (hi : r.ss[i]? = some s) (hc1 : at0 < i) (hce : i + 1 < c) :
    Calls Try.prog 17 #[ringV r (.slice (some ⟨g, 0, none⟩) n c), iv s.id] w (RingQ B (remR r i) (.bool true) w) := by
  obtain ⟨-, hBg, hg, hnc, hc, -, -⟩ := hown.form
  unfold maxLen at hc
  have hx := hown.seats
  have HX := Lib.hid hx
  have HR := Lib.hid hr
  have HL := Lib.hid hl
  have HBB := Lib.hid hB
  have hin : i < n := by rw [← hl]; exact (List.getElem?_eq_some_iff.1 hi).1
  have hn16 : n ≤ 16 := by rw [← hl]; exact hr.len
  have hat16 : at0 ≤ 16 := by have h1 := hr.at_; rw [hat] at h1; omega
  have HRV : ∀ v, ringV r v = .agg #[iv r.ba, iv r.pe, v, iv at0, .bool op0] := fun v => by unfold ringV; rw [hop, hat]
  rw [HRV]
  have HVR := Lib.hid (show ∀ w', SeatsAt w' (.slice (some ⟨g, 0, none⟩) n c) r.ss → Calls Try.prog 29 #[.agg #[iv r.ba, iv r.pe, (.slice (some ⟨g, 0, none⟩) n c), iv at0, .bool op0]] w' (BoolQ true w') from fun w' h' => by rw [← HRV]; exact vring_any r _ w' h' HR.out)
  have HSE := Lib.hid (show ∀ w', SeatsAt w' (.slice (some ⟨g, 0, none⟩) n c) r.ss → Calls Try.prog 30 #[.agg #[iv r.ba, iv r.pe, (.slice (some ⟨g, 0, none⟩) n c), iv at0, .bool op0], iv s.id] w' (IntQ (i : Int) w') from fun w' h' => by rw [← HRV]; exact seat_eq (by have := seatFrom_at r.ss 0 i s HR.out.nd hi; simpa using this) _ w' h')
  have HREM := Lib.hid (show remR r i = ⟨r.ba, r.pe, r.ss.take i ++ r.ss.drop (i + 1), at0, op0⟩ by
    unfold remR
    rw [hop, hat, hl]
    rw [if_neg (by omega), if_neg (by omega), show decide (i ≠ at0) = true by simp; omega, Bool.and_true])
  obtain ⟨j, hj⟩ : ∃ j, i + 1 = j := ⟨_, rfl⟩
  have HJ := Lib.hid hj
  obtain ⟨W, hW⟩ : ∃ W, (w.alloc (.cells #[iv r.ba, iv r.pe, (.slice (some ⟨g, 0, none⟩) n c), iv at0, .bool op0] 44)).alloc (.cells #[iv 0, iv 0, .slice none 0 0, iv 0, .bool false] 44) = W := ⟨_, rfl⟩
  obtain ⟨rb, hrb⟩ : ∃ b, w.heap.size = b := ⟨_, rfl⟩
  have HB := Lib.hid (show W.heap[rb]? = some (.cells #[iv r.ba, iv r.pe, (.slice (some ⟨g, 0, none⟩) n c), iv at0, .bool op0] 44 (0, 0)) by rw [← hW, ← hrb]; exact lies_alloc _ (heap_alloc_new _ _))
  have HZ := Lib.hid (show W.heap[rb + 1]? = some (.cells #[iv 0, iv 0, .slice none 0 0, iv 0, .bool false] 44 (0, 0)) by rw [← hW, ← hrb]; exact lies_new2 _ _)
  have BW := Lib.hid (show Below w.heap.size w W by rw [← hW]; exact ((Below.refl _ _).alloc (Nat.le_refl _) _).alloc (by simp) _)
  have HW := Lib.hid hW
  have HRB := Lib.hid hrb
  have hud : ∀ b : Bool, (undef = Value.bool b) = False := fun b => by simp [undef]
  have i0 : decide ((i : Int) < 0) = false := by simp
  have i1 : 0 ≤ (i : Int) := by omega
  have i2 : (i : Int) ≤ (c : Int) := by omega
  have i3 : 0 ≤ (j : Int) := by omega
  have i4 : (j : Int) ≤ (n : Int) := by omega
  have i5 : (n : Int) ≤ (c : Int) := by omega
  have i6 : (j : Int) ≤ (c : Int) := by omega
  have hcj : ¬ c = j := by omega
  have t1 : decide ((i : Int) < (at0 : Int)) = false := by simp; omega
  have t2 : ((i : Int) == (at0 : Int)) = false := by simp; omega
  clear hx hown hr hl hop hat HRV hW hB hi
  have SF := Lib.hid (show SliceAt w 49 4 (.slice (some ⟨g, 0, none⟩) i c) (seatsX (r.ss.take i)) by rw [← seatsX_take]; exact (show SliceAt w 49 4 (.slice (some ⟨g, 0, none⟩) n c) (seatsX r.ss) from HX.out).front i (by omega))
  have SB := Lib.hid (show SliceAt w 49 4 (.slice (some ⟨g, j * 4, none⟩) (n - j) (c - j)) (seatsX (r.ss.drop (i + 1))) by rw [← seatsX_drop, HJ.out]; have h1 := (show SliceAt w 49 4 (.slice (some ⟨g, 0, none⟩) n c) (seatsX r.ss) from HX.out).back j (by omega); rw [Nat.zero_add] at h1; exact h1)
  have LF := Lib.hid (show (seatsX (r.ss.take i)).length = i * 4 by rw [seatsX_len, List.length_take, HL.out]; omega)
  have LB := Lib.hid (show (seatsX (r.ss.drop (i + 1))).length = (n - j) * 4 by rw [seatsX_len, List.length_drop, HL.out, HJ.out])
  have HWJ := Lib.hid (show IntKind.i64.wrap ((i : Int) + 1) = (j : Int) by rw [IntWalk.i64_in _ (by omega)]; omega)
  go_enter Try.func17, Try.ntmps17
  clear hj  hc
  go_wp2_with fail
  rw [show (w.alloc (.cells #[iv r.ba, iv r.pe, (.slice (some ⟨g, 0, none⟩) n c), iv at0, .bool op0] 44)).alloc (.cells #[iv 0, iv 0, .slice none 0 0, iv 0, .bool false] 44) = W from HW.out]
  try rw [HRB.out]
  obtain ⟨x0, x1, x2, x3, x4⟩ := cells5 HB.out
  clear hrb
  go_upto_region 4 with (first
    | (go_at_call 30; refine (HSE.out _ (HX.out.below BW.out)).mono ?_; rintro e w1 ⟨rfl, b1⟩; have B1 := Lib.hid b1; clear b1 x0 x1 x2 x3 x4; have HB1 := Lib.hid (lies_below HB.out B1.out (lt_heap HB.out)); obtain ⟨x0, x1, x2, x3, x4⟩ := cells5 HB1.out)
    | (go_at_call 29; refine (HVR.out _ ((HX.out.below BW.out).below B1.out)).mono ?_; rintro e w2 ⟨rfl, b2⟩; have B2 := Lib.hid (B1.out.trans (b2.mono B1.out.size)); clear b2 x0 x1 x2 x3 x4; have HB2 := Lib.hid (lies_below HB.out B2.out (lt_heap HB.out)); have HZ2 := Lib.hid (lies_below HZ.out B2.out (lt_heap HZ.out)); obtain ⟨x0, x1, x2, x3, x4⟩ := cells5 HB2.out))
  have BW2 := Lib.hid (show Below w.heap.size w (w2.drewN 1) from below_drewQ (BW.out.trans (B2.out.mono BW.out.size)) 1)
  have hlrz : rb + 1 < w2.heap.size := lt_heap HZ2.out
  have hws : w.heap.size ≤ w2.heap.size := BW2.out.size
  refine wp_region_D (S := fun w' => w'.cell? ⟨rb, 2, none⟩ = some (.slice (some ⟨g, 0, none⟩) n c)) (st := 13) (by kernel_rfl) ?_
  have hS0 : (fun w' : World => w'.cell? ⟨rb, 2, none⟩ = some (.slice (some ⟨g, 0, none⟩) n c)) _ := x2
  refine wpAnyT_pureD 1 (some 19) ?v51 rfl (by kernel_rfl) (by kernel_rfl) (by kernel_rfl) (by kernel_rfl) (fun _ _ _ h => h) hS0 (by kernel_rfl) rfl ?run51 ?rest51
  case run51 => intro w hS; have hS' : w.cell? ⟨rb, 2, none⟩ = some (.slice (some ⟨g, 0, none⟩) n c) := hS; go_simp; rfl
  refine wpAnyT_pureD 2 (some 20) ?v52 rfl (by kernel_rfl) (by kernel_rfl) (by kernel_rfl) (by kernel_rfl) (fun _ _ _ h => h) hS0 (by kernel_rfl) rfl ?run52 ?rest52
  case run52 => intro w hS; have hS' : w.cell? ⟨rb, 2, none⟩ = some (.slice (some ⟨g, 0, none⟩) n c) := hS; go_simp; rfl
  refine wpAnyT_pureD 3 (some 21) ?v53 rfl (by kernel_rfl) (by kernel_rfl) (by kernel_rfl) (by kernel_rfl) (fun _ _ _ h => h) hS0 (by kernel_rfl) rfl ?run53 ?rest53
  case run53 => intro w hS; have hS' : w.cell? ⟨rb, 2, none⟩ = some (.slice (some ⟨g, 0, none⟩) n c) := hS; go_simp; rfl
  refine wpAnyT_pureD 4 (some 22) ?v54 rfl (by kernel_rfl) (by kernel_rfl) (by kernel_rfl) (by kernel_rfl) (fun _ _ _ h => h) hS0 (by kernel_rfl) rfl ?run54 ?rest54
  case run54 => intro w hS; have hS' : w.cell? ⟨rb, 2, none⟩ = some (.slice (some ⟨g, 0, none⟩) n c) := hS; go_simp; rfl
  refine wpAnyT_pureD 6 (some 24) ?v55 rfl (by kernel_rfl) (by kernel_rfl) (by kernel_rfl) (by kernel_rfl) (fun _ _ _ h => h) hS0 (by kernel_rfl) rfl ?run55 ?rest55
  case run55 => intro w hS; have hS' : w.cell? ⟨rb, 2, none⟩ = some (.slice (some ⟨g, 0, none⟩) n c) := hS; go_simp; rfl
  refine wpAnyT_pureD 7 (some 25) ?v56 rfl (by kernel_rfl) (by kernel_rfl) (by kernel_rfl) (by kernel_rfl) (fun _ _ _ h => h) hS0 (by kernel_rfl) rfl ?run56 ?rest56
  case run56 => intro w hS; have hS' : w.cell? ⟨rb, 2, none⟩ = some (.slice (some ⟨g, 0, none⟩) n c) := hS; go_simp; rfl
  refine wpAnyT_pureD 8 (some 26) ?v57 rfl (by kernel_rfl) (by kernel_rfl) (by kernel_rfl) (by kernel_rfl) (fun _ _ _ h => h) hS0 (by kernel_rfl) rfl ?run57 ?rest57
  case run57 => intro w hS; have hS' : w.cell? ⟨rb, 2, none⟩ = some (.slice (some ⟨g, 0, none⟩) n c) := hS; go_simp; rfl
  refine wpAnyT_pureD 9 (some 27) ?v58 rfl (by kernel_rfl) (by kernel_rfl) (by kernel_rfl) (by kernel_rfl) (fun _ _ _ h => h) hS0 (by kernel_rfl) rfl ?run58 ?rest58
  case run58 => intro w hS; have hS' : w.cell? ⟨rb, 2, none⟩ = some (.slice (some ⟨g, 0, none⟩) n c) := hS; have hq := HWJ.out; go_simp; rfl
  refine wpAnyT_pureD 10 (some 28) ?v59 rfl (by kernel_rfl) (by kernel_rfl) (by kernel_rfl) (by kernel_rfl) (fun _ _ _ h => h) hS0 (by kernel_rfl) rfl ?run59 ?rest59
  case run59 => intro w hS; have hS' : w.cell? ⟨rb, 2, none⟩ = some (.slice (some ⟨g, 0, none⟩) n c) := hS; go_simp; rfl
  refine wpAnyT_value 0 (some 18) (.slice (some ⟨w2.heap.size, 0, none⟩) 0 0) ((w2.drewN 1).alloc (.cells #[] 49)) rfl (by kernel_rfl) (by kernel_rfl) ?rva rfl (fun _ => ?sa) ?_
  case rva => go_simp
  case sa => exact (World.cell?_of_block (Below.heap_alloc _ _ _ (by show rb < w2.heap.size; omega))).trans hS0
  have hS0 : (fun w' : World => w'.cell? ⟨rb, 2, none⟩ = some (.slice (some ⟨g, 0, none⟩) n c)) ((w2.drewN 1).alloc (.cells #[] 49)) := (World.cell?_of_block (Below.heap_alloc _ _ _ (by show rb < w2.heap.size; omega))).trans hS0
  refine wpAnyT_append 5 (some 23) rfl (by kernel_rfl) (by kernel_rfl) rfl _ _ 42 rfl w2.heap.size 49 _ 4 32 Try.underlying42 info_seat rfl (by decide) _ 0 [] (own_empty (w := w2.drewN 1) rfl) (by kernel_rfl) (.slice (some ⟨g, 0, none⟩) i c) i (seatsX (r.ss.take i)) (by kernel_rfl) (SliceAt.same SF.out (SameT.below (BW2.out.alloc BW2.out.size _))) LF.out (seatsX_oc _) (by unfold maxLen; omega) (by omega) (by simp) ?_
  intro g1 d1 v1 own1 gr1
  have B3 := Lib.hid (show Below w2.heap.size (w2.drewN 1) v1 from grown_below rfl gr1)
  have OW1 := Lib.hid own1
  have S3 : w2.heap.size ≤ v1.heap.size := B3.out.size
  clear own1 gr1
  have hS1 : (fun w' : World => w'.cell? ⟨rb, 2, none⟩ = some (.slice (some ⟨g, 0, none⟩) n c)) v1 := (World.cell?_of_block (B3.out.block rb (by omega))).trans ((World.cell?_of_block (Below.heap_alloc _ _ _ (by show rb < w2.heap.size; omega))).symm.trans hS0)
  clear hS0
  have hS0 : (fun w' : World => w'.cell? ⟨rb, 2, none⟩ = some (.slice (some ⟨g, 0, none⟩) n c)) v1 := hS1
  refine ⟨fun _ => hS0, ?_⟩
  refine wpAnyT_append 11 (some 29) rfl (by kernel_rfl) (by kernel_rfl) rfl _ _ 42 rfl w2.heap.size 49 _ 4 32 Try.underlying42 info_seat rfl (by decide) _ _ _ OW1.out (by kernel_rfl) (.slice (some ⟨g, j * 4, none⟩) (n - j) (c - j)) (n - j) (seatsX (r.ss.drop (i + 1))) (by kernel_rfl) (SliceAt.same SB.out (SameT.below (BW2.out.trans (B3.out.mono hws)))) LB.out (seatsX_oc _) (by unfold maxLen; omega) (by omega) S3 ?_
  intro g2 d2 v2 own2 gr2
  have B4 := Lib.hid (show Below w2.heap.size (w2.drewN 1) v2 from B3.out.trans (Below.of_grown gr2 OW1.out S3))
  have OW2 := Lib.hid own2
  have B4w := Lib.hid (show Below w2.heap.size w2 v2 from ⟨B4.out.os, B4.out.tape, B4.out.output, B4.out.size, B4.out.block⟩)
  have hS1 : (fun w' : World => w'.cell? ⟨rb, 2, none⟩ = some (.slice (some ⟨g, 0, none⟩) n c)) v2 := (World.cell?_of_block (B4.out.block rb (by omega))).trans ((World.cell?_of_block (B3.out.block rb (by omega))).symm.trans hS0)
  clear own2 gr2 hS0
  have hS0 : (fun w' : World => w'.cell? ⟨rb, 2, none⟩ = some (.slice (some ⟨g, 0, none⟩) n c)) v2 := hS1
  refine ⟨fun _ => hS0, ?_⟩
  refine wpAnyT_pureD 12 (some 30) ?v60 rfl (by kernel_rfl) (by kernel_rfl) (by kernel_rfl) (by kernel_rfl) (fun _ _ _ h => h) hS0 (by kernel_rfl) rfl ?run60 ?rest60
  case run60 => intro w hS; have hS' : w.cell? ⟨rb, 2, none⟩ = some (.slice (some ⟨g, 0, none⟩) n c) := hS; go_simp; rfl
  have fz := (lies_cells (lies_below HB2.out B4w.out (by omega))).2
  refine wpAnyT_step 13 none (v2.setCell ⟨rb, 2, none⟩ (.slice g2 (0 + i + (n - j)) d2)) rfl (by kernel_rfl) (by kernel_rfl) ?rs rfl (fun h => absurd rfl h) ?_
  case rs => (have q2 : v2.cell? ⟨rb, 2, none⟩ = some (.slice (some ⟨g, 0, none⟩) n c) := hS0); (have q3 := fz 2); go_simp
  refine wpAnyT_done (by kernel_rfl) ?_ _
  generalize hA : Act.put _ _ _ = A0
  simp only [put_mk, put_no, List.setIfInBounds_toArray, List.set_cons_succ, List.set_cons_zero] at hA
  subst hA
  simp only [Nat.zero_add, Nat.add_zero]
  have OW3 := Lib.hid (show v2.ownsRow w2.heap.size 49 4 (Value.slice g2 (i + (n - j)) d2) (i + (n - j)) ([] ++ seatsX (r.ss.take i) ++ seatsX (r.ss.drop (i + 1))) by have h := OW2.out; simp only [Nat.zero_add, Nat.add_zero] at h; exact h)
  obtain ⟨s3, hs3⟩ : ∃ s, (Value.slice g2 (i + (n - j)) d2) = s := ⟨_, rfl⟩
  rw [hs3]
  have HLEN := Lib.hid (show (remR r i).ss.length = (i + (n - j)) by rw [HREM.out]; have h1 := HL.out; have h2 := HJ.out; simp only [List.length_append, List.length_take, List.length_drop]; omega)
  have HXS := Lib.hid (show seatsX (remR r i).ss = [] ++ seatsX (r.ss.take i) ++ seatsX (r.ss.drop (i + 1)) by rw [HREM.out]; rw [List.nil_append]; exact seatsX_app _ _)
  have OW4 := Lib.hid (show v2.ownsRow w2.heap.size 49 4 s3 (remR r i).ss.length (seatsX (remR r i).ss) by rw [HLEN.out, HXS.out, ← hs3]; exact OW3.out)
  have HB4 : v2.heap[rb]? = some (.cells #[iv r.ba, iv r.pe, (.slice (some ⟨g, 0, none⟩) n c), iv at0, .bool op0] 44 (0, 0)) := lies_below HB2.out B4w.out (by omega)
  have HZ4 : v2.heap[rb + 1]? = some (.cells #[iv 0, iv 0, .slice none 0 0, iv 0, .bool false] 44 (0, 0)) := lies_below HZ2.out B4w.out (by omega)
  have BV : Below w.heap.size w v2 := BW2.out.trans (B4.out.mono hws)
  have GD := Lib.hid (show Good w2.heap.size w rb (.cells #[iv 0, iv 0, .slice none 0 0, iv 0, .bool false] 44 (0, 0)) s3 (remR r i).ss (v2.setCell ⟨rb, 2, none⟩ s3) from (Good.mk HZ4 OW4.out BV).set HRB.out hlrz 2 s3)
  have HBV := Lib.hid (show (v2.setCell ⟨rb, 2, none⟩ s3).heap[rb]? = some (.cells #[iv r.ba, iv r.pe, s3, iv at0, .bool op0] 44 (0, 0)) from set_cells HB4)
  have HSV := Lib.hid (show s3 = (Value.slice g2 (i + (n - j)) d2) from hs3.symm)
  have HLZ := Lib.hid hlrz
  clear hs3 x0 x1 x2 x3 x4 hS0 HB4 HZ4 BV fz S3 hlrz
  obtain ⟨V, hV⟩ : ∃ V, v2.setCell ⟨rb, 2, none⟩ s3 = V := ⟨_, rfl⟩
  rw [hV] at GD HBV ⊢
  clear hV
  have HZV := Lib.hid GD.out.z
  obtain ⟨x0, x1, x2, x3, x4⟩ := cells5 HBV.out
  obtain ⟨z0, z1, z2, z3, z4⟩ := cells5 HZV.out
  have fx := (lies_cells HBV.out).2
  have fz := (lies_cells HZV.out).2
  have hrz : rb ≠ rb + 1 := Nat.ne_of_lt (Nat.lt_succ_self rb)
  have hrz2 : rb + 1 ≠ rb := Nat.succ_ne_self rb
  obtain rfl := HSV.out
  go_wp2
  show bodyPost _ _ _ _ _ (((((V.setCell ⟨rb + 1, 0, none⟩ (iv r.ba)).setCell ⟨rb + 1, 1, none⟩ (iv r.pe)).setCell ⟨rb + 1, 2, none⟩ (Value.slice g2 (i + (n - j)) d2)).setCell ⟨rb + 1, 3, none⟩ (iv (at0 : Nat))).setCell ⟨rb + 1, 4, none⟩ (.bool op0))
  obtain ⟨F, hF⟩ : ∃ F, ((((V.setCell ⟨rb + 1, 0, none⟩ (iv r.ba)).setCell ⟨rb + 1, 1, none⟩ (iv r.pe)).setCell ⟨rb + 1, 2, none⟩ (Value.slice g2 (i + (n - j)) d2)).setCell ⟨rb + 1, 3, none⟩ (iv (at0 : Nat))).setCell ⟨rb + 1, 4, none⟩ (.bool op0) = F := ⟨_, rfl⟩
  rw [hF]
  have HF := Lib.hid (Good.fin (B := B) (GD.out) HRB.out HLZ.out HBB.out hF.symm)
  obtain ⟨f0, f1, f2, f3, f4⟩ := cells5 HF.out.1
  refine bodyPost_ret (v := .tuple #[ringV (remR r i) (Value.slice g2 (i + (n - j)) d2), .bool true]) (by simp [results, Try.results17, go_sem, f0, f1, f2, f3, f4, ringV, HREM.out]) rfl ⟨_, rfl, HF.out.2.1, HF.out.2.2⟩
set_option maxRecDepth 100000 in
set_option maxHeartbeats 4000000 in
theorem rem_gt_end {B : Nat} (r : RV) (s : SV) (w : World) (g i at0 j : Nat) (op0 : Bool) (hB : B ≤ w.heap.size) (hop : r.op = op0) (hat : r.at_ = at0) (hl : r.ss.length = j) (hown : OwnS B w (.slice (some ⟨g, 0, none⟩) j j) r.ss) (hr : RingOk r) (hi : r.ss[i]? = some s) (hc1 : at0 < i) (hj : i + 1 = j) :
    Calls Try.prog 17 #[ringV r (.slice (some ⟨g, 0, none⟩) j j), iv s.id] w (RingQ B (remR r i) (.bool true) w) := by
  obtain ⟨-, hBg, hg, hnc, hc, -, -⟩ := hown.form
  unfold maxLen at hc
  have hx := hown.seats
  have HX := Lib.hid hx
  have HR := Lib.hid hr
  have HL := Lib.hid hl
  have HBB := Lib.hid hB
  have hin : i < j := by rw [← hl]; exact (List.getElem?_eq_some_iff.1 hi).1
  have hn16 : j ≤ 16 := by rw [← hl]; exact hr.len
  have hat16 : at0 ≤ 16 := by have h1 := hr.at_; rw [hat] at h1; omega
  have HRV : ∀ v, ringV r v = .agg #[iv r.ba, iv r.pe, v, iv at0, .bool op0] := fun v => by unfold ringV; rw [hop, hat]
  rw [HRV]
  have HVR := Lib.hid (show ∀ w', SeatsAt w' (.slice (some ⟨g, 0, none⟩) j j) r.ss → Calls Try.prog 29 #[.agg #[iv r.ba, iv r.pe, (.slice (some ⟨g, 0, none⟩) j j), iv at0, .bool op0]] w' (BoolQ true w') from fun w' h' => by rw [← HRV]; exact vring_any r _ w' h' HR.out)
  have HSE := Lib.hid (show ∀ w', SeatsAt w' (.slice (some ⟨g, 0, none⟩) j j) r.ss → Calls Try.prog 30 #[.agg #[iv r.ba, iv r.pe, (.slice (some ⟨g, 0, none⟩) j j), iv at0, .bool op0], iv s.id] w' (IntQ (i : Int) w') from fun w' h' => by rw [← HRV]; exact seat_eq (by have := seatFrom_at r.ss 0 i s HR.out.nd hi; simpa using this) _ w' h')
  have HREM := Lib.hid (show remR r i = ⟨r.ba, r.pe, r.ss.take i ++ r.ss.drop (i + 1), at0, op0⟩ by
    unfold remR
    rw [hop, hat, hl]
    rw [if_neg (by omega), if_neg (by omega), show decide (i ≠ at0) = true by simp; omega, Bool.and_true])
  have HJ := Lib.hid hj
  obtain ⟨W, hW⟩ : ∃ W, (w.alloc (.cells #[iv r.ba, iv r.pe, (.slice (some ⟨g, 0, none⟩) j j), iv at0, .bool op0] 44)).alloc (.cells #[iv 0, iv 0, .slice none 0 0, iv 0, .bool false] 44) = W := ⟨_, rfl⟩
  obtain ⟨rb, hrb⟩ : ∃ b, w.heap.size = b := ⟨_, rfl⟩
  have HB := Lib.hid (show W.heap[rb]? = some (.cells #[iv r.ba, iv r.pe, (.slice (some ⟨g, 0, none⟩) j j), iv at0, .bool op0] 44 (0, 0)) by rw [← hW, ← hrb]; exact lies_alloc _ (heap_alloc_new _ _))
  have HZ := Lib.hid (show W.heap[rb + 1]? = some (.cells #[iv 0, iv 0, .slice none 0 0, iv 0, .bool false] 44 (0, 0)) by rw [← hW, ← hrb]; exact lies_new2 _ _)
  have BW := Lib.hid (show Below w.heap.size w W by rw [← hW]; exact ((Below.refl _ _).alloc (Nat.le_refl _) _).alloc (by simp) _)
  have HW := Lib.hid hW
  have HRB := Lib.hid hrb
  have hud : ∀ b : Bool, (undef = Value.bool b) = False := fun b => by simp [undef]
  have i0 : decide ((i : Int) < 0) = false := by simp
  have i1 : 0 ≤ (i : Int) := by omega
  have i2 : (i : Int) ≤ (j : Int) := by omega
  have i3 : 0 ≤ (j : Int) := by omega
  have t1 : decide ((i : Int) < (at0 : Int)) = false := by simp; omega
  have t2 : ((i : Int) == (at0 : Int)) = false := by simp; omega
  clear hx hown hr hl hop hat HRV hW hB hi
  have SF := Lib.hid (show SliceAt w 49 4 (.slice (some ⟨g, 0, none⟩) i j) (seatsX (r.ss.take i)) by rw [← seatsX_take]; exact (show SliceAt w 49 4 (.slice (some ⟨g, 0, none⟩) j j) (seatsX r.ss) from HX.out).front i (by omega))
  have LF := Lib.hid (show (seatsX (r.ss.take i)).length = i * 4 by rw [seatsX_len, List.length_take, HL.out]; omega)
  have LB := Lib.hid (show (seatsX (r.ss.drop (i + 1))).length = (j - j) * 4 by rw [seatsX_len, List.length_drop, HL.out, HJ.out])
  have HWJ := Lib.hid (show IntKind.i64.wrap ((i : Int) + 1) = (j : Int) by rw [IntWalk.i64_in _ (by omega)]; omega)
  go_enter Try.func17, Try.ntmps17
  clear hj  hc
  go_wp2_with fail
  rw [show (w.alloc (.cells #[iv r.ba, iv r.pe, (.slice (some ⟨g, 0, none⟩) j j), iv at0, .bool op0] 44)).alloc (.cells #[iv 0, iv 0, .slice none 0 0, iv 0, .bool false] 44) = W from HW.out]
  try rw [HRB.out]
  obtain ⟨x0, x1, x2, x3, x4⟩ := cells5 HB.out
  clear hrb
  go_upto_region 4 with (first
    | (go_at_call 30; refine (HSE.out _ (HX.out.below BW.out)).mono ?_; rintro e w1 ⟨rfl, b1⟩; have B1 := Lib.hid b1; clear b1 x0 x1 x2 x3 x4; have HB1 := Lib.hid (lies_below HB.out B1.out (lt_heap HB.out)); obtain ⟨x0, x1, x2, x3, x4⟩ := cells5 HB1.out)
    | (go_at_call 29; refine (HVR.out _ ((HX.out.below BW.out).below B1.out)).mono ?_; rintro e w2 ⟨rfl, b2⟩; have B2 := Lib.hid (B1.out.trans (b2.mono B1.out.size)); clear b2 x0 x1 x2 x3 x4; have HB2 := Lib.hid (lies_below HB.out B2.out (lt_heap HB.out)); have HZ2 := Lib.hid (lies_below HZ.out B2.out (lt_heap HZ.out)); obtain ⟨x0, x1, x2, x3, x4⟩ := cells5 HB2.out))
  have BW2 := Lib.hid (show Below w.heap.size w (w2.drewN 1) from below_drewQ (BW.out.trans (B2.out.mono BW.out.size)) 1)
  have hlrz : rb + 1 < w2.heap.size := lt_heap HZ2.out
  have hws : w.heap.size ≤ w2.heap.size := BW2.out.size
  refine wp_region_D (S := fun w' => w'.cell? ⟨rb, 2, none⟩ = some (.slice (some ⟨g, 0, none⟩) j j)) (st := 13) (by kernel_rfl) ?_
  have hS0 : (fun w' : World => w'.cell? ⟨rb, 2, none⟩ = some (.slice (some ⟨g, 0, none⟩) j j)) _ := x2
  refine wpAnyT_pureD 1 (some 19) ?v61 rfl (by kernel_rfl) (by kernel_rfl) (by kernel_rfl) (by kernel_rfl) (fun _ _ _ h => h) hS0 (by kernel_rfl) rfl ?run61 ?rest61
  case run61 => intro w hS; have hS' : w.cell? ⟨rb, 2, none⟩ = some (.slice (some ⟨g, 0, none⟩) j j) := hS; go_simp; rfl
  refine wpAnyT_pureD 2 (some 20) ?v62 rfl (by kernel_rfl) (by kernel_rfl) (by kernel_rfl) (by kernel_rfl) (fun _ _ _ h => h) hS0 (by kernel_rfl) rfl ?run62 ?rest62
  case run62 => intro w hS; have hS' : w.cell? ⟨rb, 2, none⟩ = some (.slice (some ⟨g, 0, none⟩) j j) := hS; go_simp; rfl
  refine wpAnyT_pureD 3 (some 21) ?v63 rfl (by kernel_rfl) (by kernel_rfl) (by kernel_rfl) (by kernel_rfl) (fun _ _ _ h => h) hS0 (by kernel_rfl) rfl ?run63 ?rest63
  case run63 => intro w hS; have hS' : w.cell? ⟨rb, 2, none⟩ = some (.slice (some ⟨g, 0, none⟩) j j) := hS; go_simp; rfl
  refine wpAnyT_pureD 4 (some 22) ?v64 rfl (by kernel_rfl) (by kernel_rfl) (by kernel_rfl) (by kernel_rfl) (fun _ _ _ h => h) hS0 (by kernel_rfl) rfl ?run64 ?rest64
  case run64 => intro w hS; have hS' : w.cell? ⟨rb, 2, none⟩ = some (.slice (some ⟨g, 0, none⟩) j j) := hS; go_simp; rfl
  refine wpAnyT_pureD 6 (some 24) ?v65 rfl (by kernel_rfl) (by kernel_rfl) (by kernel_rfl) (by kernel_rfl) (fun _ _ _ h => h) hS0 (by kernel_rfl) rfl ?run65 ?rest65
  case run65 => intro w hS; have hS' : w.cell? ⟨rb, 2, none⟩ = some (.slice (some ⟨g, 0, none⟩) j j) := hS; go_simp; rfl
  refine wpAnyT_pureD 7 (some 25) ?v66 rfl (by kernel_rfl) (by kernel_rfl) (by kernel_rfl) (by kernel_rfl) (fun _ _ _ h => h) hS0 (by kernel_rfl) rfl ?run66 ?rest66
  case run66 => intro w hS; have hS' : w.cell? ⟨rb, 2, none⟩ = some (.slice (some ⟨g, 0, none⟩) j j) := hS; go_simp; rfl
  refine wpAnyT_pureD 8 (some 26) ?v67 rfl (by kernel_rfl) (by kernel_rfl) (by kernel_rfl) (by kernel_rfl) (fun _ _ _ h => h) hS0 (by kernel_rfl) rfl ?run67 ?rest67
  case run67 => intro w hS; have hS' : w.cell? ⟨rb, 2, none⟩ = some (.slice (some ⟨g, 0, none⟩) j j) := hS; go_simp; rfl
  refine wpAnyT_pureD 9 (some 27) ?v68 rfl (by kernel_rfl) (by kernel_rfl) (by kernel_rfl) (by kernel_rfl) (fun _ _ _ h => h) hS0 (by kernel_rfl) rfl ?run68 ?rest68
  case run68 => intro w hS; have hS' : w.cell? ⟨rb, 2, none⟩ = some (.slice (some ⟨g, 0, none⟩) j j) := hS; have hq := HWJ.out; go_simp; rfl
  refine wpAnyT_pureD 10 (some 28) ?v69 rfl (by kernel_rfl) (by kernel_rfl) (by kernel_rfl) (by kernel_rfl) (fun _ _ _ h => h) hS0 (by kernel_rfl) rfl ?run69 ?rest69
  case run69 => intro w hS; have hS' : w.cell? ⟨rb, 2, none⟩ = some (.slice (some ⟨g, 0, none⟩) j j) := hS; go_simp; rfl
  refine wpAnyT_value 0 (some 18) (.slice (some ⟨w2.heap.size, 0, none⟩) 0 0) ((w2.drewN 1).alloc (.cells #[] 49)) rfl (by kernel_rfl) (by kernel_rfl) ?rva rfl (fun _ => ?sa) ?_
  case rva => go_simp
  case sa => exact (World.cell?_of_block (Below.heap_alloc _ _ _ (by show rb < w2.heap.size; omega))).trans hS0
  have hS0 : (fun w' : World => w'.cell? ⟨rb, 2, none⟩ = some (.slice (some ⟨g, 0, none⟩) j j)) ((w2.drewN 1).alloc (.cells #[] 49)) := (World.cell?_of_block (Below.heap_alloc _ _ _ (by show rb < w2.heap.size; omega))).trans hS0
  refine wpAnyT_append 5 (some 23) rfl (by kernel_rfl) (by kernel_rfl) rfl _ _ 42 rfl w2.heap.size 49 _ 4 32 Try.underlying42 info_seat rfl (by decide) _ 0 [] (own_empty (w := w2.drewN 1) rfl) (by kernel_rfl) (.slice (some ⟨g, 0, none⟩) i j) i (seatsX (r.ss.take i)) (by kernel_rfl) (SliceAt.same SF.out (SameT.below (BW2.out.alloc BW2.out.size _))) LF.out (seatsX_oc _) (by unfold maxLen; omega) (by omega) (by simp) ?_
  intro g1 d1 v1 own1 gr1
  have B3 := Lib.hid (show Below w2.heap.size (w2.drewN 1) v1 from grown_below rfl gr1)
  have OW1 := Lib.hid own1
  have S3 : w2.heap.size ≤ v1.heap.size := B3.out.size
  clear own1 gr1
  have hS1 : (fun w' : World => w'.cell? ⟨rb, 2, none⟩ = some (.slice (some ⟨g, 0, none⟩) j j)) v1 := (World.cell?_of_block (B3.out.block rb (by omega))).trans ((World.cell?_of_block (Below.heap_alloc _ _ _ (by show rb < w2.heap.size; omega))).symm.trans hS0)
  clear hS0
  have hS0 : (fun w' : World => w'.cell? ⟨rb, 2, none⟩ = some (.slice (some ⟨g, 0, none⟩) j j)) v1 := hS1
  refine ⟨fun _ => hS0, ?_⟩
  refine wpAnyT_append 11 (some 29) rfl (by kernel_rfl) (by kernel_rfl) rfl _ _ 42 rfl w2.heap.size 49 _ 4 32 Try.underlying42 info_seat rfl (by decide) _ _ _ OW1.out (by kernel_rfl) (.slice (some ⟨g, 0, none⟩) 0 0) 0 [] (by kernel_rfl) (show SliceAt v1 49 4 (.slice (some ⟨g, 0, none⟩) 0 0) [] from ⟨0, 0, rfl, Nat.zero_le _, Nat.zero_le _, .inl ⟨⟨_, rfl⟩, rfl⟩⟩) rfl rfl (by unfold maxLen; omega) (by omega) S3 ?_
  intro g2 d2 v2 own2 gr2
  have B4 := Lib.hid (show Below w2.heap.size (w2.drewN 1) v2 from B3.out.trans (Below.of_grown gr2 OW1.out S3))
  have OW2 := Lib.hid own2
  have B4w := Lib.hid (show Below w2.heap.size w2 v2 from ⟨B4.out.os, B4.out.tape, B4.out.output, B4.out.size, B4.out.block⟩)
  have hS1 : (fun w' : World => w'.cell? ⟨rb, 2, none⟩ = some (.slice (some ⟨g, 0, none⟩) j j)) v2 := (World.cell?_of_block (B4.out.block rb (by omega))).trans ((World.cell?_of_block (B3.out.block rb (by omega))).symm.trans hS0)
  clear own2 gr2 hS0
  have hS0 : (fun w' : World => w'.cell? ⟨rb, 2, none⟩ = some (.slice (some ⟨g, 0, none⟩) j j)) v2 := hS1
  refine ⟨fun _ => hS0, ?_⟩
  refine wpAnyT_pureD 12 (some 30) ?v70 rfl (by kernel_rfl) (by kernel_rfl) (by kernel_rfl) (by kernel_rfl) (fun _ _ _ h => h) hS0 (by kernel_rfl) rfl ?run70 ?rest70
  case run70 => intro w hS; have hS' : w.cell? ⟨rb, 2, none⟩ = some (.slice (some ⟨g, 0, none⟩) j j) := hS; go_simp; rfl
  have fz := (lies_cells (lies_below HB2.out B4w.out (by omega))).2
  refine wpAnyT_step 13 none (v2.setCell ⟨rb, 2, none⟩ (.slice g2 (0 + i + 0) d2)) rfl (by kernel_rfl) (by kernel_rfl) ?rs rfl (fun h => absurd rfl h) ?_
  case rs => (have q2 : v2.cell? ⟨rb, 2, none⟩ = some (.slice (some ⟨g, 0, none⟩) j j) := hS0); (have q3 := fz 2); go_simp
  refine wpAnyT_done (by kernel_rfl) ?_ _
  generalize hA : Act.put _ _ _ = A0
  simp only [put_mk, put_no, List.setIfInBounds_toArray, List.set_cons_succ, List.set_cons_zero] at hA
  subst hA
  simp only [Nat.zero_add, Nat.add_zero]
  have OW3 := Lib.hid (show v2.ownsRow w2.heap.size 49 4 (Value.slice g2 (i) d2) i ([] ++ seatsX (r.ss.take i) ++ []) by have h := OW2.out; simp only [Nat.zero_add, Nat.add_zero] at h; exact h)
  obtain ⟨s3, hs3⟩ : ∃ s, (Value.slice g2 (i) d2) = s := ⟨_, rfl⟩
  rw [hs3]
  have HLEN := Lib.hid (show (remR r i).ss.length = i by rw [HREM.out]; have h1 := HL.out; have h2 := HJ.out; simp only [List.length_append, List.length_take, List.length_drop]; omega)
  have HXS := Lib.hid (show seatsX (remR r i).ss = [] ++ seatsX (r.ss.take i) ++ [] by rw [HREM.out]; simp only [List.append_nil, List.nil_append]; rw [List.drop_eq_nil_of_le (by have h1 := HL.out; have h2 := HJ.out; omega), List.append_nil])
  have OW4 := Lib.hid (show v2.ownsRow w2.heap.size 49 4 s3 (remR r i).ss.length (seatsX (remR r i).ss) by rw [HLEN.out, HXS.out, ← hs3]; exact OW3.out)
  have HB4 : v2.heap[rb]? = some (.cells #[iv r.ba, iv r.pe, (.slice (some ⟨g, 0, none⟩) j j), iv at0, .bool op0] 44 (0, 0)) := lies_below HB2.out B4w.out (by omega)
  have HZ4 : v2.heap[rb + 1]? = some (.cells #[iv 0, iv 0, .slice none 0 0, iv 0, .bool false] 44 (0, 0)) := lies_below HZ2.out B4w.out (by omega)
  have BV : Below w.heap.size w v2 := BW2.out.trans (B4.out.mono hws)
  have GD := Lib.hid (show Good w2.heap.size w rb (.cells #[iv 0, iv 0, .slice none 0 0, iv 0, .bool false] 44 (0, 0)) s3 (remR r i).ss (v2.setCell ⟨rb, 2, none⟩ s3) from (Good.mk HZ4 OW4.out BV).set HRB.out hlrz 2 s3)
  have HBV := Lib.hid (show (v2.setCell ⟨rb, 2, none⟩ s3).heap[rb]? = some (.cells #[iv r.ba, iv r.pe, s3, iv at0, .bool op0] 44 (0, 0)) from set_cells HB4)
  have HSV := Lib.hid (show s3 = (Value.slice g2 (i) d2) from hs3.symm)
  have HLZ := Lib.hid hlrz
  clear hs3 x0 x1 x2 x3 x4 hS0 HB4 HZ4 BV fz S3 hlrz
  obtain ⟨V, hV⟩ : ∃ V, v2.setCell ⟨rb, 2, none⟩ s3 = V := ⟨_, rfl⟩
  rw [hV] at GD HBV ⊢
  clear hV
  have HZV := Lib.hid GD.out.z
  obtain ⟨x0, x1, x2, x3, x4⟩ := cells5 HBV.out
  obtain ⟨z0, z1, z2, z3, z4⟩ := cells5 HZV.out
  have fx := (lies_cells HBV.out).2
  have fz := (lies_cells HZV.out).2
  have hrz : rb ≠ rb + 1 := Nat.ne_of_lt (Nat.lt_succ_self rb)
  have hrz2 : rb + 1 ≠ rb := Nat.succ_ne_self rb
  obtain rfl := HSV.out
  go_wp2
  show bodyPost _ _ _ _ _ (((((V.setCell ⟨rb + 1, 0, none⟩ (iv r.ba)).setCell ⟨rb + 1, 1, none⟩ (iv r.pe)).setCell ⟨rb + 1, 2, none⟩ (Value.slice g2 (i) d2)).setCell ⟨rb + 1, 3, none⟩ (iv (at0 : Nat))).setCell ⟨rb + 1, 4, none⟩ (.bool op0))
  obtain ⟨F, hF⟩ : ∃ F, ((((V.setCell ⟨rb + 1, 0, none⟩ (iv r.ba)).setCell ⟨rb + 1, 1, none⟩ (iv r.pe)).setCell ⟨rb + 1, 2, none⟩ (Value.slice g2 (i) d2)).setCell ⟨rb + 1, 3, none⟩ (iv (at0 : Nat))).setCell ⟨rb + 1, 4, none⟩ (.bool op0) = F := ⟨_, rfl⟩
  rw [hF]
  have HF := Lib.hid (Good.fin (B := B) (GD.out) HRB.out HLZ.out HBB.out hF.symm)
  obtain ⟨f0, f1, f2, f3, f4⟩ := cells5 HF.out.1
  refine bodyPost_ret (v := .tuple #[ringV (remR r i) (Value.slice g2 (i) d2), .bool true]) (by simp [results, Try.results17, go_sem, f0, f1, f2, f3, f4, ringV, HREM.out]) rfl ⟨_, rfl, HF.out.2.1, HF.out.2.2⟩
/-- The value of an owned row of seats. -/
theorem OwnS.val {B : Nat} {w : World} {v : Value} {l : List SV} (h : OwnS B w v l) : (v = .slice none 0 0 ∧ l = []) ∨ ∃ g c, v = .slice (some ⟨g, 0, none⟩) l.length c ∧ l.length ≤ c ∧ c ≤ maxLen := by
  obtain ⟨h1, h2⟩ := h
  rcases h2 with ⟨h2, h3⟩ | ⟨g, cap, cur, e1, e2, e3, e4, e5, e6, e7⟩
  · exact .inl ⟨h2, List.length_eq_zero_iff.1 h3⟩
  · exact .inr ⟨g, cap, e1, e4, e5⟩
theorem remove_any {B : Nat} (r : RV) (s : SV) (w : World) (v : Value) (i : Nat) (hB : B ≤ w.heap.size) (hown : OwnS B w v r.ss) (hr : RingOk r) (hi : r.ss[i]? = some s) :
    Calls Try.prog 17 #[ringV r v, iv s.id] w (RingQ B (remR r i) (.bool true) w) := by
  have hin := (List.getElem?_eq_some_iff.1 hi).1
  have hat := hr.at_
  rcases hown.val with ⟨-, h⟩ | ⟨g, c, rfl, hnc, hc⟩
  · rw [h] at hi; simp at hi
  rcases Nat.lt_trichotomy i r.at_ with h1 | h1 | h1
  · rcases Nat.lt_or_ge (i + 1) c with h2 | h2
    · exact rem_lt_mid r s w _ g c i _ _ hB rfl rfl rfl hown hr hi h1 (r.at_ - 1) (by omega) h2
    · obtain rfl : c = r.ss.length := by omega
      have hj : i + 1 = r.ss.length := by omega
      exact rem_lt_end r s w g i _ _ _ hB rfl rfl rfl hown hr hi h1 (r.at_ - 1) (by omega) hj
  · rcases Nat.lt_or_ge (r.at_ + 1) r.ss.length with h2 | h2
    · exact rem_eqm_mid r s w _ g c i _ _ hB rfl rfl rfl hown hr hi h1 h2 (by omega)
    · rcases Nat.lt_or_ge (i + 1) c with h3 | h3
      · exact rem_eql_mid r s w _ g c i _ _ hB rfl rfl rfl hown hr hi h1 h2 h3
      · obtain rfl : c = r.ss.length := by omega
        have hj : i + 1 = r.ss.length := by omega
        exact rem_eql_end r s w g i _ _ _ hB rfl rfl rfl hown hr hi h1 h2 hj
  · rcases Nat.lt_or_ge (i + 1) c with h2 | h2
    · exact rem_gt_mid r s w _ g c i _ _ hB rfl rfl rfl hown hr hi h1 h2
    · obtain rfl : c = r.ss.length := by omega
      have hj : i + 1 = r.ss.length := by omega
      exact rem_gt_end r s w g i _ _ _ hB rfl rfl rfl hown hr hi h1 hj
theorem posR_def (r : RV) : ((r.at_ ≠ 0 ∨ r.op = true) → posR r = r.at_) ∧ (r.at_ = 0 → r.op = false → posR r = r.ss.length) := ⟨fun h => if_pos h, fun h1 h2 => if_neg (by rintro (h | h); exact h h1; rw [h2] at h; cases h)⟩
theorem addseat_any {B : Nat} (r : RV) (id pri : Int) (w : World) (v : Value) (hB : B ≤ w.heap.size) (hown : OwnS B w v r.ss) (hr : RingOk r) (hid : ∀ s ∈ r.ss, s.id ≠ id) (hcn : cnB id = true) (hp1 : 0 ≤ pri) (hp2 : pri ≤ 3) (hn : r.ss.length < 16) :
    Calls Try.prog 16 #[ringV r v, iv id, iv pri] w (RingQ B (addR r id pri) (iv 0) w) := by
  have hat := hr.at_
  have hop := hr.op
  have hpos := posR_def r
  rcases hown.val with ⟨rfl, h⟩ | ⟨g, c, rfl, hnc, hc⟩
  · have ha : r.at_ = 0 := by rw [h] at hat; simp at hat; exact hat
    have ho : r.op = false := by cases e : r.op with | false => rfl | true => exact absurd (by rw [h]; rfl) (hop e)
    exact add_C_nil r id pri w 0 _ _ hB ho rfl rfl hown hr hid hcn hp1 hp2 hn (hpos.2 ha ho) ha
  by_cases ha : r.at_ = 0
  · cases ho : r.op with
    | true =>
      have h0 := hop ho
      have h1 := hpos.1 (.inr ho)
      exact add_B_mid r id pri w _ g c _ _ hB ho rfl rfl hown hr hid hcn hp1 hp2 hn h1 ha (by omega) (by omega) hnc hc
    | false =>
      have h1 := hpos.2 ha ho
      rcases Nat.lt_or_ge r.ss.length c with h2 | h2
      · exact add_C_mid r id pri w _ g c _ hB ho rfl rfl hown hr hid hcn hp1 hp2 hn h1 ha h2 hnc hc
      · obtain rfl : c = r.ss.length := by omega
        exact add_C_end r id pri w _ g _ hB ho rfl rfl hown hr hid hcn hp1 hp2 hn h1 ha hc
  · have h1 := hpos.1 (.inl ha)
    exact add_A_mid r id pri w _ g c _ _ _ hB rfl rfl rfl hown hr hid hcn hp1 hp2 hn h1 ha (by omega) (by omega) hnc hc
end Go.Proofs.Ytbgoogjhgeoapaa
