/- A part of the proof. -/
import Derived.Test.YtipnhmdibkkifaaGreatDoorNu14
import Derived.Test.YtipnhmdibkkifaaGreatDoorNu34
set_option linter.unusedVariables false
set_option linter.unusedSimpArgs false
set_option linter.unusedVariables false
set_option linter.unusedSimpArgs false
set_option linter.unusedSectionVars false
namespace Go.Proofs.YtipnhmdibkkifaaGreatDoor
open Go.RowKit
variable [Base]
theorem stC_set8 {w : World} {sb bm : Nat} {n : Int} (h : w.heap[sb]? = some (.cells (stC bm n) STT (0, 0))) (m : Int) : (w.setCell ⟨sb, 8, none⟩ (iv m)).heap[sb]? = some (.cells (stC bm m) STT (0, 0)) := by
  simp [World.setCell, Array.getElem?_modify, h]
theorem LdM.len {w : World} {b c : Nat} {L : Loads} (h : LdM w b c L) (ty : TypeId) : (Builtin.len_ #[MIL] ty #[.map (some b)]).run Tryz.prog w = .ok (iv L.length) w := by
  obtain ⟨D, h1, h2⟩ := h
  rw [h1.len und_mil ty, h2.size]
def LoadStQ (z sb bm c : Nat) (n : Int) (L : Loads) (id : Str) (w : World) (e : Ending) (w' : World) : Prop :=
  ((e = .returned (.tuple #[iv 0, iv 0, iv 0, iv 6]) ∧ StAt z w' sb bm c n L ∧ ∃ x ∈ L, x.2 = id) ∨ (e = .returned (.tuple #[iv n, iv 0, iv 0, iv 0]) ∧ StAt z w' sb bm (c + 1) (n + 1) (L ++ [(n, id)]) ∧ ∀ x ∈ L, x.2 ≠ id)) ∧ Below z w w'
def LoadEQ (z sb bm c : Nat) (n : Int) (L : Loads) (w : World) (e : Ending) (w' : World) : Prop := e = .returned (.tuple #[iv 0, iv 0, iv 0, iv 4]) ∧ StAt z w' sb bm c n L ∧ Below z w w'
abbrev ldTxt : ByteArray := ⟨#[102, 117, 110, 99, 32, 109, 59, 32, 98, 108, 111, 99, 107, 32, 98, 59, 32, 114, 101, 116, 117, 114, 110, 59, 32, 101, 110, 100]⟩
theorem stP_scan2 : scanned ldTxt.data.toList = ⟨(scanned ldTxt.data.toList).toks, 0, 0, 0⟩ := by kernel_rfl
theorem stP_parse2 : parsed ldTxt.data.toList = ⟨stP, 0, 0, 0⟩ := by kernel_rfl
theorem stE_scan2 : scanned (⟨#[]⟩ : ByteArray).data.toList = ⟨(scanned (⟨#[]⟩ : ByteArray).data.toList).toks, 0, 0, 0⟩ := by kernel_rfl
theorem stE_parse2 : parsed (⟨#[]⟩ : ByteArray).data.toList = ⟨[], 0, 0, 4⟩ := by kernel_rfl
theorem str_list (id : Str) : (ByteArray.mk id.toArray).data.toList = id := by simp
set_option maxRecDepth 100000 in
set_option maxHeartbeats 16000000 in
theorem stloade_any {B z sb bm c : Nat} {n : Int} {L : Loads} {w : World} (kw : KwIn B w) (hBz : B ≤ z) (h : StAt z w sb bm c n L) (hn : 0 ≤ n ∧ n ≤ 1000000) (hc : c ≤ 1000) (id : Str) (hid : nameB id = true) (hL : L = []) :
    Calls Tryz.prog 7 #[.pointer (some ⟨sb, 0, none⟩), sv id, .string ⟨#[]⟩] w (LoadEQ z sb bm c n L w) := by
  have H := Lib.hid h
  have hzw := h.zw
  have HKW := Lib.hid (show ∀ x, Below z w x → KwIn B x from fun x b => kw.keep fun k hk => b.block k (by omega))
  have KF := Lib.hid (sfind_any h.blk h.map id)
  have KN := Lib.hid (fun (x : World) (b : Below z w x) => isname_any ⟨id.toArray⟩ x ((HKW.out x b).at_ (Below.refl _ _)))
  rw [str_list, hid] at KN
  have HL := Lib.hid hL
  obtain ⟨x0, x1, x2, x3, x4, x5, x6, x7, x8⟩ := stC_cells h.blk
  clear h kw hL hid x0 x1 x2 x3 x4 x5 x6 x7 x8
  go_enter Tryz.func7, Tryz.ntmps7
  go_wp2_with fail
  refine KF.out.mono ?_
  rintro e w1 ⟨h | h, b1⟩
  · obtain ⟨k, rfl, hk⟩ := h
    rw [HL.out] at hk
    cases hk
  · obtain ⟨rfl, hno⟩ := h
    have H1 := Lib.hid (H.out.below b1)
    have B1 := Lib.hid (b1.mono hzw)
    have HNO := Lib.hid hno
    clear b1
    go_wp2_with fail
    refine (KN.out w1 B1.out).mono ?_
    rintro e w2 ⟨rfl, k2, hw2⟩
    have B2 := Lib.hid (show Below z w w2 by rw [hw2]; exact below_drewQ B1.out k2)
    have H2 := Lib.hid (show StAt z w2 sb bm c n L by rw [hw2]; exact H1.out.below (below_drewQ (Below.refl _ _) k2))
    obtain ⟨sz, hsz⟩ : ∃ s, (L.length : Int) = s := ⟨_, rfl⟩
    have hs2 : sz < 2 := by rw [HL.out] at hsz; simp at hsz; omega
    have hlen : (Builtin.len_ #[MIL] TI #[.map (some bm)]).run Tryz.prog (w2.drewN 1) = .ok (iv sz) (w2.drewN 1) := by rw [← hsz]; exact (H2.out.below (below_drewQ (Below.refl _ _) 1)).map.len TI
    have t1 : decide (sz ≥ 2) = false := by simp; omega
    have t2 : ((n : Int) == 1073741824) = false := by simp; omega
    obtain ⟨x0, x1, x2, x3, x4, x5, x6, x7, x8⟩ := stC_cells H2.out.blk
    clear hw2 hsz hs2 hno x1 x2 x3 x4 x5 x6
    go_upto_region 6 with (fail)
    refine wp_region_D (S := fun w' => w'.cell? ⟨sb, 7, none⟩ = some (.map (some bm)) ∧ w'.cell? ⟨sb, 0, none⟩ = some (iv 2) ∧ w'.cell? ⟨sb, 8, none⟩ = some (iv n) ∧ (Builtin.len_ #[MIL] TI #[.map (some bm)]).run Tryz.prog w' = .ok (iv sz) w') (st := 19) (by kernel_rfl) ?_
    have hS0 : (fun w' : World => w'.cell? ⟨sb, 7, none⟩ = some (.map (some bm)) ∧ w'.cell? ⟨sb, 0, none⟩ = some (iv 2) ∧ w'.cell? ⟨sb, 8, none⟩ = some (iv n) ∧ (Builtin.len_ #[MIL] TI #[.map (some bm)]).run Tryz.prog w' = .ok (iv sz) w') (w2.drewN 1) := ⟨x7, x0, x8, hlen⟩
    refine wpAnyT_pureN 0 (some 31) ?v1 rfl (by kernel_rfl) (by kernel_rfl) (by kernel_rfl) rfl (fun _ _ _ h => h) hS0 (by kernel_rfl) rfl ?run1 ?rest1
    case run1 => intro w hS; obtain ⟨s0, s1, s2, s3⟩ := hS; go_simp; rfl
    refine wpAnyT_pureN 1 (some 32) ?v2 rfl (by kernel_rfl) (by kernel_rfl) (by kernel_rfl) rfl (fun _ _ _ h => h) hS0 (by kernel_rfl) rfl ?run2 ?rest2
    case run2 => intro w hS; obtain ⟨s0, s1, s2, s3⟩ := hS; go_simp; rfl
    refine wpAnyT_pureN 2 (some 33) ?v3 rfl (by kernel_rfl) (by kernel_rfl) (by kernel_rfl) rfl (fun _ _ _ h => h) hS0 (by kernel_rfl) rfl ?run3 ?rest3
    case run3 => intro w hS; obtain ⟨s0, s1, s2, s3⟩ := hS; go_simp; rfl
    refine wpAnyT_pureN 3 (some 34) ?v4 rfl (by kernel_rfl) (by kernel_rfl) (by kernel_rfl) rfl (fun _ _ _ h => h) hS0 (by kernel_rfl) rfl ?run4 ?rest4
    case run4 => intro w hS; obtain ⟨s0, s1, s2, s3⟩ := hS; go_simp; rfl
    refine wpAnyT_pureN 4 (some 35) ?v5 rfl (by kernel_rfl) (by kernel_rfl) (by kernel_rfl) rfl (fun _ _ _ h => h) hS0 (by kernel_rfl) rfl ?run5 ?rest5
    case run5 => intro w hS; obtain ⟨s0, s1, s2, s3⟩ := hS; go_simp; rfl
    refine wpAnyT_pureN 5 (some 36) ?v6 rfl (by kernel_rfl) (by kernel_rfl) (by kernel_rfl) rfl (fun _ _ _ h => h) hS0 (by kernel_rfl) rfl ?run6 ?rest6
    case run6 => intro w hS; obtain ⟨s0, s1, s2, s3⟩ := hS; go_simp; rfl
    refine wpAnyT_pureN 6 (some 37) ?v7 rfl (by kernel_rfl) (by kernel_rfl) (by kernel_rfl) rfl (fun _ _ _ h => h) hS0 (by kernel_rfl) rfl ?run7 ?rest7
    case run7 => intro w hS; obtain ⟨s0, s1, s2, s3⟩ := hS; go_simp; rfl
    refine wpAnyT_pureN 7 (some 38) ?v8 rfl (by kernel_rfl) (by kernel_rfl) (by kernel_rfl) rfl (fun _ _ _ h => h) hS0 (by kernel_rfl) rfl ?run8 ?rest8
    case run8 => intro w hS; obtain ⟨s0, s1, s2, s3⟩ := hS; go_simp; rfl
    refine wpAnyT_pureN 8 (some 39) ?v9 rfl (by kernel_rfl) (by kernel_rfl) (by kernel_rfl) rfl (fun _ _ _ h => h) hS0 (by kernel_rfl) rfl ?run9 ?rest9
    case run9 => intro w hS; obtain ⟨s0, s1, s2, s3⟩ := hS; go_simp; rfl
    refine wpAnyT_pureN 9 (some 40) ?v10 rfl (by kernel_rfl) (by kernel_rfl) (by kernel_rfl) rfl (fun _ _ _ h => h) hS0 (by kernel_rfl) rfl ?run10 ?rest10
    case run10 => intro w hS; obtain ⟨s0, s1, s2, s3⟩ := hS; go_simp; rfl
    refine wpAnyT_pureN 10 (some 41) ?v11 rfl (by kernel_rfl) (by kernel_rfl) (by kernel_rfl) rfl (fun _ _ _ h => h) hS0 (by kernel_rfl) rfl ?run11 ?rest11
    case run11 => intro w hS; obtain ⟨s0, s1, s2, s3⟩ := hS; go_simp; rfl
    refine wpAnyT_pureN 11 (some 42) ?v12 rfl (by kernel_rfl) (by kernel_rfl) (by kernel_rfl) rfl (fun _ _ _ h => h) hS0 (by kernel_rfl) rfl ?run12 ?rest12
    case run12 => intro w hS; obtain ⟨s0, s1, s2, s3⟩ := hS; go_simp; rfl
    refine wpAnyT_pureN 12 (some 43) ?v13 rfl (by kernel_rfl) (by kernel_rfl) (by kernel_rfl) rfl (fun _ _ _ h => h) hS0 (by kernel_rfl) rfl ?run13 ?rest13
    case run13 => intro w hS; obtain ⟨s0, s1, s2, s3⟩ := hS; go_simp; rfl
    refine wpAnyT_pureN 13 (some 44) ?v14 rfl (by kernel_rfl) (by kernel_rfl) (by kernel_rfl) rfl (fun _ _ _ h => h) hS0 (by kernel_rfl) rfl ?run14 ?rest14
    case run14 => intro w hS; obtain ⟨s0, s1, s2, s3⟩ := hS; go_simp; rfl
    refine wpAnyT_pureN 14 (some 45) ?v15 rfl (by kernel_rfl) (by kernel_rfl) (by kernel_rfl) rfl (fun _ _ _ h => h) hS0 (by kernel_rfl) rfl ?run15 ?rest15
    case run15 => intro w hS; obtain ⟨s0, s1, s2, s3⟩ := hS; go_simp; rfl
    refine wpAnyT_pureN 15 (some 46) ?v16 rfl (by kernel_rfl) (by kernel_rfl) (by kernel_rfl) rfl (fun _ _ _ h => h) hS0 (by kernel_rfl) rfl ?run16 ?rest16
    case run16 => intro w hS; obtain ⟨s0, s1, s2, s3⟩ := hS; go_simp; rfl
    refine wpAnyT_pureN 16 (some 47) ?v17 rfl (by kernel_rfl) (by kernel_rfl) (by kernel_rfl) rfl (fun _ _ _ h => h) hS0 (by kernel_rfl) rfl ?run17 ?rest17
    case run17 => intro w hS; obtain ⟨s0, s1, s2, s3⟩ := hS; go_simp; rfl
    refine wpAnyT_pureN 17 (some 48) ?v18 rfl (by kernel_rfl) (by kernel_rfl) (by kernel_rfl) rfl (fun _ _ _ h => h) hS0 (by kernel_rfl) rfl ?run18 ?rest18
    case run18 => intro w hS; obtain ⟨s0, s1, s2, s3⟩ := hS; go_simp; rfl
    refine wpAnyT_pureN 18 (some 30) ?v19 rfl (by kernel_rfl) (by kernel_rfl) (by kernel_rfl) rfl (fun _ _ _ h => h) hS0 (by kernel_rfl) rfl ?run19 ?rest19
    case run19 => intro w hS; obtain ⟨s0, s1, s2, s3⟩ := hS; go_simp; rfl
    refine wpAnyT_done (by kernel_rfl) ?_ _
    generalize hA : Act.put _ _ _ = A0
    simp only [put_mk, put_no, List.setIfInBounds_toArray, List.set_cons_succ, List.set_cons_zero] at hA
    subst hA
    clear hS0 x0 x7 x8 t1 t2 hlen
    have KP := Lib.hid (parse_good (HKW.out w2 B2.out) (by have := B2.out.size; omega) ⟨#[]⟩ stE_scan2)
    rw [stE_parse2] at KP
    obtain ⟨W, hW⟩ : ∃ W, w2.drewN 1 = W := ⟨_, rfl⟩
    have BW := Lib.hid (show Below z w W by rw [← hW]; exact below_drewQ B2.out 1)
    have HW := Lib.hid (show StAt z W sb bm c n L by rw [← hW]; exact H2.out.below (below_drewQ (Below.refl _ _) 1))
    have KP := Lib.hid (parse_good (HKW.out W BW.out) (by have := BW.out.size; omega) ⟨#[]⟩ stE_scan2)
    rw [stE_parse2] at KP
    rw [hW]
    clear hW
    go_wp2_with fail
    refine KP.out.mono ?_
    rintro e w3 ⟨v, rfl, hv, b3⟩
    have B3 := Lib.hid (BW.out.trans (b3.mono (by have := BW.out.size; omega)))
    have H3 := Lib.hid (HW.out.below b3)
    obtain ⟨a, ca, rfl, -, -⟩ := hv.cell
    rw [show (Parsed.mk [] 0 0 4).funcs.length = 0 from rfl]
    clear hv b3
    obtain ⟨V, hV⟩ : ∃ V, w3.alloc (.cells #[.slice a 0 ca] 48) = V := ⟨_, rfl⟩
    have BV := Lib.hid (show Below w3.heap.size w3 V by rw [← hV]; exact (Below.refl _ _).alloc (Nat.le_refl _) _)
    have B3V := Lib.hid (B3.out.trans (BV.out.mono (by have := B3.out.size; omega)))
    have H3V := Lib.hid (H3.out.below BV.out)
    have HVV := Lib.hid hV
    clear hV
    go_upto_region 9 with (fail)
    rw [show w3.alloc (.cells #[.slice a 0 ca] 48) = V from HVV.out]
    go_wp2
    exact bodyPost_ret (v := .tuple #[iv 0, iv 0, iv 0, iv 4]) (by simp [results, Tryz.results7, go_sem]) rfl ⟨rfl, H3V.out, B3V.out⟩
set_option maxRecDepth 100000 in
set_option maxHeartbeats 16000000 in
theorem stload_any {B z sb bm c : Nat} {n : Int} {L : Loads} {w : World} (kw : KwIn B w) (hBz : B ≤ z) (h : StAt z w sb bm c n L) (hn : 0 ≤ n ∧ n ≤ 1000000) (hc : c ≤ 1000) (id : Str) (hid : nameB id = true) (hL : (∀ x ∈ L, x.2 ≠ id) → L.length < 2) :
    Calls Tryz.prog 7 #[.pointer (some ⟨sb, 0, none⟩), sv id, .string ldTxt] w (LoadStQ z sb bm c n L id w) := by
  have H := Lib.hid h
  have hzw := h.zw
  have HKW := Lib.hid (show ∀ x, Below z w x → KwIn B x from fun x b => kw.keep fun k hk => b.block k (by omega))
  have KF := Lib.hid (sfind_any h.blk h.map id)
  have KN := Lib.hid (fun (x : World) (b : Below z w x) => isname_any ⟨id.toArray⟩ x ((HKW.out x b).at_ (Below.refl _ _)))
  rw [str_list, hid] at KN
  have HL := Lib.hid hL
  obtain ⟨x0, x1, x2, x3, x4, x5, x6, x7, x8⟩ := stC_cells h.blk
  clear h kw hL hid x0 x1 x2 x3 x4 x5 x6 x7 x8
  go_enter Tryz.func7, Tryz.ntmps7
  go_wp2_with fail
  refine KF.out.mono ?_
  rintro e w1 ⟨h | h, b1⟩
  · obtain ⟨k, rfl, hk⟩ := h
    have H1 := Lib.hid (H.out.below b1)
    have B1 := Lib.hid (b1.mono hzw)
    have HK := Lib.hid hk
    clear b1 hk
    go_wp2_with fail
    refine (KN.out w1 B1.out).mono ?_
    rintro e w2 ⟨rfl, k2, hw2⟩
    have B2 := Lib.hid (show Below z w w2 by rw [hw2]; exact below_drewQ B1.out k2)
    have H2 := Lib.hid (show StAt z w2 sb bm c n L by rw [hw2]; exact H1.out.below (below_drewQ (Below.refl _ _) k2))
    clear hw2
    go_wp2
    exact bodyPost_ret (v := .tuple #[iv 0, iv 0, iv 0, iv 6]) (by simp [results, Tryz.results7, go_sem]) rfl ⟨.inl ⟨rfl, H2.out, (k, id), HK.out, rfl⟩, B2.out⟩
  · obtain ⟨rfl, hno⟩ := h
    have H1 := Lib.hid (H.out.below b1)
    have B1 := Lib.hid (b1.mono hzw)
    have HNO := Lib.hid hno
    clear b1
    go_wp2_with fail
    refine (KN.out w1 B1.out).mono ?_
    rintro e w2 ⟨rfl, k2, hw2⟩
    have B2 := Lib.hid (show Below z w w2 by rw [hw2]; exact below_drewQ B1.out k2)
    have H2 := Lib.hid (show StAt z w2 sb bm c n L by rw [hw2]; exact H1.out.below (below_drewQ (Below.refl _ _) k2))
    obtain ⟨sz, hsz⟩ : ∃ s, (L.length : Int) = s := ⟨_, rfl⟩
    have hs2 : sz < 2 := by have h1 := HL.out hno; omega
    have hlen : (Builtin.len_ #[MIL] TI #[.map (some bm)]).run Tryz.prog (w2.drewN 1) = .ok (iv sz) (w2.drewN 1) := by rw [← hsz]; exact (H2.out.below (below_drewQ (Below.refl _ _) 1)).map.len TI
    have t1 : decide (sz ≥ 2) = false := by simp; omega
    have t2 : ((n : Int) == 1073741824) = false := by simp; omega
    obtain ⟨x0, x1, x2, x3, x4, x5, x6, x7, x8⟩ := stC_cells H2.out.blk
    clear hw2 hsz hs2 hno x1 x2 x3 x4 x5 x6
    go_upto_region 6 with (fail)
    refine wp_region_D (S := fun w' => w'.cell? ⟨sb, 7, none⟩ = some (.map (some bm)) ∧ w'.cell? ⟨sb, 0, none⟩ = some (iv 2) ∧ w'.cell? ⟨sb, 8, none⟩ = some (iv n) ∧ (Builtin.len_ #[MIL] TI #[.map (some bm)]).run Tryz.prog w' = .ok (iv sz) w') (st := 19) (by kernel_rfl) ?_
    have hS0 : (fun w' : World => w'.cell? ⟨sb, 7, none⟩ = some (.map (some bm)) ∧ w'.cell? ⟨sb, 0, none⟩ = some (iv 2) ∧ w'.cell? ⟨sb, 8, none⟩ = some (iv n) ∧ (Builtin.len_ #[MIL] TI #[.map (some bm)]).run Tryz.prog w' = .ok (iv sz) w') (w2.drewN 1) := ⟨x7, x0, x8, hlen⟩
    refine wpAnyT_pureN 0 (some 31) ?v1 rfl (by kernel_rfl) (by kernel_rfl) (by kernel_rfl) rfl (fun _ _ _ h => h) hS0 (by kernel_rfl) rfl ?run1 ?rest1
    case run1 => intro w hS; obtain ⟨s0, s1, s2, s3⟩ := hS; go_simp; rfl
    refine wpAnyT_pureN 1 (some 32) ?v2 rfl (by kernel_rfl) (by kernel_rfl) (by kernel_rfl) rfl (fun _ _ _ h => h) hS0 (by kernel_rfl) rfl ?run2 ?rest2
    case run2 => intro w hS; obtain ⟨s0, s1, s2, s3⟩ := hS; go_simp; rfl
    refine wpAnyT_pureN 2 (some 33) ?v3 rfl (by kernel_rfl) (by kernel_rfl) (by kernel_rfl) rfl (fun _ _ _ h => h) hS0 (by kernel_rfl) rfl ?run3 ?rest3
    case run3 => intro w hS; obtain ⟨s0, s1, s2, s3⟩ := hS; go_simp; rfl
    refine wpAnyT_pureN 3 (some 34) ?v4 rfl (by kernel_rfl) (by kernel_rfl) (by kernel_rfl) rfl (fun _ _ _ h => h) hS0 (by kernel_rfl) rfl ?run4 ?rest4
    case run4 => intro w hS; obtain ⟨s0, s1, s2, s3⟩ := hS; go_simp; rfl
    refine wpAnyT_pureN 4 (some 35) ?v5 rfl (by kernel_rfl) (by kernel_rfl) (by kernel_rfl) rfl (fun _ _ _ h => h) hS0 (by kernel_rfl) rfl ?run5 ?rest5
    case run5 => intro w hS; obtain ⟨s0, s1, s2, s3⟩ := hS; go_simp; rfl
    refine wpAnyT_pureN 5 (some 36) ?v6 rfl (by kernel_rfl) (by kernel_rfl) (by kernel_rfl) rfl (fun _ _ _ h => h) hS0 (by kernel_rfl) rfl ?run6 ?rest6
    case run6 => intro w hS; obtain ⟨s0, s1, s2, s3⟩ := hS; go_simp; rfl
    refine wpAnyT_pureN 6 (some 37) ?v7 rfl (by kernel_rfl) (by kernel_rfl) (by kernel_rfl) rfl (fun _ _ _ h => h) hS0 (by kernel_rfl) rfl ?run7 ?rest7
    case run7 => intro w hS; obtain ⟨s0, s1, s2, s3⟩ := hS; go_simp; rfl
    refine wpAnyT_pureN 7 (some 38) ?v8 rfl (by kernel_rfl) (by kernel_rfl) (by kernel_rfl) rfl (fun _ _ _ h => h) hS0 (by kernel_rfl) rfl ?run8 ?rest8
    case run8 => intro w hS; obtain ⟨s0, s1, s2, s3⟩ := hS; go_simp; rfl
    refine wpAnyT_pureN 8 (some 39) ?v9 rfl (by kernel_rfl) (by kernel_rfl) (by kernel_rfl) rfl (fun _ _ _ h => h) hS0 (by kernel_rfl) rfl ?run9 ?rest9
    case run9 => intro w hS; obtain ⟨s0, s1, s2, s3⟩ := hS; go_simp; rfl
    refine wpAnyT_pureN 9 (some 40) ?v10 rfl (by kernel_rfl) (by kernel_rfl) (by kernel_rfl) rfl (fun _ _ _ h => h) hS0 (by kernel_rfl) rfl ?run10 ?rest10
    case run10 => intro w hS; obtain ⟨s0, s1, s2, s3⟩ := hS; go_simp; rfl
    refine wpAnyT_pureN 10 (some 41) ?v11 rfl (by kernel_rfl) (by kernel_rfl) (by kernel_rfl) rfl (fun _ _ _ h => h) hS0 (by kernel_rfl) rfl ?run11 ?rest11
    case run11 => intro w hS; obtain ⟨s0, s1, s2, s3⟩ := hS; go_simp; rfl
    refine wpAnyT_pureN 11 (some 42) ?v12 rfl (by kernel_rfl) (by kernel_rfl) (by kernel_rfl) rfl (fun _ _ _ h => h) hS0 (by kernel_rfl) rfl ?run12 ?rest12
    case run12 => intro w hS; obtain ⟨s0, s1, s2, s3⟩ := hS; go_simp; rfl
    refine wpAnyT_pureN 12 (some 43) ?v13 rfl (by kernel_rfl) (by kernel_rfl) (by kernel_rfl) rfl (fun _ _ _ h => h) hS0 (by kernel_rfl) rfl ?run13 ?rest13
    case run13 => intro w hS; obtain ⟨s0, s1, s2, s3⟩ := hS; go_simp; rfl
    refine wpAnyT_pureN 13 (some 44) ?v14 rfl (by kernel_rfl) (by kernel_rfl) (by kernel_rfl) rfl (fun _ _ _ h => h) hS0 (by kernel_rfl) rfl ?run14 ?rest14
    case run14 => intro w hS; obtain ⟨s0, s1, s2, s3⟩ := hS; go_simp; rfl
    refine wpAnyT_pureN 14 (some 45) ?v15 rfl (by kernel_rfl) (by kernel_rfl) (by kernel_rfl) rfl (fun _ _ _ h => h) hS0 (by kernel_rfl) rfl ?run15 ?rest15
    case run15 => intro w hS; obtain ⟨s0, s1, s2, s3⟩ := hS; go_simp; rfl
    refine wpAnyT_pureN 15 (some 46) ?v16 rfl (by kernel_rfl) (by kernel_rfl) (by kernel_rfl) rfl (fun _ _ _ h => h) hS0 (by kernel_rfl) rfl ?run16 ?rest16
    case run16 => intro w hS; obtain ⟨s0, s1, s2, s3⟩ := hS; go_simp; rfl
    refine wpAnyT_pureN 16 (some 47) ?v17 rfl (by kernel_rfl) (by kernel_rfl) (by kernel_rfl) rfl (fun _ _ _ h => h) hS0 (by kernel_rfl) rfl ?run17 ?rest17
    case run17 => intro w hS; obtain ⟨s0, s1, s2, s3⟩ := hS; go_simp; rfl
    refine wpAnyT_pureN 17 (some 48) ?v18 rfl (by kernel_rfl) (by kernel_rfl) (by kernel_rfl) rfl (fun _ _ _ h => h) hS0 (by kernel_rfl) rfl ?run18 ?rest18
    case run18 => intro w hS; obtain ⟨s0, s1, s2, s3⟩ := hS; go_simp; rfl
    refine wpAnyT_pureN 18 (some 30) ?v19 rfl (by kernel_rfl) (by kernel_rfl) (by kernel_rfl) rfl (fun _ _ _ h => h) hS0 (by kernel_rfl) rfl ?run19 ?rest19
    case run19 => intro w hS; obtain ⟨s0, s1, s2, s3⟩ := hS; go_simp; rfl
    refine wpAnyT_done (by kernel_rfl) ?_ _
    generalize hA : Act.put _ _ _ = A0
    simp only [put_mk, put_no, List.setIfInBounds_toArray, List.set_cons_succ, List.set_cons_zero] at hA
    subst hA
    clear hS0 x0 x7 x8 t1 t2 hlen
    obtain ⟨W, hW⟩ : ∃ W, w2.drewN 1 = W := ⟨_, rfl⟩
    have BW := Lib.hid (show Below z w W by rw [← hW]; exact below_drewQ B2.out 1)
    have HW := Lib.hid (show StAt z W sb bm c n L by rw [← hW]; exact H2.out.below (below_drewQ (Below.refl _ _) 1))
    have KP := Lib.hid (parse_good (HKW.out W BW.out) (by have := BW.out.size; omega) ldTxt stP_scan2)
    rw [stP_parse2] at KP
    rw [hW]
    clear hW
    go_wp2_with fail
    refine KP.out.mono ?_
    rintro e w3 ⟨v, rfl, hv, b3⟩
    have B3 := Lib.hid (BW.out.trans (b3.mono (by have := BW.out.size; omega)))
    have H3 := Lib.hid (HW.out.below b3)
    obtain ⟨a, ca, rfl, -, -⟩ := hv.cell
    rw [show (Parsed.mk stP 0 0 0).funcs.length = 1 from rfl] at hv ⊢
    have HFV := Lib.hid hv
    clear hv b3
    obtain ⟨V, hV⟩ : ∃ V, w3.alloc (.cells #[.slice a 1 ca] 48) = V := ⟨_, rfl⟩
    obtain ⟨pb, hpb⟩ : ∃ b, w3.heap.size = b := ⟨_, rfl⟩
    have BV := Lib.hid (show Below w3.heap.size w3 V by rw [← hV]; exact (Below.refl _ _).alloc (Nat.le_refl _) _)
    have B3V := Lib.hid (B3.out.trans (BV.out.mono (by have := B3.out.size; omega)))
    have H3V := Lib.hid (H3.out.below BV.out)
    have HPB := Lib.hid (show V.heap[pb]? = some (.cells #[.slice a 1 ca] 48 (0, 0)) by rw [← hV, ← hpb]; exact heap_alloc_new _ _)
    have HFVV := Lib.hid (funcs_belowC HFV.out BV.out)
    have HVV := Lib.hid hV
    clear hV
    have HSS := Lib.hid (show ∀ w', Below V.heap.size V w' → (w'.cell? ⟨sb, 0, none⟩ = some (iv 2) ∧ w'.cell? ⟨sb, 1, none⟩ = some (iv 3) ∧ w'.cell? ⟨sb, 2, none⟩ = some (iv 4) ∧ w'.cell? ⟨sb, 3, none⟩ = some (iv 20) ∧ w'.cell? ⟨sb, 4, none⟩ = some (iv 30) ∧ w'.cell? ⟨sb, 5, none⟩ = some (iv 3) ∧ w'.cell? ⟨sb, 6, none⟩ = some (iv 2) ∧ w'.cell? ⟨pb, 0, none⟩ = some (.slice a 1 ca)) from fun w' h => by
      obtain ⟨x0, x1, x2, x3, x4, x5, x6, x7, x8⟩ := stC_cells (H3V.out.below h).blk
      exact ⟨x0, x1, x2, x3, x4, x5, x6, cells1C (lies_below HPB.out h (lt_heap HPB.out))⟩)
    have KC := Lib.hid (fun (x : World) (b : Below V.heap.size V x) => scheck_any (HKW.out x (B3V.out.trans (b.mono (by have := B3V.out.size; omega)))) (by have := B3V.out.size; have := b.size; omega) (.slice a 1 ca) (funcs_belowC HFVV.out b))
    go_upto_region 11 with (fail)
    rw [show w3.alloc (.cells #[.slice a 1 ca] 48) = V from HVV.out]
    try rw [hpb]
    refine wp_region_D (S := fun w' => w'.cell? ⟨sb, 0, none⟩ = some (iv 2) ∧ w'.cell? ⟨sb, 1, none⟩ = some (iv 3) ∧ w'.cell? ⟨sb, 2, none⟩ = some (iv 4) ∧ w'.cell? ⟨sb, 3, none⟩ = some (iv 20) ∧ w'.cell? ⟨sb, 4, none⟩ = some (iv 30) ∧ w'.cell? ⟨sb, 5, none⟩ = some (iv 3) ∧ w'.cell? ⟨sb, 6, none⟩ = some (iv 2) ∧ w'.cell? ⟨pb, 0, none⟩ = some (.slice a 1 ca)) (st := 7) (by kernel_rfl) ?_
    have hS0 : (fun w' : World => w'.cell? ⟨sb, 0, none⟩ = some (iv 2) ∧ w'.cell? ⟨sb, 1, none⟩ = some (iv 3) ∧ w'.cell? ⟨sb, 2, none⟩ = some (iv 4) ∧ w'.cell? ⟨sb, 3, none⟩ = some (iv 20) ∧ w'.cell? ⟨sb, 4, none⟩ = some (iv 30) ∧ w'.cell? ⟨sb, 5, none⟩ = some (iv 3) ∧ w'.cell? ⟨sb, 6, none⟩ = some (iv 2) ∧ w'.cell? ⟨pb, 0, none⟩ = some (.slice a 1 ca)) (V.drewN 1) := (HSS.out (V.drewN 1) (below_drewQ (Below.refl _ _) 1))
    refine wpAnyT_pureN 0 (some 61) ?v20 rfl (by kernel_rfl) (by kernel_rfl) (by kernel_rfl) rfl (fun _ _ _ h => h) hS0 (by kernel_rfl) rfl ?run20 ?rest20
    case run20 => intro w hS; obtain ⟨s0, s1, s2, s3, s4, s5, s6, s7⟩ := hS; go_simp; rfl
    refine wpAnyT_pureN 1 (some 62) ?v21 rfl (by kernel_rfl) (by kernel_rfl) (by kernel_rfl) rfl (fun _ _ _ h => h) hS0 (by kernel_rfl) rfl ?run21 ?rest21
    case run21 => intro w hS; obtain ⟨s0, s1, s2, s3, s4, s5, s6, s7⟩ := hS; go_simp; rfl
    refine wpAnyT_pureN 2 (some 63) ?v22 rfl (by kernel_rfl) (by kernel_rfl) (by kernel_rfl) rfl (fun _ _ _ h => h) hS0 (by kernel_rfl) rfl ?run22 ?rest22
    case run22 => intro w hS; obtain ⟨s0, s1, s2, s3, s4, s5, s6, s7⟩ := hS; go_simp; rfl
    refine wpAnyT_pureN 3 (some 64) ?v23 rfl (by kernel_rfl) (by kernel_rfl) (by kernel_rfl) rfl (fun _ _ _ h => h) hS0 (by kernel_rfl) rfl ?run23 ?rest23
    case run23 => intro w hS; obtain ⟨s0, s1, s2, s3, s4, s5, s6, s7⟩ := hS; go_simp; rfl
    refine wpAnyT_pureN 4 (some 65) ?v24 rfl (by kernel_rfl) (by kernel_rfl) (by kernel_rfl) rfl (fun _ _ _ h => h) hS0 (by kernel_rfl) rfl ?run24 ?rest24
    case run24 => intro w hS; obtain ⟨s0, s1, s2, s3, s4, s5, s6, s7⟩ := hS; go_simp; rfl
    refine wpAnyT_call 5 (some 66) 15 #[.agg #[iv 2, iv 3, iv 4, iv 20, iv 30, iv 3, iv 2], .agg #[.slice a 1 ca]] rfl (by kernel_rfl) (by kernel_rfl) (by kernel_rfl) rfl ?_
    refine (KC.out (V.drewN 1) (below_drewQ (Below.refl _ _) 1)).mono ?_
    rintro e m1 ⟨rfl, b1⟩
    have BB1 := Lib.hid ((below_drewQ (Below.refl _ _) 1).trans b1 : Below V.heap.size V m1)
    clear hS0 b1
    have hS0 := HSS.out _ BB1.out
    refine ⟨_, rfl, fun _ => hS0, ?_⟩
    refine wpAnyT_pureN 6 (some 16) ?v25 rfl (by kernel_rfl) (by kernel_rfl) (by kernel_rfl) rfl (fun _ _ _ h => h) hS0 (by kernel_rfl) rfl ?run25 ?rest25
    case run25 => intro w hS; obtain ⟨s0, s1, s2, s3, s4, s5, s6, s7⟩ := hS; go_simp; rfl
    refine wpAnyT_done (by kernel_rfl) ?_ _
    generalize hA : Act.put _ _ _ = A0
    simp only [put_mk, put_no, List.setIfInBounds_toArray, List.set_cons_succ, List.set_cons_zero] at hA
    subst hA
    clear hS0
    have B4 := Lib.hid (B3V.out.trans (BB1.out.mono (by have := B3V.out.size; omega)))
    have H4 := Lib.hid (H3V.out.below BB1.out)
    have HP4 := Lib.hid (lies_below HPB.out BB1.out (lt_heap HPB.out))
    have hwf := wf_fit (x := n) (by unfold fitI; omega)
    obtain ⟨D, hown, hD⟩ := H4.out.map
    have hnin : n ∉ L.map Prod.fst := fun h => by
      obtain ⟨q, hq, e⟩ := List.mem_map.1 h
      have := H4.out.lt q hq
      omega
    obtain ⟨w5, hrun, hown5, hgr5⟩ := (show (m1.drewN 1).ownsMap Tryz.prog TI ldR bm c D from hown).update intK und_mil (by unfold maxLen; omega) (Maps.keyOf_int_mk und_ti hwf) (ldR_mk ⟨id.toArray⟩ n (a, 1, ca))
    have hrun5 : (Instr.mapUpdate MIL (.map (some bm)) (iv n) (.agg #[sv id, iv n, .slice a 1 ca])).run Tryz.prog (m1.drewN 1) = .ok () w5 := hrun
    have hlt4 := lt_heap H4.out.blk
    have hne4 := H4.out.ne
    have HB5 := Lib.hid (show w5.heap[sb]? = some (.cells (stC bm n) STT (0, 0)) from (hgr5.block sb hlt4 (fun e => hne4 (by injection e))).trans H4.out.blk)
    have hput := hD.put hown.isMap (hown.tidy intK) hwf hnin id
    have HM5 := Lib.hid (show LdM w5 bm (c + 1) (L ++ [(n, id)]) from ⟨_, by simpa using hown5, hput⟩)
    have B5 := Lib.hid (show Below z w w5 from (below_drewQ B4.out 1).trans (below_map hgr5 hown.lt H4.out.zm))
    obtain ⟨x0, x1, x2, x3, x4, x5, x6, x7, x8⟩ := stC_cells H4.out.blk
    have xp := cells1C HP4.out
    clear x0 x1 x2 x3 x4 x5 x6 hown hD hrun hown5 hgr5 hput hlt4 hne4
    go_upto_region 15 with (fail)
    refine wp_region_D (S := fun w' => w'.cell? ⟨sb, 7, none⟩ = some (.map (some bm)) ∧ w'.cell? ⟨pb, 0, none⟩ = some (.slice a 1 ca)) (st := 9) (by kernel_rfl) ?_
    have hS0 : (fun w' : World => w'.cell? ⟨sb, 7, none⟩ = some (.map (some bm)) ∧ w'.cell? ⟨pb, 0, none⟩ = some (.slice a 1 ca)) (m1.drewN 1) := ⟨x7, xp⟩
    refine wpAnyT_pureD 0 (some 74) ?v26 rfl (by kernel_rfl) (by kernel_rfl) (by kernel_rfl) (by kernel_rfl) (fun _ _ _ h => h) hS0 (by kernel_rfl) rfl ?run26 ?rest26
    case run26 => intro w hS; obtain ⟨s0, s1⟩ := hS; go_simp; rfl
    refine wpAnyT_pureD 1 (some 75) ?v27 rfl (by kernel_rfl) (by kernel_rfl) (by kernel_rfl) (by kernel_rfl) (fun _ _ _ h => h) hS0 (by kernel_rfl) rfl ?run27 ?rest27
    case run27 => intro w hS; obtain ⟨s0, s1⟩ := hS; go_simp; rfl
    refine wpAnyT_pureD 2 (some 76) ?v28 rfl (by kernel_rfl) (by kernel_rfl) (by kernel_rfl) (by kernel_rfl) (fun _ _ _ h => h) hS0 (by kernel_rfl) rfl ?run28 ?rest28
    case run28 => intro w hS; obtain ⟨s0, s1⟩ := hS; go_simp; rfl
    refine wpAnyT_pureD 3 (some 77) ?v29 rfl (by kernel_rfl) (by kernel_rfl) (by kernel_rfl) (by kernel_rfl) (fun _ _ _ h => h) hS0 (by kernel_rfl) rfl ?run29 ?rest29
    case run29 => intro w hS; obtain ⟨s0, s1⟩ := hS; go_simp; rfl
    refine wpAnyT_pureD 4 (some 78) ?v30 rfl (by kernel_rfl) (by kernel_rfl) (by kernel_rfl) (by kernel_rfl) (fun _ _ _ h => h) hS0 (by kernel_rfl) rfl ?run30 ?rest30
    case run30 => intro w hS; obtain ⟨s0, s1⟩ := hS; go_simp; rfl
    refine wpAnyT_pureD 5 (some 79) ?v31 rfl (by kernel_rfl) (by kernel_rfl) (by kernel_rfl) (by kernel_rfl) (fun _ _ _ h => h) hS0 (by kernel_rfl) rfl ?run31 ?rest31
    case run31 => intro w hS; obtain ⟨s0, s1⟩ := hS; go_simp; rfl
    refine wpAnyT_pureD 6 (some 80) ?v32 rfl (by kernel_rfl) (by kernel_rfl) (by kernel_rfl) (by kernel_rfl) (fun _ _ _ h => h) hS0 (by kernel_rfl) rfl ?run32 ?rest32
    case run32 => intro w hS; obtain ⟨s0, s1⟩ := hS; go_simp; rfl
    refine wpAnyT_pureD 7 (some 81) ?v33 rfl (by kernel_rfl) (by kernel_rfl) (by kernel_rfl) (by kernel_rfl) (fun _ _ _ h => h) hS0 (by kernel_rfl) rfl ?run33 ?rest33
    case run33 => intro w hS; obtain ⟨s0, s1⟩ := hS; go_simp; rfl
    refine wpAnyT_pureD 8 (some 82) ?v34 rfl (by kernel_rfl) (by kernel_rfl) (by kernel_rfl) (by kernel_rfl) (fun _ _ _ h => h) hS0 (by kernel_rfl) rfl ?run34 ?rest34
    case run34 => intro w hS; obtain ⟨s0, s1⟩ := hS; go_simp; rfl
    refine wpAnyT_step 9 none w5 rfl (by kernel_rfl) (by kernel_rfl) ?rs15 rfl (fun h => absurd rfl h) ?_
    case rs15 => go_simp
    refine wpAnyT_done (by kernel_rfl) ?_ _
    generalize hA : Act.put _ _ _ = A0
    simp only [put_mk, put_no, List.setIfInBounds_toArray, List.set_cons_succ, List.set_cons_zero] at hA
    subst hA
    clear hS0 x7 x8 xp hrun5
    obtain ⟨x0, x1, x2, x3, x4, x5, x6, x7, x8⟩ := stC_cells HB5.out
    have xf := stC_froz HB5.out 8
    have hw8 : IntKind.i64.wrap (n + 1) = n + 1 := IntWalk.i64_in _ (by omega)
    clear x0 x1 x2 x3 x4 x5 x6 x7
    go_wp2
    have HB6 := stC_set8 HB5.out (n + 1)
    refine bodyPost_ret (v := .tuple #[iv n, iv 0, iv 0, iv 0]) (by simp [results, Tryz.results7, go_sem]) rfl ⟨.inr ⟨rfl, ⟨by simpa [hw8] using HB6, ?_, H.out.zs, H.out.zm, fun x hx => ?_, ?_⟩, HNO.out⟩, ?_⟩
    · obtain ⟨D2, g1, g2⟩ := HM5.out
      exact ⟨D2, g1.setCell (a := ⟨sb, 8, none⟩) (fun e => H4.out.ne e.symm) _, g2⟩
    · rcases List.mem_append.1 hx with hx | hx
      · have := H.out.lt x hx
        omega
      · obtain rfl : x = (n, id) := by simpa using hx
        dsimp only
        omega
    · rw [List.map_append]
      refine List.nodup_append.2 ⟨H.out.ids, by simp, fun p hp q hq => ?_⟩
      obtain ⟨x, hx, rfl⟩ := List.mem_map.1 hp
      obtain rfl : q = id := by simpa using hq
      exact HNO.out x hx
    · exact B5.out.setCell H4.out.zs _
end Go.Proofs.YtipnhmdibkkifaaGreatDoor
