/- A part of the proof. -/
import Derived.Test.YtipnhmdibkkifaaGreatDoorNu11
import Derived.Laws.EntriesVeiled
import Derived.Test.YtipnhmdibkkifaaGreatDoorNu10
import Derived.Test.YtipnhmdibkkifaaGreatDoorNu06
set_option linter.unusedVariables false
set_option linter.unusedSimpArgs false
set_option linter.unusedVariables false
set_option linter.unusedSimpArgs false
set_option linter.unusedSectionVars false
namespace Go.Proofs.YtipnhmdibkkifaaGreatDoor
open Go.RowKit
variable [Base]
def VarsQ (l : List Str) (w : World) (e : Ending) (w' : World) : Prop := ∃ v, e = .returned v ∧ w'.ownsRow w.heap.size TS 1 v l.length (l.map sv) ∧ Below w.heap.size w w'
theorem valid_stmts {p : List PFunc} (hv : validB p = true) : ∀ s ∈ stmtsP p, stmtB s = true := by
  intro s hs
  unfold stmtsP at hs
  obtain ⟨l, hl1, hs⟩ := List.mem_flatten.1 hs
  obtain ⟨f, hf1, rfl⟩ := List.mem_map.1 hl1
  obtain ⟨l, hl2, hs⟩ := List.mem_flatten.1 hs
  obtain ⟨b, hb1, rfl⟩ := List.mem_map.1 hl2
  unfold validB at hv
  simp only [Bool.and_eq_true, decide_eq_true_eq, List.all_eq_true] at hv
  have h := hv.2.2 f hf1
  unfold funcB at h
  simp only [Bool.and_eq_true, decide_eq_true_eq, List.all_eq_true] at h
  have h2 := h.2.2.2 b hb1
  unfold blockB at h2
  simp only [Bool.and_eq_true, decide_eq_true_eq, List.all_eq_true] at h2
  exact h2.2.2.2 s hs
theorem noteSs_len : ∀ (d : List PStmt) (out : List Str), (∀ s ∈ d, s.uses.length ≤ 4) → (d.foldl noteS out).length ≤ out.length + 5 * d.length
  | [], out, _ => by simp
  | s :: r, out, h => by
    have h1 := noteSs_len r (noteS out s) (fun q hq => h q (List.mem_cons_of_mem _ hq))
    have h2 : (noteS out s).length ≤ out.length + (s.dfn :: s.uses).length := notes_len _ _
    have h3 := h s List.mem_cons_self
    simp only [List.foldl_cons, List.length_cons] at *
    omega
set_option maxRecDepth 100000 in
set_option maxHeartbeats 4000000 in
theorem vars_any {B : Nat} {w : World} (kw : KwIn B w) (hB : B ≤ w.heap.size) (p : List PFunc) (v : Value) (h : FuncsAt w v p) (hf : ∀ f ∈ p, ∀ b ∈ f.blocks, ∀ s ∈ b.stmts, FitS s) (hv : validB p = true) :
    Calls Tryz.prog 47 #[.agg #[v]] w (VarsQ (varsP p) w) := by
  obtain ⟨a, c, rfl, hn, -⟩ := h.cell
  obtain ⟨n, hl⟩ : ∃ n, p.length = n := ⟨_, rfl⟩
  obtain ⟨z, hz⟩ : ∃ z, w.heap.size = z := ⟨_, rfl⟩
  obtain ⟨w1, h1⟩ : ∃ w1, w.alloc (.cells #[.slice a n c] 48) = w1 := ⟨_, rfl⟩
  obtain ⟨w2, h2⟩ : ∃ w2, w1.alloc (.map #[] 0) = w2 := ⟨_, rfl⟩
  obtain ⟨w3, h3⟩ : ∃ w3, w2.alloc (.cells #[.map (some (z + 1))] 102) = w3 := ⟨_, rfl⟩
  obtain ⟨w4, h4⟩ : ∃ w4, w3.alloc (.cells #[.slice none 0 0] 30) = w4 := ⟨_, rfl⟩
  obtain ⟨w5, h5⟩ : ∃ w5, w4.alloc (.cells #[.func (.func 75) #[] #[.pointer (some ⟨z + 1 + 1, 0, none⟩), .pointer (some ⟨z + 1 + 1 + 1, 0, none⟩)]] 156) = w5 := ⟨_, rfl⟩
  have s1 : w1.heap.size = z + 1 := by rw [← h1, ← hz]; simp
  have s2 : w2.heap.size = z + 1 + 1 := by rw [← h2, ← s1]; simp
  have s3 : w3.heap.size = z + 1 + 1 + 1 := by rw [← h3, ← s2]; simp
  have s4 : w4.heap.size = z + 1 + 1 + 1 + 1 := by rw [← h4, ← s3]; simp
  have s5 : w5.heap.size = z + 1 + 1 + 1 + 1 + 1 := by rw [← h5, ← s4]; simp
  have B1 : Below z w w1 := by rw [← h1, ← hz]; exact (Below.refl _ _).alloc (Nat.le_refl _) _
  have B2 : Below (z + 1) w1 w2 := by rw [← h2, ← s1]; exact (Below.refl _ _).alloc (Nat.le_refl _) _
  have B3 : Below (z + 1 + 1) w2 w3 := by rw [← h3, ← s2]; exact (Below.refl _ _).alloc (Nat.le_refl _) _
  have B4 : Below (z + 1 + 1 + 1) w3 w4 := by rw [← h4, ← s3]; exact (Below.refl _ _).alloc (Nat.le_refl _) _
  have B5 : Below (z + 1 + 1 + 1 + 1) w4 w5 := by rw [← h5, ← s4]; exact (Below.refl _ _).alloc (Nat.le_refl _) _
  have p1 : w1.heap[z]? = some (.cells #[.slice a n c] 48 (0, 0)) := by rw [← h1, ← hz]; exact heap_alloc_new _ _
  have p5 : w5.heap[z]? = some (.cells #[.slice a n c] 48 (0, 0)) := (B5.block z (by omega)).trans ((B4.block z (by omega)).trans ((B3.block z (by omega)).trans ((B2.block z (by omega)).trans p1)))
  have m2 : NamesM w2 (z + 1) 0 [] := by rw [← h2, ← s1]; exact ⟨_, (MapG.made strK boolEnc w1).congr (fun x => by simp [boolEnc]) (fun _ => rfl)⟩
  have k3 : w3.heap[z + 1 + 1]? = some (.cells #[.map (some (z + 1))] 102 (0, 0)) := by rw [← h3, ← s2]; exact heap_alloc_new _ _
  have o4 : w4.heap[z + 1 + 1 + 1]? = some (.cells #[.slice none 0 0] 30 (0, 0)) := by rw [← h4, ← s3]; exact heap_alloc_new _ _
  have f5 : NoteAt (z + 1 + 1) (z + 1 + 1 + 1) (z + 1 + 1 + 1 + 1) w5 := by unfold NoteAt; rw [← h5, ← s4]; exact heap_alloc_new _ _
  have V5 : VarsSt z (z + 1 + 1) (z + 1 + 1 + 1) (z + 1 + 1 + 1 + 1) [] w5 := ⟨by omega, by omega, ⟨z + 1, by omega, (B5.block _ (by omega)).trans ((B4.block _ (by omega)).trans k3), ((m2.below (s2 ▸ B3)).below (s3 ▸ B4)).below (s4 ▸ B5)⟩, f5, ⟨_, (B5.block _ (by omega)).trans o4, by simp [World.ownsRow]⟩⟩
  have B05 : Below z w w5 := B1.trans ((B2.mono (by omega)).trans ((B3.mono (by omega)).trans ((B4.mono (by omega)).trans (B5.mono (by omega)))))
  have hbz : Base.b ≤ z := by have := kw.bs; omega
  have hst := valid_stmts hv
  have K := Lib.hid (each_vars (w := w5) (z + 1 + 1 + 1 + 1) kw hB hz p _ h hv hf B05 (fun d x => VarsSt z (z + 1 + 1) (z + 1 + 1 + 1) (z + 1 + 1 + 1 + 1) (d.foldl noteS []) x) (fun d x y hx hb => hx.below hb) (fun d s r u t x hsp hx hb hu ht => by
      have hm := hst s (by rw [hsp]; simp)
      have hl := stmt_len hm
      refine (vars2_any hz hb hbz _ s u t hx hu ht (stmt_dlen hm) hl.2 hl.1 ?_).mono ?_
      · have h1 := noteSs_len d [] (fun q hq => (stmt_len (hst q (by rw [hsp]; simp [hq]))).1)
        have h2 := stmtsP_few hv p.length
        rw [List.take_length, hsp] at h2
        simp at h1 h2
        omega
      · rintro e y ⟨rfl, h1, h2⟩
        exact ⟨rfl, by rw [List.foldl_append]; exact h1, h2⟩) V5)
  have HS := Lib.hid hz
  have H1 := Lib.hid h1
  have H2 := Lib.hid h2
  have H3 := Lib.hid h3
  have H4 := Lib.hid h4
  have H5 := Lib.hid h5
  rw [hl] at K ⊢
  have p0 := (blk_cells p5).1 0
  simp at p0
  have hvp := Lib.hid (show varsP p = (stmtsP p).foldl noteS [] by unfold varsP; rw [hv]; rfl)
  clear h kw hf hl hv B1 B2 B3 B4 B5 m2 k3 o4 f5 V5 B05 hst p1 p5 s1 s2 s3 s4 s5 h1 h2 h3 h4 h5
  have hmm := @run_makeMap Tryz.prog
  go_enter Tryz.func47, Tryz.ntmps47
  go_upto_region 4 with (fail)
  try rw [hz]
  rw [show (((((w.alloc (.cells #[.slice a n c] 48)).alloc (.map #[] 0)).alloc (.cells #[.map (some (z + 1))] 102)).alloc (.cells #[.slice none 0 0] 30)).alloc (.cells #[.func (.func 75) #[] #[.pointer (some ⟨z + 1 + 1, 0, none⟩), .pointer (some ⟨z + 1 + 1 + 1, 0, none⟩)]] 156)) = w5 by rw [H1.out, H2.out, H3.out, H4.out, H5.out]]
  clear hz hmm
  go_wp2_with fail
  refine K.out.mono ?_
  rintro e w6 ⟨rfl, V6, b6⟩
  obtain ⟨v6, o6, r6⟩ := V6.out
  obtain ⟨a6, c6, rfl, -, -⟩ := own_slice r6
  have R6 := Lib.hid r6
  have q0 := (blk_cells o6).1 0
  have qf := (blk_cells o6).2 0
  simp at q0
  have B6 := Lib.hid b6
  clear V6 b6 r6 o6 p0
  go_wp2
  rw [show ((stmtsP p).foldl noteS []) = varsP p from hvp.out.symm]
  refine bodyPost_ret (v := .slice a6 (varsP p).length c6) (by simp [results, Tryz.results47, go_sem]) rfl ⟨_, rfl, ?_, ?_⟩
  · rw [HS.out, hvp.out]; exact R6.out
  · rw [HS.out]; exact B6.out
end Go.Proofs.YtipnhmdibkkifaaGreatDoor
set_option linter.unusedVariables false
set_option linter.unusedSimpArgs false
set_option linter.unusedSectionVars false
namespace Go.Proofs.YtipnhmdibkkifaaGreatDoor
open Go.RowKit
variable [Base]
theorem valid_short {p : List PFunc} (hv : validB p = true) : (∀ f ∈ p, f.name.length ≤ 1000) ∧ ∀ f ∈ p, ShortF f := by
  have hs := valid_stmts hv
  have hm : ∀ f ∈ p, ∀ b ∈ f.blocks, ∀ s ∈ b.stmts, s ∈ stmtsP p := fun f hf b hb s hx => by
    unfold stmtsP
    exact List.mem_flatten.2 ⟨_, List.mem_map.2 ⟨f, hf, rfl⟩, List.mem_flatten.2 ⟨_, List.mem_map.2 ⟨b, hb, rfl⟩, hx⟩⟩
  unfold validB at hv
  simp only [Bool.and_eq_true, decide_eq_true_eq, List.all_eq_true] at hv
  refine ⟨fun f hf => ?_, fun f hf => ⟨fun b hb => ?_, fun b hb s hx t ht => ?_⟩⟩
  · have h := hv.2.2 f hf
    unfold funcB at h
    simp only [Bool.and_eq_true, decide_eq_true_eq, List.all_eq_true] at h
    exact nameB_len h.1
  · have h := hv.2.2 f hf
    unfold funcB at h
    simp only [Bool.and_eq_true, decide_eq_true_eq, List.all_eq_true] at h
    have h2 := h.2.2.2 b hb
    unfold blockB at h2
    simp only [Bool.and_eq_true, decide_eq_true_eq, List.all_eq_true] at h2
    exact nameB_len h2.1
  · have h := hs s (hm f hf b hb s hx)
    rw [stmtB_eq] at h
    unfold stmtP2 at h
    simp only [Bool.and_eq_true, List.all_eq_true] at h
    have := nameB_len (h.2.2.2.2.2 t (by unfold namesOf; simp [ht]))
    unfold maxLen
    omega
theorem funcsE_drop {fs : List Str} {l : List PFunc} {k : Nat} {f : PFunc} (h : l[k]? = some f) : funcsE fs (l.drop k) = firstE (funcE fs f) (funcsE fs (l.drop (k + 1))) := by
  obtain ⟨hk, rfl⟩ := List.getElem?_eq_some_iff.1 h
  rw [List.drop_eq_getElem_cons hk]
  rfl
set_option maxRecDepth 100000 in
set_option maxHeartbeats 8000000 in
theorem check_any {B : Nat} {w : World} (kw : KwIn B w) (hB : B ≤ w.heap.size) (p : List PFunc) (v : Value) (h : FuncsAt w v p) (hf : ∀ f ∈ p, ∀ b ∈ f.blocks, ∀ s ∈ b.stmts, FitS s) :
    Calls Tryz.prog 26 #[.agg #[v]] w (NodeQ (checkE p) w) := by
  obtain ⟨pb, hpb⟩ : ∃ b, w.heap.size = b := ⟨_, rfl⟩
  have HV := Lib.hid (fun (x : World) (b : Below pb w x) => pvalidp_any (kw.keep fun k hk => b.block k (by omega)) (by have := b.size; omega) p v (h.keep (SameT.below (hpb ▸ b)) (SameT.below (hpb ▸ b)) (SameT.below (hpb ▸ b)) (SameT.below (hpb ▸ b))) hf)
  have HSZ := Lib.hid (fun (x : World) (b : Below pb w x) => sizes_any (kw.keep fun k hk => b.block k (by omega)) (by have := b.size; omega) p v (h.keep (SameT.below (hpb ▸ b)) (SameT.below (hpb ▸ b)) (SameT.below (hpb ▸ b)) (SameT.below (hpb ▸ b))) hf)
  have HVA := Lib.hid (fun (x : World) (b : Below pb w x) hv => vars_any (kw.keep fun k hk => b.block k (by omega)) (by have := b.size; omega) p v (h.keep (SameT.below (hpb ▸ b)) (SameT.below (hpb ▸ b)) (SameT.below (hpb ▸ b)) (SameT.below (hpb ▸ b))) hf hv)
  have HDU := Lib.hid (fun (x : World) (b : Below pb w x) hp => dupF_any p hp v x (h.keep (SameT.below (hpb ▸ b)) (SameT.below (hpb ▸ b)) (SameT.below (hpb ▸ b)) (SameT.below (hpb ▸ b))))
  obtain ⟨a, c, rfl, hn, hc⟩ := h.cell
  have HC := Lib.hid hc
  obtain ⟨n, hl⟩ : ∃ n, p.length = n := ⟨_, rfl⟩
  rw [hl] at hn HV HSZ HVA HDU ⊢
  unfold maxLen at hn
  obtain ⟨W, hW⟩ : ∃ W, (w.alloc (.cells #[.slice a n c] 48)).alloc (.cells #[iv 0, iv 0, iv 0, iv 0] 80) = W := ⟨_, rfl⟩
  have HPB := Lib.hid (show W.heap[pb]? = some (.cells #[.slice a n c] 48 (0, 0)) by rw [← hW, ← hpb]; exact alloc_blk _ (heap_alloc_new _ _))
  have HRB := Lib.hid (show W.heap[pb + 1]? = some (.cells #[iv 0, iv 0, iv 0, iv 0] 80 (0, 0)) by rw [← hW, ← hpb]; have := heap_alloc_new (w.alloc (.cells #[.slice a n c] 48)) (.cells #[iv 0, iv 0, iv 0, iv 0] 80); rwa [World.size_alloc] at this)
  have BW := Lib.hid (show Below pb w W by rw [← hW, ← hpb]; exact ((Below.refl _ _).alloc (Nat.le_refl _) _).alloc (by simp) _)
  have HWW := Lib.hid hW
  have HPE := Lib.hid hpb
  have HL := Lib.hid hl
  have HFF := Lib.hid hf
  clear h hc hl hW kw hf
  have x0 := (blk_cells HPB.out).1 0
  simp at x0
  obtain ⟨r, hr⟩ : ∃ r, validB p = r := ⟨_, rfl⟩
  rw [hr] at HV
  have HR0 := Lib.hid hr
  clear hr
  go_enter Tryz.func26, Tryz.ntmps26
  go_upto_region 1 with (fail)
  rw [show (w.alloc (.cells #[.slice a n c] 48)).alloc (.cells #[iv 0, iv 0, iv 0, iv 0] 80) = W from HWW.out]
  try rw [hpb]
  clear hpb
  go_wp2_with fail
  refine (HV.out W BW.out).mono ?_
  rintro e w1 ⟨rfl, b1⟩
  have HPB1 := Lib.hid (lies_below HPB.out b1 (lt_heap HPB.out))
  have HRB1 := Lib.hid (lies_below HRB.out b1 (lt_heap HRB.out))
  have B1 := Lib.hid (BW.out.trans (b1.mono (by have := BW.out.size; have := HPE.out; omega)))
  clear b1 x0
  have x0 := (blk_cells HPB1.out).1 0
  simp at x0
  obtain ⟨r0, r1, r2, r3⟩ := cells4s HRB1.out
  have fr := (lies_cells HRB1.out).2
  cases r
  · have HF := Lib.hid (show checkE p = 1 by unfold checkE; rw [HR0.out]; rfl)
    go_wp2
    rw [HF.out]
    obtain ⟨z0, z1, z2, z3⟩ := cells4s (set4 HRB1.out (iv 0) (iv 0) (iv 0) (iv 0))
    exact bodyPost_ret (v := .tuple #[.agg #[iv 0, iv 0, iv 0, iv 0], iv 1]) (by simp [results, Tryz.results26, go_sem, z0, z1, z2, z3]) rfl ⟨_, _, _, _, rfl, ((((HPE.out ▸ B1.out).setCell (by show w.heap.size ≤ pb + 1; have := HPE.out; omega) _).setCell (by show w.heap.size ≤ pb + 1; have := HPE.out; omega) _).setCell (by show w.heap.size ≤ pb + 1; have := HPE.out; omega) _).setCell (by show w.heap.size ≤ pb + 1; have := HPE.out; omega) _⟩
  have HSH := Lib.hid (valid_short HR0.out)
  have K := Lib.hid (HDU.out w1 B1.out HSH.out.1)
  obtain ⟨fs, hfs⟩ : ∃ l, p.map PFunc.name = l := ⟨_, rfl⟩
  rw [hfs] at K
  have HFS := Lib.hid (show fNames p = fs from hfs)
  clear hfs
  go_wp2_with fail
  refine K.out.mono ?_
  rintro e w2 ⟨mb, rfl, hm2, hb2, b2⟩
  have HM2 := Lib.hid hm2
  have HPB2 := Lib.hid (lies_below HPB1.out b2 (lt_heap HPB1.out))
  have HRB2 := Lib.hid (lies_below HRB1.out b2 (lt_heap HRB1.out))
  have B2 := Lib.hid (B1.out.trans (b2.mono (by have := B1.out.size; have := HPE.out; omega)))
  clear b2 hm2 hb2 x0 r0 r1 r2 r3 fr K
  have x0 := (blk_cells HPB2.out).1 0
  simp at x0
  obtain ⟨r0, r1, r2, r3⟩ := cells4s HRB2.out
  have fr := (lies_cells HRB2.out).2
  obtain ⟨d, hd⟩ : ∃ d, dupI fs = d := ⟨_, rfl⟩
  have HCK := Lib.hid (show checkE p = if 0 ≤ d then 6 else if funcsE fs p ≠ 0 then funcsE fs p else if 64 < (varsP p).length ∨ 256 < nodesN p ∨ 1024 < edgesN p then 7 else 0 by unfold checkE; rw [HR0.out, HFS.out, hd]; simp)
  rw [hd]
  clear hd
  by_cases hd0 : 0 ≤ d
  · rw [if_pos hd0] at HCK
    go_wp2
    rw [HCK.out]
    obtain ⟨z0, z1, z2, z3⟩ := cells4s (set4 HRB2.out (iv 1) (iv d) (iv (-1)) (iv (-1)))
    exact bodyPost_ret (v := .tuple #[.agg #[iv 1, iv d, iv (-1), iv (-1)], iv 6]) (by simp [results, Tryz.results26, go_sem, z0, z1, z2, z3]) rfl ⟨_, _, _, _, rfl, ((((HPE.out ▸ B2.out).setCell (by show w.heap.size ≤ pb + 1; have := HPE.out; omega) _).setCell (by show w.heap.size ≤ pb + 1; have := HPE.out; omega) _).setCell (by show w.heap.size ≤ pb + 1; have := HPE.out; omega) _).setCell (by show w.heap.size ≤ pb + 1; have := HPE.out; omega) _⟩
  rw [if_neg hd0] at HCK
  go_wp2
  clear x0 r0 r1 r2 r3 fr
  go_loopw [29] (fun y wr => ∃ k : Nat, k ≤ n ∧ y = .int .i64 k ∧ Hid (Below pb w wr) ∧ Hid (NamesM wr mb fs.length fs) ∧ Hid (wr.heap[pb]? = some (.cells #[.slice a n c] 48 (0, 0))) ∧ Hid (wr.heap[pb + 1]? = some (.cells #[iv 0, iv 0, iv 0, iv 0] 80 (0, 0))) ∧ Hid (funcsE fs p = funcsE fs (p.drop k))) (fun y _ => n - (intOf y).toNat)
  case atStart => exact ⟨0, Nat.zero_le _, rfl, B2.out, HM2.out, HPB2.out, HRB2.out, rfl⟩
  case round =>
    obtain ⟨k, hk, rfl, HB, HM, HP, HR, HE⟩ := hrel
    by_cases hlt : k < n
    · obtain ⟨f, hf⟩ : ∃ f, p[k]? = some f := ⟨_, List.getElem?_eq_getElem (by rw [HL.out]; exact hlt)⟩
      obtain ⟨fb, off, bv, rfl, hfb, g0, g1, hbl⟩ := HC.out k f hf
      have hpe := HPE.out
      have g0 := (HB.out.cell (p := ⟨fb, off + k * 2, none⟩) (by show fb < pb; omega)).trans g0
      have g1 := (HB.out.cell (p := ⟨fb, off + k * 2 + 1, none⟩) (by show fb < pb; omega)).trans g1
      have HBL := Lib.hid (hbl.keep (SameT.below (hpe.symm ▸ HB.out)) (SameT.below (hpe.symm ▸ HB.out)) (SameT.below (hpe.symm ▸ HB.out)))
      obtain ⟨ba, bc, rfl, -, -⟩ := hbl.cell
      obtain ⟨bn, hbn⟩ : ∃ n, List.length f.blocks = n := ⟨_, rfl⟩
      rw [hbn] at g1 HBL
      have HSF := Lib.hid (HSH.out.2 f (List.mem_of_getElem? hf))
      have HD := Lib.hid (funcsE_drop (fs := fs) hf)
      obtain ⟨U, hU⟩ : ∃ U, wr.alloc (.cells #[sv f.name, .slice ba bn bc] 74) = U := ⟨_, rfl⟩
      have BU := Lib.hid (show Below wr.heap.size wr U by rw [← hU]; exact (Below.refl _ _).alloc (Nat.le_refl _) _)
      have HXB := Lib.hid (show U.heap[wr.heap.size]? = some (.cells #[sv f.name, .slice ba bn bc] 74 (0, 0)) by rw [← hU]; exact heap_alloc_new _ _)
      have HUU := Lib.hid hU
      have HBU := Lib.hid (HB.out.trans (BU.out.mono (by have := HB.out.size; omega)))
      have KF := Lib.hid (vfunction_any f k fs mb fs.length (.slice ba bn bc) U (HBL.out.keep (SameT.below BU.out) (SameT.below BU.out) (SameT.below BU.out)) HSF.out (HM.out.below BU.out))
      obtain ⟨er, her⟩ : ∃ r, funcE fs f = r := ⟨_, rfl⟩
      rw [her] at KF HD
      obtain ⟨xb, hxb⟩ : ∃ b, wr.heap.size = b := ⟨_, rfl⟩
      rw [hxb] at HXB BU
      have HXE := Lib.hid hxb
      clear hf hbl hbn hU her hpe
      go_upto_region 9 with (fail)
      rw [show wr.alloc (.cells #[sv f.name, .slice ba bn bc] 74) = U from HUU.out]
      try rw [hxb]
      clear hxb g0 g1
      obtain ⟨x0, x1⟩ := cells2s HXB.out
      go_wp2_with fail
      refine KF.out.mono ?_
      rintro e w3 ⟨na, nb, nc, nd, rfl, b3⟩
      have hsU : pb ≤ U.heap.size := by have := HBU.out.size; have := HPE.out; omega
      have b4 := (Below.refl w3.heap.size w3).alloc (Nat.le_refl _) (.cells #[iv na, iv nb, iv nc, iv nd] 80)
      have b34 := b3.trans (b4.mono b3.size)
      have HB4 := Lib.hid (HBU.out.trans (b34.mono hsU))
      have HM4 := Lib.hid ((HM.out.below (HXE.out.symm ▸ BU.out)).below b34)
      have HP4 := Lib.hid (lies_below (lies_below HP.out BU.out (by have := lt_heap HP.out; have := HXE.out; omega)) b34 (by have := lt_heap HP.out; have := BU.out.size; omega))
      have HR4 := Lib.hid (lies_below (lies_below HR.out BU.out (by have := lt_heap HR.out; have := HXE.out; omega)) b34 (by have := lt_heap HR.out; have := BU.out.size; omega))
      have HZ := Lib.hid (heap_alloc_new w3 (.cells #[iv na, iv nb, iv nc, iv nd] 80))
      clear b3 b4 b34 x0 x1
      by_cases her0 : er = 0
      · have HF := Lib.hid (show funcsE fs p = funcsE fs (p.drop (k + 1)) by rw [HE.out, HD.out, her0]; rfl)
        have hne0 : (er != 0) = false := by simpa using her0
        clear her0
        go_wp2
        go_roundw
        case rel => exact ⟨k + 1, by omega, by go_num, HB4, HM4, HP4, HR4, HF⟩
        case measure => simp [intOf]; omega
      · have HF := Lib.hid (show checkE p = er by rw [HCK.out, HE.out, HD.out, firstE_ne her0, if_pos her0])
        have hne0 : (er != 0) = true := by simpa using her0
        clear her0
        obtain ⟨V, hV⟩ : ∃ V, w3.alloc (.cells #[iv na, iv nb, iv nc, iv nd] 80) = V := ⟨_, rfl⟩
        have HVV := Lib.hid hV
        rw [hV] at HB4 HR4 HZ
        obtain ⟨yb, hyb⟩ : ∃ b, w3.heap.size = b := ⟨_, rfl⟩
        rw [hyb] at HZ
        clear hV HM4 HP4
        go_upto_region 10 with (fail)
        rw [show w3.alloc (.cells #[iv na, iv nb, iv nc, iv nd] 80) = V from HVV.out]
        try rw [hyb]
        clear hyb
        obtain ⟨r0, r1, r2, r3⟩ := cells4s HR4.out
        obtain ⟨y0, y1, y2, y3⟩ := cells4s HZ.out
        have fr := (lies_cells HR4.out).2
        go_wp2
        rw [HF.out]
        obtain ⟨z0, z1, z2, z3⟩ := cells4s (set4 HR4.out (iv na) (iv nb) (iv nc) (iv nd))
        exact bodyPost_ret (v := .tuple #[.agg #[iv na, iv nb, iv nc, iv nd], iv er]) (by simp [results, Tryz.results26, go_sem, z0, z1, z2, z3]) rfl ⟨_, _, _, _, rfl, ((((HPE.out ▸ HB4.out).setCell (by show w.heap.size ≤ pb + 1; have := HPE.out; omega) _).setCell (by show w.heap.size ≤ pb + 1; have := HPE.out; omega) _).setCell (by show w.heap.size ≤ pb + 1; have := HPE.out; omega) _).setCell (by show w.heap.size ≤ pb + 1; have := HPE.out; omega) _⟩
    · have HF0 := Lib.hid (show funcsE fs p = 0 by rw [HE.out, List.drop_eq_nil_of_le (by rw [HL.out]; omega)]; rfl)
      have HCK2 := Lib.hid (show checkE p = if 64 < (varsP p).length ∨ 256 < nodesN p ∨ 1024 < edgesN p then 7 else 0 by rw [HCK.out, HF0.out]; rfl)
      have hpe := HPE.out
      have K1 := Lib.hid (HSZ.out wr HB.out)
      obtain ⟨nn, hnn⟩ : ∃ z, nodesN p = z := ⟨_, rfl⟩
      obtain ⟨en, hen⟩ : ∃ z, edgesN p = z := ⟨_, rfl⟩
      obtain ⟨vn, hvn⟩ : ∃ z, (varsP p).length = z := ⟨_, rfl⟩
      rw [hnn, hen] at K1 HCK2
      rw [hvn] at HCK2
      have HVN := Lib.hid hvn
      clear hnn hen hvn hpe
      have x0 := (blk_cells HP.out).1 0
      simp at x0
      go_wp2_with fail
      refine K1.out.mono ?_
      rintro e w3 ⟨rfl, b3⟩
      have HB3 := Lib.hid (HB.out.trans (b3.mono (by have := HB.out.size; have := HPE.out; omega)))
      have HP3 := Lib.hid (lies_below HP.out b3 (lt_heap HP.out))
      have HR3 := Lib.hid (lies_below HR.out b3 (lt_heap HR.out))
      have K2 := Lib.hid (HVA.out w3 HB3.out HR0.out)
      clear b3 x0
      have x0 := (blk_cells HP3.out).1 0
      simp at x0
      go_wp2_with fail
      refine K2.out.mono ?_
      rintro e w4 ⟨vv, rfl, hvo, b4⟩
      obtain ⟨va, vc, rfl, -, -⟩ := own_slice hvo
      rw [HVN.out]
      have HB4 := Lib.hid (HB3.out.trans (b4.mono (by have := HB3.out.size; have := HPE.out; omega)))
      have HR4 := Lib.hid (lies_below HR3.out b4 (lt_heap HR3.out))
      clear b4 hvo x0 K2 K1
      obtain ⟨r0, r1, r2, r3⟩ := cells4s HR4.out
      have fr := (lies_cells HR4.out).2
      by_cases h1 : 64 < vn
      · have HF := Lib.hid (show checkE p = 7 by rw [HCK2.out, if_pos (.inl h1)])
        go_wp2
        rw [HF.out]
        obtain ⟨z0, z1, z2, z3⟩ := cells4s (set4 HR4.out (iv 0) (iv 0) (iv 0) (iv 0))
        exact bodyPost_ret (v := .tuple #[.agg #[iv 0, iv 0, iv 0, iv 0], iv 7]) (by simp [results, Tryz.results26, go_sem, z0, z1, z2, z3]) rfl ⟨_, _, _, _, rfl, ((((HPE.out ▸ HB4.out).setCell (by show w.heap.size ≤ pb + 1; have := HPE.out; omega) _).setCell (by show w.heap.size ≤ pb + 1; have := HPE.out; omega) _).setCell (by show w.heap.size ≤ pb + 1; have := HPE.out; omega) _).setCell (by show w.heap.size ≤ pb + 1; have := HPE.out; omega) _⟩
      · by_cases h2 : 256 < nn
        · have HF := Lib.hid (show checkE p = 7 by rw [HCK2.out, if_pos (.inr (.inl h2))])
          go_wp2
          rw [HF.out]
          obtain ⟨z0, z1, z2, z3⟩ := cells4s (set4 HR4.out (iv 0) (iv 0) (iv 0) (iv 0))
          exact bodyPost_ret (v := .tuple #[.agg #[iv 0, iv 0, iv 0, iv 0], iv 7]) (by simp [results, Tryz.results26, go_sem, z0, z1, z2, z3]) rfl ⟨_, _, _, _, rfl, ((((HPE.out ▸ HB4.out).setCell (by show w.heap.size ≤ pb + 1; have := HPE.out; omega) _).setCell (by show w.heap.size ≤ pb + 1; have := HPE.out; omega) _).setCell (by show w.heap.size ≤ pb + 1; have := HPE.out; omega) _).setCell (by show w.heap.size ≤ pb + 1; have := HPE.out; omega) _⟩
        · by_cases h3 : 1024 < en
          · have HF := Lib.hid (show checkE p = 7 by rw [HCK2.out, if_pos (.inr (.inr h3))])
            go_wp2
            rw [HF.out]
            obtain ⟨z0, z1, z2, z3⟩ := cells4s (set4 HR4.out (iv 0) (iv 0) (iv 0) (iv 0))
            exact bodyPost_ret (v := .tuple #[.agg #[iv 0, iv 0, iv 0, iv 0], iv 7]) (by simp [results, Tryz.results26, go_sem, z0, z1, z2, z3]) rfl ⟨_, _, _, _, rfl, ((((HPE.out ▸ HB4.out).setCell (by show w.heap.size ≤ pb + 1; have := HPE.out; omega) _).setCell (by show w.heap.size ≤ pb + 1; have := HPE.out; omega) _).setCell (by show w.heap.size ≤ pb + 1; have := HPE.out; omega) _).setCell (by show w.heap.size ≤ pb + 1; have := HPE.out; omega) _⟩
          · have HF := Lib.hid (show checkE p = 0 by rw [HCK2.out, if_neg (by omega)])
            go_wp2
            rw [HF.out]
            obtain ⟨z0, z1, z2, z3⟩ := cells4s (set4 HR4.out (iv 0) (iv 0) (iv 0) (iv 0))
            exact bodyPost_ret (v := .tuple #[.agg #[iv 0, iv 0, iv 0, iv 0], iv 0]) (by simp [results, Tryz.results26, go_sem, z0, z1, z2, z3]) rfl ⟨_, _, _, _, rfl, ((((HPE.out ▸ HB4.out).setCell (by show w.heap.size ≤ pb + 1; have := HPE.out; omega) _).setCell (by show w.heap.size ≤ pb + 1; have := HPE.out; omega) _).setCell (by show w.heap.size ≤ pb + 1; have := HPE.out; omega) _).setCell (by show w.heap.size ≤ pb + 1; have := HPE.out; omega) _⟩
end Go.Proofs.YtipnhmdibkkifaaGreatDoor
