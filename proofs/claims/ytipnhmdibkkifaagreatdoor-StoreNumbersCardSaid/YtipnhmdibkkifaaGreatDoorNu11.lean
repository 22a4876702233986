/- A part of the proof. -/
import Derived.Test.YtipnhmdibkkifaaGreatDoorNu09
import Derived.Test.YtipnhmdibkkifaaGreatDoorNu04
import Derived.Test.YtipnhmdibkkifaaGreatDoorNu01
set_option linter.unusedVariables false
set_option linter.unusedSimpArgs false
set_option linter.unusedVariables false
set_option linter.unusedSimpArgs false
set_option linter.unusedSectionVars false
namespace Go.Proofs.YtipnhmdibkkifaaGreatDoor
open Go.RowKit
variable [Base]
def NoteAt (kb ob nk : Nat) (w : World) : Prop := w.heap[nk]? = some (.cells #[.func (.func 75) #[] #[.pointer (some ⟨kb, 0, none⟩), .pointer (some ⟨ob, 0, none⟩)]] 156 (0, 0))
structure VarsSt (z kb ob nk : Nat) (l : List Str) (w : World) : Prop where
  kz : z ≤ kb
  oz : z ≤ ob
  map : ∃ mb, z ≤ mb ∧ w.heap[kb]? = some (.cells #[.map (some mb)] 102 (0, 0)) ∧ NamesM w mb l.length l
  note : NoteAt kb ob nk w
  out : ∃ v, w.heap[ob]? = some (.cells #[v] 30 (0, 0)) ∧ w.ownsRow z TS 1 v l.length (l.map sv)
theorem VarsSt.below {z kb ob nk : Nat} {l : List Str} {w w' : World} (h : VarsSt z kb ob nk l w) (b : Below w.heap.size w w') : VarsSt z kb ob nk l w' := by
  obtain ⟨h1, h2, ⟨mb, h3, h4, h5⟩, hnk, ⟨v, h6, h7⟩⟩ := h
  exact ⟨h1, h2, ⟨mb, h3, (b.block _ (lt_heap h4)).trans h4, h5.below b⟩, (b.block _ (lt_heap hnk)).trans hnk, ⟨v, (b.block _ (lt_heap h6)).trans h6, own_below h7 b⟩⟩
theorem own_off {w : World} {base : Nat} {e : TypeId} {size : Nat} {v : Value} {n : Nat} {xs : List Value} (ho : w.ownsRow base e size v n xs) {k : Nat} {o : Obj} (hk : w.heap[k]? = some o) (hne : ∀ c fr, o ≠ .cells c e fr) : some k ≠ v.ownBlock := by
  intro hb
  have hb := hb.symm
  rcases ho.2 with ⟨rfl, _⟩ | ⟨g, cap, cur, rfl, _, hh, _⟩
  · simp [Value.ownBlock] at hb
  · simp [Value.ownBlock] at hb
    subst hb
    rw [hh] at hk
    injection hk with hk
    exact hne _ _ hk.symm
theorem VarsSt.mapped {z kb ob mb nk : Nat} {l : List Str} {n : Str} {v : Value} {w w4 : World} {th : List UInt8 → Bool} (h4 : w.heap[kb]? = some (.cells #[.map (some mb)] 102 (0, 0))) (h6 : w.heap[ob]? = some (.cells #[v] 30 (0, 0))) (h7 : w.ownsRow z TS 1 v l.length (l.map sv)) (hm : ∃ es c, w.heap[mb]? = some (Obj.map es c)) (h3 : z ≤ mb) (hnk : NoteAt kb ob nk w)
    (hM : MapG strK boolEnc w4 mb (l.length + 1) (fun q => if q = n then true else l.contains q) th) (hg : w.grownBy w4 (some mb)) :
    w4.heap[kb]? = some (.cells #[.map (some mb)] 102 (0, 0)) ∧ w4.heap[ob]? = some (.cells #[v] 30 (0, 0)) ∧ w4.ownsRow z TS 1 v l.length (l.map sv) ∧ NamesM w4 mb (l ++ [n]).length (l ++ [n]) ∧ Below z w w4 ∧ NoteAt kb ob nk w4 ∧ SameT 118 w w4 := by
  obtain ⟨es, c0, hm⟩ := hm
  have hk : ∀ {k : Nat} {c : Array Value} {t : TypeId} {fr : Nat × Nat}, w.heap[k]? = some (.cells c t fr) → w4.heap[k]? = some (.cells c t fr) := fun {k c t fr} h => (hg.block k (lt_heap h) (by intro e; injection e with e; subst e; rw [hm] at h; cases h)).trans h
  refine ⟨hk h4, hk h6, ?_, ⟨th, ?_⟩, below_map hg (lt_heap hm) h3, hk hnk, fun b c fr U _ e => hk e⟩
  · obtain ⟨e1, e2⟩ := h7
    refine ⟨e1, ?_⟩
    rcases e2 with e2 | ⟨g, cap, cur, e2, e3, e4, e5⟩
    · exact .inl e2
    · exact .inr ⟨g, cap, cur, e2, e3, hk e4, e5⟩
  · rw [List.length_append]
    refine hM.congr (fun k => ?_) (fun _ => rfl)
    by_cases e : k = n <;> simp [e]
theorem VarsSt.grown {z kb ob mb g cap nk : Nat} {l : List Str} {n : Str} {v : Value} {w w4 w5 : World} (h1 : z ≤ kb) (h2 : z ≤ ob) (h3 : z ≤ mb) (h4 : w4.heap[kb]? = some (.cells #[.map (some mb)] 102 (0, 0))) (h6 : w4.heap[ob]? = some (.cells #[v] 30 (0, 0))) (h7 : w4.ownsRow z TS 1 v l.length (l.map sv)) (h5 : NamesM w4 mb (l ++ [n]).length (l ++ [n])) (hB : Below z w w4) (hzw : z ≤ w4.heap.size) (hnk : NoteAt kb ob nk w4) (hS : SameT 118 w w4) (hbz : Base.b ≤ z)
    (ho : w5.ownsRow z TS 1 (.slice (some ⟨g, 0, none⟩) (l.length + 1) cap) (l.length + 1) (l.map sv ++ [sv n])) (hg : w4.grownBy w5 v.ownBlock) :
    w5.heap[ob]? = some (.cells #[v] 30 (0, 0)) ∧ VarsSt z kb ob nk (l ++ [n]) (w5.setCell ⟨ob, 0, none⟩ (.slice (some ⟨g, 0, none⟩) (l.length + 1) cap)) ∧ Below z w (w5.setCell ⟨ob, 0, none⟩ (.slice (some ⟨g, 0, none⟩) (l.length + 1) cap)) ∧ SameT 118 w (w5.setCell ⟨ob, 0, none⟩ (.slice (some ⟨g, 0, none⟩) (l.length + 1) cap)) := by
  obtain ⟨th, hM⟩ := h5
  obtain ⟨es, c0, hm⟩ := hM.isMap
  have k6 := (hg.block ob (lt_heap h6) (own_off h7 h6 (by intro c fr h; injection h with _ h; exact absurd h (by decide)))).trans h6
  have k4 := (hg.block kb (lt_heap h4) (own_off h7 h4 (by intro c fr h; injection h with _ h; exact absurd h (by decide)))).trans h4
  have km := hg.block mb (lt_heap hm) (own_off h7 hm (by intro c fr h; cases h))
  have kn := (hg.block nk (lt_heap hnk) (own_off h7 hnk (by intro c fr h; injection h with _ h; exact absurd h (by decide)))).trans hnk
  have hon : nk ≠ ob := by
    intro e
    subst e
    unfold NoteAt at hnk
    rw [hnk] at h6
    injection h6 with h6
    injection h6 with _ h6
    exact absurd h6 (by decide)
  have hok : kb ≠ ob := by
    intro e
    subst e
    rw [h4] at h6
    injection h6 with h6
    injection h6 with _ h6
    exact absurd h6 (by decide)
  have hom : mb ≠ ob := by
    intro e
    subst e
    rw [hm] at h6
    cases h6
  have hgo : g ≠ ob := by
    rcases ho.2 with ⟨e, _⟩ | ⟨g', cap', cur, e, _, hh, _⟩
    · cases e
    · injection e with e
      injection e with e
      injection e with e
      subst e
      rintro rfl
      rw [k6] at hh
      injection hh with hh
      injection hh with _ hh
      exact absurd hh (by decide)
  refine ⟨k6, ⟨h1, h2, ⟨mb, h3, (set_ne hok.symm _).trans k4, ⟨th, hM.block ((set_ne hom.symm _).trans km)⟩⟩, (set_ne hon.symm _).trans kn, ⟨_, set1c k6 _, ?_⟩⟩, ?_, ?_⟩
  · rw [List.length_append, List.map_append]
    obtain ⟨e1, e2⟩ := ho
    refine ⟨e1, ?_⟩
    rcases e2 with e2 | ⟨g', cap', cur, e2, e3, e4, e5⟩
    · exact .inl e2
    · injection e2 with e2 e6 e7
      injection e2 with e2
      injection e2 with e2
      subst e2
      subst e7
      exact .inr ⟨_, _, cur, rfl, e3, (set_ne hgo.symm _).trans e4, e5⟩
  · exact (hB.trans (Below.of_grown hg h7 hzw)).setCell (p := ⟨ob, 0, none⟩) h2 _
  · exact (hS.trans (SameT.grown hg h7 (by decide) hbz)).trans (SameT.setCell (U := 30) (tyAt_of k6 (Nat.le_trans hbz h2)) (by decide))
set_option maxRecDepth 100000 in
set_option maxHeartbeats 2000000 in
theorem vars1_any (z kb ob nk : Nat) (hbz : Base.b ≤ z) (l : List Str) (n : Str) (w : World) (h : VarsSt z kb ob nk l w) (hn : n.length ≤ 1000) (hl : l.length ≤ 1000000) :
    Calls Tryz.prog 75 #[sv n, .pointer (some ⟨kb, 0, none⟩), .pointer (some ⟨ob, 0, none⟩)] w (fun e w' => e = .returned (.tuple #[]) ∧ VarsSt z kb ob nk (noteP l n) w' ∧ Below z w w' ∧ SameT 118 w w') := by
  obtain ⟨h1, h2, ⟨mb, h3, h4, h5⟩, hnk, ⟨v, h6, h7⟩⟩ := h
  have HNK := Lib.hid hnk
  clear hnk
  obtain ⟨a, c, rfl, hc1, hc2⟩ := own_slice h7
  have zw : z ≤ w.heap.size := by have := lt_heap h4; omega
  have hlk := h5.look (x := n) (by unfold maxLen; omega)
  have k0 := (blk_cells h4).1 0
  have o0 := (blk_cells h6).1 0
  have kf := (blk_cells h4).2 0
  have of' := (blk_cells h6).2 0
  simp at k0 o0
  have H4 := Lib.hid h4
  have H5 := Lib.hid h5
  have H6 := Lib.hid h6
  have H7 := Lib.hid h7
  obtain ⟨q, hq⟩ : ∃ q, l.contains n = q := ⟨_, rfl⟩
  rw [hq] at hlk
  clear h4 h5 h6 h7
  by_cases hne : n = []
  · subst hne
    have HF := Lib.hid (show VarsSt z kb ob nk (noteP l []) w by rw [show noteP l [] = l from rfl]; exact ⟨h1, h2, ⟨mb, h3, H4.out, H5.out⟩, HNK.out, ⟨_, H6.out, H7.out⟩⟩)
    go_enter Tryz.func75, Tryz.ntmps75
    go_wp2
    exact bodyPost_end (v := .tuple #[]) (by simp [results, Tryz.results75, go_sem]) rfl ⟨rfl, HF.out, (Below.refl _ _).mono zw, SameT.refl⟩
  · have hie : List.isEmpty n = false := by cases n <;> simp_all
    have HN := Lib.hid (show noteP l n = if q = true then l else l ++ [n] by unfold noteP; rw [hie, hq]; simp)
    clear hne hq
    cases q with
    | true =>
      have HF := Lib.hid (show VarsSt z kb ob nk (noteP l n) w by rw [HN.out]; exact ⟨h1, h2, ⟨mb, h3, H4.out, H5.out⟩, HNK.out, ⟨_, H6.out, H7.out⟩⟩)
      go_enter Tryz.func75, Tryz.ntmps75
      go_wp2
      exact bodyPost_end (v := .tuple #[]) (by simp [results, Tryz.results75, go_sem]) rfl ⟨rfl, HF.out, (Below.refl _ _).mono zw, SameT.refl⟩
    | false =>
      go_enter Tryz.func75, Tryz.ntmps75
      obtain ⟨th, hth⟩ := H5.out
      have HTH := Lib.hid hth
      have HNL := Lib.hid (show n.length ≤ maxLen by unfold maxLen; omega)
      have hml := hth.lt
      have HMI := Lib.hid hth.isMap
      clear hth
      go_upto_region 2 with (at_mapUpdate; refine wpList_storeG (Ky := strK) boolEnc rfl _ _ _ _ rfl und_msb rfl HTH.out (by unfold maxLen; omega) (k := n) rfl HNL.out true rfl ?_; intro w4 hm hg; have HM4 := Lib.hid hm; have HG4 := Lib.hid hg; clear hm hg)
      obtain ⟨M4, M6, M7, M5, MB, MN, MS⟩ := VarsSt.mapped H4.out H6.out H7.out HMI.out h3 HNK.out HM4.out HG4.out
      have zw4 : z ≤ w4.heap.size := by have := lt_heap M4; omega
      have A5 := Lib.hid (fun (g cap : Nat) (w5 : World) ho hg => VarsSt.grown (w := w) (w5 := w5) (g := g) (cap := cap) h1 h2 h3 M4 M6 M7 M5 MB zw4 MN MS hbz ho hg)
      have M7 := Lib.hid M7
      have o1 := (blk_cells M6).1 0
      simp at o1
      clear HM4 HG4 HTH hlk k0 o0 kf of' M4 M6 M5 MB MN MS H4 H5 H6 H7
      go_wp2_with (at_builtin; refine wpList_push [sv n] rfl _ _ _ rfl z TS _ 1 16 Tryz.underlying30 info_str rfl (by omega) _ _ _ M7.out rfl rfl rfl rfl (by unfold maxLen; omega) (by omega) zw4 ?_; intro g cap w5 ho hg _ _; have A6 := Lib.hid (A5.out g cap w5 ho hg); have o5 := (blk_cells A6.out.1).1 0; have f5 := (blk_cells A6.out.1).2 0; simp at o5; clear ho hg o1)
      exact bodyPost_end (v := .tuple #[]) (by simp [results, Tryz.results75, go_sem]) rfl ⟨rfl, by rw [HN.out]; exact A6.out.2.1, A6.out.2.2.1, A6.out.2.2.2⟩
theorem nameB_len {x : Str} (h : nameB x = true) : x.length ≤ 1000 := by
  unfold nameB at h
  simp only [Bool.and_eq_true, decide_eq_true_eq] at h
  omega
theorem note_len (out : List Str) (n : Str) : (noteP out n).length ≤ out.length + 1 := by
  unfold noteP
  split <;> simp
theorem notes_len : ∀ (l out : List Str), (l.foldl noteP out).length ≤ out.length + l.length
  | [], out => by simp
  | x :: r, out => by
    have h1 := notes_len r (noteP out x)
    have h2 := note_len out x
    simp only [List.foldl_cons, List.length_cons]
    omega
theorem stmt_len {s : PStmt} (h : stmtB s = true) : s.uses.length ≤ 4 ∧ (∀ u ∈ s.uses, u.length ≤ 1000) := by
  obtain ⟨h1, h2⟩ := stmtB_uses h
  exact ⟨h2, fun u hu => nameB_len (h1 u hu)⟩
theorem stmt_dlen {s : PStmt} (h : stmtB s = true) : s.dfn.length ≤ 1000 := by
  rw [stmtB_eq] at h
  unfold stmtP2 at h
  simp only [Bool.and_eq_true, Bool.or_eq_true] at h
  obtain ⟨-, hd, -, -, -, hn⟩ := h
  cases e : dfnB s.op
  · rw [e] at hd
    have : s.dfn = [] := by simpa using hd
    rw [this]; simp
  · rw [List.all_eq_true] at hn
    exact nameB_len (hn s.dfn (by unfold namesOf; rw [e]; simp))
set_option maxRecDepth 100000 in
set_option maxHeartbeats 2000000 in
theorem vars2_any {z kb ob nk : Nat} {w0 w : World} (hz : w0.heap.size = z) (b0 : Below z w0 w) (hbz : Base.b ≤ z) (l : List Str) (s : PStmt) (u t : Value) (h : VarsSt z kb ob nk l w) (hu : StrsAt w0 u s.uses) (ht : ∃ a n c, t = .slice a n c) (hd : s.dfn.length ≤ 1000) (hus : ∀ x ∈ s.uses, x.length ≤ 1000) (hn : s.uses.length ≤ 4) (hl : l.length ≤ 100000) :
    Calls Tryz.prog 76 #[.agg #[iv s.op, sv s.dfn, u, t], .pointer (some ⟨nk, 0, none⟩)] w (fun e w' => e = .returned (.tuple #[]) ∧ VarsSt z kb ob nk (noteS l s) w' ∧ Below z w w') := by
  obtain ⟨op, d, us, ts⟩ := s
  obtain ⟨ta, tn, tc, rfl⟩ := ht
  obtain ⟨ua, uc, rfl, -, hc⟩ := hu.cell
  obtain ⟨un, hun⟩ : ∃ n, us.length = n := ⟨_, rfl⟩
  simp only at hun hu hc hd hus hn ⊢
  rw [hun] at hn ⊢
  have zw : z ≤ w.heap.size := by have := b0.size; omega
  have HC := Lib.hid hc
  have HU := Lib.hid hun
  have A1 := (Below.refl w.heap.size w).alloc (Nat.le_refl _) (.cells #[iv op, sv d, .slice ua un uc, .slice ta tn tc] 118)
  have V0 := Lib.hid (h.below A1)
  have hb0 := Lib.hid (heap_alloc_new w (.cells #[iv op, sv d, .slice ua un uc, .slice ta tn tc] 118))
  obtain ⟨W, hW⟩ : ∃ W, w.alloc (.cells #[iv op, sv d, .slice ua un uc, .slice ta tn tc] 118) = W := ⟨_, rfl⟩
  have HW := Lib.hid hW
  have B0 := Lib.hid (hW ▸ A1)
  rw [hW] at V0 hb0
  obtain ⟨sb, hsb⟩ : ∃ b, w.heap.size = b := ⟨_, rfl⟩
  have HSB := Lib.hid hsb
  rw [hsb] at hb0 B0
  have K := Lib.hid (fun (l : List Str) (n : Str) (x : World) (h : VarsSt z kb ob nk l x) (hn : n.length ≤ 1000) (hl : l.length ≤ 1000000) => vars1_any z kb ob nk hbz l n x h hn hl)
  have HL1 := Lib.hid hl
  have HUS := Lib.hid hus
  have HZ0 := Lib.hid b0
  clear hW hsb hu hc hun h A1 hl hus b0
  go_enter Tryz.func76, Tryz.ntmps76
  go_upto_region 1 with (fail)
  rw [show w.alloc (.cells #[iv op, sv d, .slice ua un uc, .slice ta tn tc] 118) = W from HW.out, HSB.out]
  obtain ⟨s0, s1, s2, s3⟩ := cells4s hb0.out
  have n0 := (blk_cells V0.out.note).1 0
  simp at n0
  go_wp2_with fail
  refine (K.out l d W V0.out hd (Nat.le_trans HL1.out (by omega))).mono ?_
  rintro e w1 ⟨rfl, V1, b1, t1⟩
  have B1 := Lib.hid ((B0.out.mono (show z ≤ sb by have := HSB.out; omega)).trans b1)
  have hb1 := Lib.hid (t1.own hb0.out)
  have HV1 := Lib.hid V1
  have zw1 : z ≤ w1.heap.size := by have := B1.out.size; omega
  clear V1 b1 t1 s0 s1 s2 s3 n0 B0 V0
  obtain ⟨s0, s1, s2, s3⟩ := cells4s hb1.out
  go_wp2
  clear s0 s1 s2 s3
  go_loopw [12] (fun x wr => ∃ k : Nat, k ≤ un ∧ x = .int .i64 k ∧ Hid (Below z w wr) ∧ Hid (VarsSt z kb ob nk ((us.take k).foldl noteP (noteP l d)) wr)) (fun x _ => un - (intOf x).toNat)
  case atStart => exact ⟨0, Nat.zero_le _, rfl, B1, HV1⟩
  case round =>
    obtain ⟨k, hk, rfl, HB, HV⟩ := hrel
    by_cases hlt : k < un
    · obtain ⟨x, hx⟩ : ∃ x, us[k]? = some x := ⟨_, List.getElem?_eq_getElem (show k < us.length by rw [HU.out]; exact hlt)⟩
      obtain ⟨b1, o1, rfl, hb1, g1⟩ := HC.out k x hx
      have g1 := ((HZ0.out.trans HB.out).cell (p := ⟨b1, o1 + k, none⟩) (by show b1 < z; omega)).trans g1
      have n0 := (blk_cells HV.out.note).1 0
      simp at n0
      have KK := Lib.hid (K.out _ x wr HV.out (HUS.out x (List.mem_of_getElem? hx)) (by have h1 := notes_len (us.take k) (noteP l d); have h2 := note_len l d; have h3 := HL1.out; rw [List.length_take] at h1; omega))
      have HE := Lib.hid (show noteP ((us.take k).foldl noteP (noteP l d)) x = (us.take (k + 1)).foldl noteP (noteP l d) by rw [List.take_add_one, hx, List.foldl_append]; rfl)
      clear hx
      go_wp2_with fail
      refine KK.out.mono ?_
      rintro e w2 ⟨rfl, V2, b2, -⟩
      have HB2 := Lib.hid (HB.out.trans b2)
      have HV2 := Lib.hid (HE.out ▸ V2)
      clear V2 b2 n0 g1 HB HV KK
      go_wp2
      go_roundw
      case rel => exact ⟨k + 1, by omega, by go_num, HB2, HV2⟩
      case measure => simp [intOf]; omega
    · have HF := Lib.hid (show VarsSt z kb ob nk (noteS l ⟨op, d, us, ts⟩) wr by unfold noteS; rw [List.foldl_cons, ← show us.take k = us from List.take_of_length_le (by rw [HU.out]; omega)]; exact HV.out)
      go_wp2
      exact bodyPost_end (v := .tuple #[]) (by simp [results, Tryz.results76, go_sem]) rfl ⟨rfl, HF.out, HB.out⟩
end Go.Proofs.YtipnhmdibkkifaaGreatDoor
set_option linter.unusedVariables false
set_option linter.unusedSimpArgs false
set_option linter.unusedSectionVars false
namespace Go.Proofs.YtipnhmdibkkifaaGreatDoor
open Go.RowKit
variable [Base]
set_option maxRecDepth 100000 in
set_option maxHeartbeats 8000000 in
theorem each_vars {B z : Nat} (nb : Nat) {w0 w : World} (kw : KwIn B w0) (hB : B ≤ w0.heap.size) (hz : w0.heap.size = z) (p : List PFunc) (v : Value) (h : FuncsAt w0 v p) (hv : validB p = true) (hf : ∀ f ∈ p, ∀ b ∈ f.blocks, ∀ s ∈ b.stmts, FitS s) (b0 : Below z w0 w)
    (St : List PStmt → World → Prop) (HA : ∀ d x y, St d x → Below x.heap.size x y → St d y)
    (HS : ∀ (d : List PStmt) (s : PStmt) (r : List PStmt) (u t : Value) (x : World), stmtsP p = d ++ s :: r → St d x → Below z w0 x → StrsAt w0 u s.uses → (∃ a n c, t = .slice a n c) →
      Calls Tryz.prog 76 #[.agg #[iv s.op, sv s.dfn, u, t], .pointer (some ⟨nb, 0, none⟩)] x (fun e y => e = .returned (.tuple #[]) ∧ St (d ++ [s]) y ∧ Below z x y))
    (s0 : St [] w) :
    Calls Tryz.prog 73 #[.agg #[v], .func (.func 76) #[] #[.pointer (some ⟨nb, 0, none⟩)]] w (fun e y => e = .returned (.tuple #[]) ∧ St (stmtsP p) y ∧ Below z w0 y) := by
  have zw : z ≤ w.heap.size := by have := b0.size; omega
  have C0 := (Below.refl w.heap.size w).alloc (Nat.le_refl _) (.cells #[v] 48)
  have B0 := b0.trans (C0.mono zw)
  have HV := Lib.hid (pvalidp_any (w := w.alloc (.cells #[v] 48)) (kw.keep fun k hk => B0.block k (by omega)) (by simp; omega) p v (h.keep (SameT.below (hz ▸ B0)) (SameT.below (hz ▸ B0)) (SameT.below (hz ▸ B0)) (SameT.below (hz ▸ B0))) hf)
  rw [hv] at HV
  have S0 := Lib.hid (HA _ _ _ s0 C0)
  have HHA := Lib.hid HA
  have HHS := Lib.hid HS
  obtain ⟨a, c, rfl, hn, hc⟩ := h.cell
  obtain ⟨n, hl⟩ : ∃ n, p.length = n := ⟨_, rfl⟩
  rw [hl] at hn HV S0 ⊢
  have n8 : n ≤ 8 := by have := (valid_few hv).1; omega
  have HL := Lib.hid hl
  have HC := Lib.hid hc
  have HF := Lib.hid hf
  have HW := Lib.hid (valid_few hv)
  rw [hl] at B0
  have HB0 := Lib.hid B0
  have hbs : Base.b ≤ z := by have := kw.bs; omega
  clear h hc kw B0 hl hf b0 hv C0 s0 HA HS hn
  go_enter Tryz.func73, Tryz.ntmps73
  go_wp2_with fail
  refine HV.out.mono ?_
  rintro e w1 ⟨rfl, b⟩
  have p0 : w1.heap[w.heap.size]? = some (.cells #[.slice a n c] 48 (0, 0)) := (b.block w.heap.size (by simp)).trans (heap_alloc_new _ _)
  have S1 := Lib.hid (HHA.out _ _ _ S0.out b)
  have hsz := b.size
  simp at hsz
  have B1 := Lib.hid (HB0.out.trans (b.mono (by simp; omega)))
  obtain ⟨bp, hbp⟩ : ∃ k, w.heap.size = k := ⟨_, rfl⟩
  rw [hbp] at p0 hsz zw
  rw [hbp]
  have HP := Lib.hid p0
  have q0 := (blk_cells p0).1 0
  simp at q0
  clear b p0 hbp HB0 S0 HV
  go_wp2
  clear q0
  go_loopw [16] (fun x wr => ∃ i : Nat, i ≤ n ∧ x = .int .i64 i ∧ Hid (Below z w0 wr) ∧ z ≤ wr.heap.size ∧ Hid (St (stmtsP (p.take i)) wr)) (fun x _ => n - (intOf x).toNat)
  case atStart => exact ⟨0, Nat.zero_le _, rfl, B1, by omega, S1⟩
  case round =>
    obtain ⟨i, hi, rfl, HB, hzr, HSt⟩ := hrel
    by_cases hlt : i < n
    · obtain ⟨f, hf2⟩ : ∃ f, p[i]? = some f := ⟨_, List.getElem?_eq_getElem (show i < p.length by have := HL.out; omega)⟩
      obtain ⟨fb, off, bv, rfl, hfb, g0, g1, hbl⟩ := HC.out i f hf2
      have g0 := (HB.out.cell (p := ⟨fb, off + i * 2, none⟩) (by show fb < z; omega)).trans g0
      have g1 := (HB.out.cell (p := ⟨fb, off + i * 2 + 1, none⟩) (by show fb < z; omega)).trans g1
      obtain ⟨ba, bc, rfl, hbn, hbc⟩ := hbl.cell
      have HBC := Lib.hid hbc
      obtain ⟨bn, hbl2⟩ : ∃ n, f.blocks.length = n := ⟨_, rfl⟩
      rw [hbl2] at hbn g1
      have b16 : bn ≤ 16 := by have := (HW.out.2 f (List.mem_of_getElem? hf2)).1; omega
      have HBL := Lib.hid hbl2
      have HFI := Lib.hid hf2
      clear hf2 hbl hbc hbl2 hbn
      have A1 := (Below.refl wr.heap.size wr).alloc (Nat.le_refl _) (.cells #[sv f.name, .slice ba bn bc] 74)
      have HB2 := Lib.hid (HB.out.trans (A1.mono hzr))
      have HS2 := Lib.hid (show St (stmtsP (p.take i) ++ stmtsBs (f.blocks.take 0)) (wr.alloc (.cells #[sv f.name, .slice ba bn bc] 74)) by rw [show stmtsP (p.take i) ++ stmtsBs (f.blocks.take 0) = stmtsP (p.take i) by simp [stmtsBs]]; exact HHA.out _ _ _ HSt.out A1)
      clear A1 HB HSt
      go_wp2
      clear g0 g1
      go_loopw [23] (fun x wi => ∃ k : Nat, k ≤ bn ∧ x = .int .i64 k ∧ Hid (Below z w0 wi) ∧ z ≤ wi.heap.size ∧ Hid (St (stmtsP (p.take i) ++ stmtsBs (f.blocks.take k)) wi)) (fun x _ => bn - (intOf x).toNat)
      case atStart => exact ⟨0, Nat.zero_le _, rfl, HB2, by simp; omega, HS2⟩
      case round =>
        obtain ⟨k, hk, rfl, HB, hzi, HSt⟩ := hrel
        by_cases hlt2 : k < bn
        · obtain ⟨b, hb⟩ : ∃ b, f.blocks[k]? = some b := ⟨_, List.getElem?_eq_getElem (show k < f.blocks.length by have := HBL.out; omega)⟩
          obtain ⟨kb, koff, sv1, rfl, hkb, g0, g1, hsl⟩ := HBC.out k b hb
          have g0 := (HB.out.cell (p := ⟨kb, koff + k * 2, none⟩) (by show kb < z; omega)).trans g0
          have g1 := (HB.out.cell (p := ⟨kb, koff + k * 2 + 1, none⟩) (by show kb < z; omega)).trans g1
          obtain ⟨sa, sc, rfl, hsn, hsc⟩ := hsl.cell
          have HSC := Lib.hid hsc
          obtain ⟨sn, hsl2⟩ : ∃ n, b.stmts.length = n := ⟨_, rfl⟩
          rw [hsl2] at hsn g1
          have s32 : sn ≤ 32 := by have := (HW.out.2 f (List.mem_of_getElem? HFI.out)).2 b (List.mem_of_getElem? hb); omega
          have HSL := Lib.hid hsl2
          have HBI := Lib.hid hb
          clear hb hsl hsc hsl2 hsn
          have A1 := (Below.refl wr.heap.size wr).alloc (Nat.le_refl _) (.cells #[sv b.name, .slice sa sn sc] 99)
          have HB3 := Lib.hid (HB.out.trans (A1.mono hzi))
          have HS3 := Lib.hid (show St (stmtsP (p.take i) ++ stmtsBs (f.blocks.take k) ++ b.stmts.take 0) (wr.alloc (.cells #[sv b.name, .slice sa sn sc] 99)) by rw [List.take_zero, List.append_nil]; exact HHA.out _ _ _ HSt.out A1)
          clear A1 HB HSt
          go_wp2
          clear g0 g1
          go_loopw [30] (fun x wi => ∃ j : Nat, j ≤ sn ∧ x = .int .i64 j ∧ Hid (Below z w0 wi) ∧ z ≤ wi.heap.size ∧ Hid (St (stmtsP (p.take i) ++ stmtsBs (f.blocks.take k) ++ b.stmts.take j) wi)) (fun x _ => sn - (intOf x).toNat)
          case atStart => exact ⟨0, Nat.zero_le _, rfl, HB3, by simp; omega, HS3⟩
          case round =>
            obtain ⟨j, hj, rfl, HB, hzj, HSt⟩ := hrel
            by_cases hlt3 : j < sn
            · obtain ⟨s, hs⟩ : ∃ s, b.stmts[j]? = some s := ⟨_, List.getElem?_eq_getElem (show j < b.stmts.length by have := HSL.out; omega)⟩
              obtain ⟨b4, o4, u, t, rfl, hb4, c0, c1, c2, c3, hu, ht⟩ := HSC.out j s hs
              obtain ⟨ua, uc, rfl, -⟩ := hu.cell
              obtain ⟨ta, tc, rfl, -⟩ := ht.cell
              obtain ⟨un, hun⟩ : ∃ n, s.uses.length = n := ⟨_, rfl⟩
              obtain ⟨tn, htn⟩ : ∃ n, s.targets.length = n := ⟨_, rfl⟩
              rw [hun] at hu c2
              rw [htn] at ht c3
              obtain ⟨r, hsp⟩ := stmtsP_split HFI.out HBI.out hs
              have c0 := (HB.out.cell (p := ⟨b4, o4 + j * 4, none⟩) (by show b4 < z; omega)).trans c0
              have c1 := (HB.out.cell (p := ⟨b4, o4 + j * 4 + 1, none⟩) (by show b4 < z; omega)).trans c1
              have c2 := (HB.out.cell (p := ⟨b4, o4 + j * 4 + 2, none⟩) (by show b4 < z; omega)).trans c2
              have c3 := (HB.out.cell (p := ⟨b4, o4 + j * 4 + 3, none⟩) (by show b4 < z; omega)).trans c3
              have A1 := (Below.refl wr.heap.size wr).alloc (Nat.le_refl _) (.cells #[iv s.op, sv s.dfn, .slice ua un uc, .slice ta tn tc] 118)
              have HB4 := Lib.hid (HB.out.trans (A1.mono hzj))
              have K := Lib.hid (HHS.out _ s r (.slice ua un uc) (.slice ta tn tc) (wr.alloc (.cells #[iv s.op, sv s.dfn, .slice ua un uc, .slice ta tn tc] 118)) hsp (HHA.out _ _ _ HSt.out A1) HB4.out hu ⟨_, _, _, rfl⟩)
              have HE := Lib.hid (show stmtsP (p.take i) ++ stmtsBs (f.blocks.take k) ++ b.stmts.take j ++ [s] = stmtsP (p.take i) ++ stmtsBs (f.blocks.take k) ++ b.stmts.take (j + 1) by rw [List.take_add_one, hs]; simp)
              have zw2 : z ≤ (wr.alloc (.cells #[iv s.op, sv s.dfn, .slice ua un uc, .slice ta tn tc] 118)).heap.size := by simp; omega
              clear A1 HB HSt hu ht hun htn hsp hs
              go_wp2_with fail
              refine K.out.mono ?_
              rintro e w2 ⟨rfl, S2, b2⟩
              have HB5 := Lib.hid (HB4.out.trans b2)
              have HSt := Lib.hid (HE.out ▸ S2)
              have hz2 : z ≤ w2.heap.size := Nat.le_trans zw2 b2.size
              clear S2 b2 K zw2
              go_wp2
              go_roundw
              case rel => exact ⟨j + 1, by omega, by go_num, HB5, hz2, HSt⟩
              case measure => simp [intOf]; omega
            · have HSt := Lib.hid (show St (stmtsP (p.take i) ++ stmtsBs (f.blocks.take (k + 1))) wr by rw [stmtsBs_take HBI.out, ← List.append_assoc, ← show b.stmts.take j = b.stmts from List.take_of_length_le (by rw [HSL.out]; omega)]; exact HSt.out)
              go_wp2
              go_roundw
              case rel => exact ⟨k + 1, by omega, by go_num, HB, hzj, HSt⟩
              case measure => simp [intOf]; omega
        · have HSt := Lib.hid (show St (stmtsP (p.take (i + 1))) wr by rw [stmtsP_take HFI.out, show stmtsF f = stmtsBs (f.blocks.take k) by rw [List.take_of_length_le (by rw [HBL.out]; omega)]; rfl]; exact HSt.out)
          go_wp2
          go_roundw
          case rel => exact ⟨i + 1, by omega, by go_num, HB, hzi, HSt⟩
          case measure => simp [intOf]; omega
    · have HSt := Lib.hid (show St (stmtsP p) wr by rw [← show p.take i = p from List.take_of_length_le (by rw [HL.out]; omega)]; exact HSt.out)
      go_wp2
      exact bodyPost_end (v := .tuple #[]) (by simp [results, Tryz.results73, go_sem]) rfl ⟨rfl, HSt.out, HB.out⟩
end Go.Proofs.YtipnhmdibkkifaaGreatDoor
