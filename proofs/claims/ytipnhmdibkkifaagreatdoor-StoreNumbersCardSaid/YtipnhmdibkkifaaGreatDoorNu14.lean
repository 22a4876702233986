/- A part of the proof. -/
import Derived.Test.YtipnhmdibkkifaaGreatDoorNu13
import Derived.Test.YtipnhmdibkkifaaGreatDoorNu02
import Derived.DeepKeys4
import Derived.Test.YtipnhmdibkkifaaGreatDoorNu05
import Derived.Test.YtipnhmdibkkifaaGreatDoorNu03
import Derived.IntWalk
import Derived.Shelf.Spec.TrailingZeros
import Derived.Lib.LaidTab
import Derived.Lib.TrailingZeros
import Derived.Test.YtipnhmdibkkifaaGreatDoorNu00
import Derived.Laws.CopyOwn
import Derived.Test.YtipnhmdibkkifaaGreatDoorNu04
import Derived.Laws.NewBlocks
import Derived.WalkLawsBesides
import Derived.BigQuiet
import Derived.Deep.RegionHeld3
import Derived.Test.YtipnhmdibkkifaaGreatDoorNu01
import Derived.Test.YtipnhmdibkkifaaGreatDoorNu07
set_option linter.unusedVariables false
set_option linter.unusedSimpArgs false
set_option linter.unusedVariables false
set_option linter.unusedSimpArgs false
set_option linter.unusedSectionVars false
namespace Go.Proofs.YtipnhmdibkkifaaGreatDoor
open Go.RowKit
variable [Base]
theorem laid_out : laidOutB Tryz.prog = true := by kernel_rfl
theorem node_wide : (match Tryz.prog.underlying NT with | some (.array _ _) | some (.struct _) => true | _ => false) = true := by kernel_rfl
theorem node_row : (NT : TypeId) < Tryz.prog.types.size := of_decide_eq_true (by kernel_rfl)
theorem node_kt : Tryz.prog.keyTypeAt 3 NT = true := by kernel_rfl
theorem node_ktt : Tryz.prog.keyType NT = true := by kernel_rfl
theorem node_cells : Tryz.prog.cellsOf NT = 4 := by kernel_rfl
theorem int_cells : Tryz.prog.cellsOf 3 = 1 := by kernel_rfl
set_option maxRecDepth 100000 in
theorem node_law : WideMaps.KeyLaw Tryz.prog NT := deep_law_laid laid_out (m := 3) (by omega) node_row node_kt node_wide
theorem node_keyed : Maps.Keyed Tryz.prog NT := Maps.Keyed.of_law node_law
def fitI (x : Int) : Prop := -4611686018427387904 ≤ x ∧ x ≤ 4611686018427387904
def fitN (n : PNode) : Prop := fitI n.kind ∧ fitI n.fn ∧ fitI n.bl ∧ fitI n.st
theorem wf_fit {x : Int} (h : fitI x) : (Lit.int .i64 x).wf = true := by
  unfold fitI at h
  unfold Lit.wf
  simp [IntKind.min, IntKind.max, IntKind.bits, IntKind.signed]
  omega
theorem lits_int {x : Int} (h : fitI x) (d : Nat) : Tryz.prog.keyLits (d + 1) 3 [iv x] = some [.int .i64 x] := by
  unfold Program.keyLits
  rw [Tryz.underlying3]
  simp [wf_fit h]
theorem node_key (n : PNode) (h : fitN n) : ∃ l, keyOf Tryz.prog NT (nodeA n) = some l := by
  obtain ⟨a, b, c, d⟩ := n
  obtain ⟨h1, h2, h3, h4⟩ := h
  obtain ⟨k, hk⟩ : ∃ k, Tryz.prog.types.size = k + 1 := Nat.exists_eq_succ_of_ne_zero (Nat.ne_of_gt (Nat.lt_of_le_of_lt (Nat.zero_le _) node_row))
  have e : Tryz.prog.keyLits (Tryz.prog.types.size + 1) NT [iv a, iv b, iv c, iv d] = some [.int .i64 a, .int .i64 b, .int .i64 c, .int .i64 d] := by
    rw [hk]
    unfold Program.keyLits
    rw [Tryz.underlying80]
    simp [node_cells, int_cells, lits_int h1, lits_int h2, lits_int h3, lits_int h4]
  refine ⟨.string (keyBytes [.int .i64 a, .int .i64 b, .int .i64 c, .int .i64 d]), ?_⟩
  unfold keyOf nodeA
  rw [Tryz.underlying80]
  have hf : (Value.agg #[iv a, iv b, iv c, iv d]).formed Tryz.prog NT = true := by
    unfold Value.formed
    rw [Tryz.underlying80]
    simp [node_cells]
  simp only [node_ktt, hf, Bool.and_self, if_true]
  show ((Tryz.prog.keyLits (Tryz.prog.types.size + 1) NT [iv a, iv b, iv c, iv d]).map fun ls => Lit.string (keyBytes ls)) = _
  rw [e]
  rfl
noncomputable def nodeKey : KeyE Tryz.prog NT PNode where
  enc := nodeA
  ok := fitN
  keyed := node_keyed
  of := node_key
  inj := fun a b h => by
    obtain ⟨a1, a2, a3, a4⟩ := a
    obtain ⟨b1, b2, b3, b4⟩ := b
    unfold nodeA at h
    simp only [Value.agg.injEq] at h
    simpa using h
theorem und_mni : Tryz.prog.underlying 112 = some (.map NT 3) := Tryz.underlying112
theorem zeroI (w : World) : (zeroValue 3).run Tryz.prog w = .ok (.int .i64 0) w := by kernel_rfl
def numN (N : List PNode) (n : PNode) : Int := if n ∈ N then idxI N n else 0
def NumM (w : World) (b n : Nat) (N : List PNode) : Prop := ∃ th, MapG nodeKey intEnc w b n (numN N) th
theorem NumM.below {w w' : World} {b n : Nat} {l : List PNode} (h : NumM w b n l) (hb : Below w.heap.size w w') : NumM w' b n l := by
  obtain ⟨th, h⟩ := h
  exact ⟨th, h.below hb⟩
theorem NumM.lt {w : World} {b n : Nat} {l : List PNode} (h : NumM w b n l) : b < w.heap.size := by
  obtain ⟨th, h⟩ := h
  exact h.lt
theorem NumM.isMap {w : World} {b n : Nat} {l : List PNode} (h : NumM w b n l) : ∃ es c, w.heap[b]? = some (.map es c) := by
  obtain ⟨th, h⟩ := h
  exact h.isMap
theorem NumM.block {w w' : World} {b n : Nat} {l : List PNode} (h : NumM w b n l) (hb : w'.heap[b]? = w.heap[b]?) : NumM w' b n l := by
  obtain ⟨th, h⟩ := h
  exact ⟨th, h.block hb⟩
theorem NumM.look {w : World} {b n : Nat} {l : List PNode} (h : NumM w b n l) {x : PNode} (hx : fitN x) : (Instr.lookup 112 (.map (some b)) (.agg #[iv x.kind, iv x.fn, iv x.bl, iv x.st]) false).run Tryz.prog w = .ok (.int .i64 (numN l x)) w := by
  obtain ⟨th, h⟩ := h
  exact h.look und_mni (zeroI w) hx
theorem numN_nil (n : PNode) : numN [] n = 0 := by simp [numN]
theorem numN_snoc {N : List PNode} {k : Nat} {x : PNode} (hx : N[k]? = some x) (hn : N.Nodup) (q : PNode) : numN (N.take (k + 1)) q = if q = x then (k : Int) else numN (N.take k) q := by
  have ht := take_eq hx
  have e : N.take (k + 1) = N.take k ++ [x] := by rw [List.take_add_one, hx]; rfl
  by_cases h : q = x
  · subst h
    rw [if_pos rfl]
    have hm : q ∈ N.take (k + 1) := by rw [e]; simp
    unfold numN
    rw [if_pos hm]
    exact idxI_first (by rw [e, List.getElem?_append_right (by rw [ht.2]; exact Nat.le_refl _), ht.2]; simp) (by
      rw [e, List.take_append_of_le_length (by rw [ht.2]; exact Nat.le_refl _), List.take_of_length_le (by rw [ht.2]; exact Nat.le_refl _)]
      rw [ht.1] at hn
      intro hm2
      exact (List.nodup_append.1 hn).2.2 q hm2 q (by simp) rfl)
  · rw [if_neg h]
    unfold numN
    by_cases hm : q ∈ N.take k
    · rw [if_pos (by rw [e]; simp [hm]), if_pos hm]
      obtain ⟨j, hj, hjx⟩ := idxI_mem hm
      rw [hj]
      unfold idxI at hj ⊢
      rw [if_pos hm] at hj
      rw [if_pos (by rw [e]; simp [hm]), e, List.idxOf_append, if_pos hm]
      exact hj
    · rw [if_neg (by rw [e]; simp [hm, h]), if_neg hm]
end Go.Proofs.YtipnhmdibkkifaaGreatDoor
set_option linter.unusedVariables false
set_option linter.unusedSimpArgs false
set_option linter.unusedSectionVars false
namespace Go.Proofs.YtipnhmdibkkifaaGreatDoor
open Go.RowKit
variable [Base]
structure StAt (z : Nat) (w : World) (sb bm c : Nat) (n : Int) (L : Loads) : Prop where
  blk : w.heap[sb]? = some (.cells (stC bm n) STT (0, 0))
  map : LdM w bm c L
  zs : z ≤ sb
  zm : z ≤ bm
  lt : ∀ x ∈ L, 0 ≤ x.1 ∧ x.1 < n
  ids : (L.map Prod.snd).Nodup
theorem StAt.ne {z sb bm c : Nat} {w : World} {n : Int} {L : Loads} (h : StAt z w sb bm c n L) : sb ≠ bm := by
  intro e
  obtain ⟨D, ⟨es, clock, h1, _⟩, _⟩ := h.map
  have h2 := h.blk
  rw [e, h1] at h2
  injection h2 with h2
  cases h2
theorem StAt.below {z sb bm c : Nat} {w w' : World} {n : Int} {L : Loads} (h : StAt z w sb bm c n L) (hb : Below w.heap.size w w') : StAt z w' sb bm c n L :=
  ⟨lies_below h.blk hb (lt_heap h.blk), h.map.below hb, h.zs, h.zm, h.lt, h.ids⟩
theorem StAt.zw {z sb bm c : Nat} {w : World} {n : Int} {L : Loads} (h : StAt z w sb bm c n L) : z ≤ w.heap.size := by
  have := lt_heap h.blk
  have := h.zs
  omega
theorem cells7N {b : Nat} {w : World} {v0 v1 v2 v3 v4 v5 v6 : Value} {t : TypeId} (h : w.heap[b]? = some (.cells #[v0, v1, v2, v3, v4, v5, v6] t (0, 0))) :
    w.cell? ⟨b, 0, none⟩ = some v0 ∧ w.cell? ⟨b, 1, none⟩ = some v1 ∧ w.cell? ⟨b, 2, none⟩ = some v2 ∧ w.cell? ⟨b, 3, none⟩ = some v3 ∧ w.cell? ⟨b, 4, none⟩ = some v4 ∧ w.cell? ⟨b, 5, none⟩ = some v5 ∧ w.cell? ⟨b, 6, none⟩ = some v6 := by
  simp [World.cell?, h]
theorem cells4N {b : Nat} {w : World} {v0 v1 v2 v3 : Value} {t : TypeId} (h : w.heap[b]? = some (.cells #[v0, v1, v2, v3] t (0, 0))) :
    w.cell? ⟨b, 0, none⟩ = some v0 ∧ w.cell? ⟨b, 1, none⟩ = some v1 ∧ w.cell? ⟨b, 2, none⟩ = some v2 ∧ w.cell? ⟨b, 3, none⟩ = some v3 := by
  simp [World.cell?, h]
abbrev stCfg : Value := .agg #[iv 2, iv 3, iv 4, iv 20, iv 30, iv 3, iv 2]
def ValQ (v : Value) (w : World) (e : Ending) (w' : World) : Prop := e = .returned v ∧ Below w.heap.size w w'
set_option maxRecDepth 100000 in
theorem stconfig_any (w : World) : Calls Tryz.prog 5 #[] w (ValQ stCfg w) := by
  have HB := Lib.hid (show ∀ x, Below w.heap.size w ((w.alloc x)) from fun x => (Below.refl _ _).alloc (Nat.le_refl _) _)
  have HX := Lib.hid (show ∀ x, (w.alloc x).heap[w.heap.size]? = some x from fun x => heap_alloc_new _ _)
  go_enter Tryz.func5, Tryz.ntmps5
  go_wp2
  refine bodyPost_ret (v := stCfg) ?_ rfl ⟨rfl, HB.out _⟩
  obtain ⟨g0, g1, g2, g3, g4, g5, g6⟩ := cells7N (HX.out (.cells #[iv 2, iv 3, iv 4, iv 20, iv 30, iv 3, iv 2] 28))
  simp [results, Tryz.results5, go_sem, g0, g1, g2, g3, g4, g5, g6]
theorem stnext_any {w : World} {sb bm : Nat} {n : Int} (h : w.heap[sb]? = some (.cells (stC bm n) STT (0, 0))) :
    Calls Tryz.prog 9 #[.pointer (some ⟨sb, 0, none⟩)] w (fun e w' => e = .returned (iv n) ∧ w' = w) := by
  obtain ⟨x0, x1, x2, x3, x4, x5, x6, x7, x8⟩ := stC_cells h
  clear h
  go_enter Tryz.func9, Tryz.ntmps9
  go_wp2
  go_ret
  exact ⟨rfl, rfl⟩
def NewStQ (w : World) (e : Ending) (w' : World) : Prop := ∃ sb bm, e = .returned (.tuple #[.pointer (some ⟨sb, 0, none⟩), iv 0]) ∧ StAt w.heap.size w' sb bm 0 0 [] ∧ Below w.heap.size w w'
set_option maxRecDepth 100000 in
set_option maxHeartbeats 4000000 in
theorem stnew_any (w : World) : Calls Tryz.prog 4 #[stCfg] w (NewStQ w) := by
  obtain ⟨z, hz⟩ : ∃ b, w.heap.size = b := ⟨_, rfl⟩
  have HZ := Lib.hid hz
  have KV := Lib.hid (fun x => (cvalid_any ⟨2, 3, 4, 20, 30, 3, 2⟩ x : Calls Tryz.prog 11 #[.agg #[iv 2, iv 3, iv 4, iv 20, iv 30, iv 3, iv 2]] x (BoolQ true x)))
  obtain ⟨W, hW⟩ : ∃ W, w.alloc (.cells #[iv 2, iv 3, iv 4, iv 20, iv 30, iv 3, iv 2] 28) = W := ⟨_, rfl⟩
  have BW := Lib.hid (show Below z w W by rw [← hW, ← hz]; exact (Below.refl _ _).alloc (Nat.le_refl _) _)
  have HC := Lib.hid (show W.heap[z]? = some (.cells #[iv 2, iv 3, iv 4, iv 20, iv 30, iv 3, iv 2] 28 (0, 0)) by rw [← hW, ← hz]; exact heap_alloc_new _ _)
  have HWW := Lib.hid hW
  clear hW
  have hmm := @run_makeMap Tryz.prog
  obtain ⟨x0, x1, x2, x3, x4, x5, x6⟩ := cells7N HC.out
  go_enter Tryz.func4, Tryz.ntmps4
  go_upto_region 1 with (fail)
  rw [show w.alloc (.cells #[iv 2, iv 3, iv 4, iv 20, iv 30, iv 3, iv 2] 28) = W from HWW.out]
  try rw [hz]
  go_wp2_with fail
  refine (KV.out W).mono ?_
  rintro e w1 ⟨rfl, b1⟩
  have HC1 := Lib.hid (lies_below HC.out b1 (lt_heap HC.out))
  have B1 := Lib.hid (BW.out.trans (b1.mono (by have := lt_heap HC.out; omega)))
  clear b1 x0 x1 x2 x3 x4 x5 x6
  obtain ⟨x0, x1, x2, x3, x4, x5, x6⟩ := cells7N HC1.out
  go_wp2
  go_ret2
  have hzw : z ≤ w1.heap.size := by have := lt_heap HC1.out; omega
  have e := heap_alloc_new (w1.alloc (.map #[] 0)) (.cells (stC w1.heap.size 0) STT)
  rw [World.size_alloc] at e
  refine ⟨w1.heap.size + 1, w1.heap.size, rfl, ⟨e, (LdM.made w1).below ((Below.refl _ _).alloc (Nat.le_refl _) _), by rw [HZ.out]; omega, by rw [HZ.out]; exact hzw, fun x hx => (by cases hx), List.nodup_nil⟩, ?_⟩
  rw [HZ.out]
  exact (B1.out.alloc hzw _).alloc (by rw [World.size_alloc]; omega) _
def UnStQ (z sb bm c : Nat) (n : Int) (L : Loads) (id : Str) (w : World) (e : Ending) (w' : World) : Prop :=
  ((∃ k : Int, e = .returned (.tuple #[iv k, iv 0]) ∧ (k, id) ∈ L ∧ StAt z w' sb bm c n (L.filter fun x => decide (x.1 ≠ k))) ∨ (e = .returned (.tuple #[iv 0, iv 8]) ∧ (∀ x ∈ L, x.2 ≠ id) ∧ StAt z w' sb bm c n L)) ∧ Below z w w'
set_option maxRecDepth 100000 in
set_option maxHeartbeats 4000000 in
theorem stunload_any {z sb bm c : Nat} {n : Int} {L : Loads} {w : World} (h : StAt z w sb bm c n L) (hn : n ≤ 1073741824) (id : Str) :
    Calls Tryz.prog 6 #[.pointer (some ⟨sb, 0, none⟩), sv id] w (UnStQ z sb bm c n L id w) := by
  have H := Lib.hid h
  have KF := Lib.hid (sfind_any h.blk h.map id)
  obtain ⟨x0, x1, x2, x3, x4, x5, x6, x7, x8⟩ := stC_cells h.blk
  clear h x0 x1 x2 x3 x4 x5 x6 x7 x8
  go_enter Tryz.func6, Tryz.ntmps6
  go_wp2_with fail
  refine KF.out.mono ?_
  rintro e w1 ⟨h | h, b1⟩
  · obtain ⟨k, rfl, hk⟩ := h
    have H1 := Lib.hid (H.out.below b1)
    have B1 := Lib.hid b1
    have HK := Lib.hid hk
    have hwf := wf_fit (x := k) (by have := H.out.lt _ hk; unfold fitI; dsimp only at this; omega)
    obtain ⟨D, hown, hD⟩ := H1.out.map
    have HOWN := Lib.hid hown
    have HD := Lib.hid hD
    obtain ⟨x0, x1, x2, x3, x4, x5, x6, x7, x8⟩ := stC_cells H1.out.blk
    clear x0 x1 x2 x3 x4 x5 x6 x8 hown hD b1 hk
    go_wp2_with (at_delete; refine wpList_delete_own _ rfl _ _ MIL TI rfl LDT intK und_mil ldR bm c D rfl HOWN.out _ _ rfl (Maps.keyOf_int_mk und_ti hwf) ?_; intro w2 hown2 hturn2; have HO2 := Lib.hid hown2; have HT2 := Lib.hid hturn2; clear hown2 hturn2)
    go_ret2
    have G := HT2.out.grown
    have hne := H1.out.ne
    refine ⟨.inl ⟨k, rfl, HK.out, ⟨(G.block sb (lt_heap H1.out.blk) (fun e => hne (by injection e))).trans H1.out.blk, ⟨_, HO2.out, HD.out.drop (HOWN.out.tidy intK) (List.mem_map.2 ⟨_, HK.out, rfl⟩)⟩, H1.out.zs, H1.out.zm, fun x hx => H1.out.lt x (List.mem_filter.1 hx).1, H1.out.ids.sublist (List.filter_sublist.map _)⟩⟩, ?_⟩
    exact (B1.out.mono H.out.zw).trans (below_map G HOWN.out.lt H1.out.zm)
  · obtain ⟨rfl, hno⟩ := h
    have H1 := Lib.hid (H.out.below b1)
    have B1 := Lib.hid (b1.mono H.out.zw)
    have HNO := Lib.hid hno
    clear b1 hno
    go_wp2
    go_ret2
    exact ⟨.inr ⟨rfl, HNO.out, H1.out⟩, B1.out⟩
def SysNQ (w : World) (e : Ending) (w' : World) : Prop := e = .returned (.tuple #[.agg #[iv 0, .slice none 0 0, .slice none 0 0, .slice none 0 0], iv 8]) ∧ Below w.heap.size w w'
theorem zeroLd (w : World) : (zeroValue LDT).run Tryz.prog w = .ok (ldV ⟨#[]⟩ 0 (none, 0, 0)) w := by kernel_rfl
set_option maxRecDepth 100000 in
set_option maxHeartbeats 4000000 in
theorem stsys_any {z sb bm c : Nat} {n : Int} {w : World} (h : StAt z w sb bm c n []) (k : Int) (hk : fitI k) :
    Calls Tryz.prog 16 #[.pointer (some ⟨sb, 0, none⟩), iv k, iv 1] w (SysNQ w) := by
  obtain ⟨W, hW⟩ : ∃ W, w.alloc (.cells #[iv 0, .slice none 0 0, .slice none 0 0, .slice none 0 0] 58) = W := ⟨_, rfl⟩
  obtain ⟨rb, hrb⟩ : ∃ b, w.heap.size = b := ⟨_, rfl⟩
  have BW := Lib.hid (show Below rb w W by rw [← hW, ← hrb]; exact (Below.refl _ _).alloc (Nat.le_refl _) _)
  have HR := Lib.hid (show W.heap[rb]? = some (.cells #[iv 0, .slice none 0 0, .slice none 0 0, .slice none 0 0] 58 (0, 0)) by rw [← hW, ← hrb]; exact heap_alloc_new _ _)
  have H1 := Lib.hid (h.below (hrb ▸ BW.out))
  have HRB := Lib.hid hrb
  have HWW := Lib.hid hW
  have hwf := wf_fit hk
  obtain ⟨D, hown, hD⟩ := H1.out.map
  have HOWN := Lib.hid hown
  have HN : Maps.has D (.int .i64 k) = false := by rw [hD.has]; rfl
  obtain ⟨x0, x1, x2, x3, x4, x5, x6, x7, x8⟩ := stC_cells H1.out.blk
  clear x0 x1 x2 x3 x4 x5 x6 x8 hown hD h hW hk
  go_enter Tryz.func16, Tryz.ntmps16
  go_upto_region 1 with (fail)
  rw [show w.alloc (.cells #[iv 0, .slice none 0 0, .slice none 0 0, .slice none 0 0] 58) = W from HWW.out]
  try rw [hrb]
  go_upto_region 2 with (at_lookup; refine wpList_lookup_own_ok _ rfl _ _ MIL rfl TI LDT intK und_mil ldR (zeroLd _) (ldD [] 0) [] rfl bm c D rfl HOWN.out _ _ rfl (Maps.keyOf_int_mk und_ti hwf) ?_; intro v ps hv; obtain ⟨cv, rfl, -⟩ := ldR_inv _ _ hv; clear hv)
  obtain ⟨cs, cn, ca, cm, cc⟩ := cv
  obtain ⟨X, hX⟩ : ∃ X, W.alloc (.cells #[.string cs, .int .i64 cn, .slice ca cm cc] LDT) = X := ⟨_, rfl⟩
  have BX := Lib.hid (show Below W.heap.size W X by rw [← hX]; exact (Below.refl _ _).alloc (Nat.le_refl _) _)
  have HRX := Lib.hid (lies_below HR.out BX.out (lt_heap HR.out))
  have HXX := Lib.hid hX
  clear hX x7
  rw [show W.alloc (.cells #[.string cs, .int .i64 cn, .slice ca cm cc] LDT) = X from HXX.out]
  obtain ⟨y0, y1, y2, y3⟩ := cells4N HRX.out
  have yf := (blk_cells HRX.out).2
  go_wp2
  have G := set4 HRX.out (iv 0) (.slice none 0 0) (.slice none 0 0) (.slice none 0 0)
  obtain ⟨g0, g1, g2, g3⟩ := cells4N G
  have hle : rb ≤ rb := Nat.le_refl _
  refine bodyPost_ret (v := .tuple #[.agg #[iv 0, .slice none 0 0, .slice none 0 0, .slice none 0 0], iv 8]) ?_ rfl ⟨rfl, ?_⟩
  · simp [results, Tryz.results16, go_sem, g0, g1, g2, g3]
  · rw [HRB.out]
    exact ((((BW.out.trans (BX.out.mono (by have := lt_heap HR.out; omega))).setCell hle _).setCell hle _).setCell hle _).setCell hle _
end Go.Proofs.YtipnhmdibkkifaaGreatDoor
set_option linter.unusedVariables false
set_option linter.unusedSimpArgs false
set_option linter.unusedSectionVars false
namespace Go.Proofs.YtipnhmdibkkifaaGreatDoor
structure GrE (n : Nat) (E : List (Nat × Nat)) (S P : List (List Int)) : Prop where
  sl : S.length = n
  pl : P.length = n
  rng : ∀ e ∈ E, e.1 < n ∧ e.2 < n
  sn : ∀ (i : Nat) (r : List Int), S[i]? = some r → r.Nodup ∧ ∀ x : Int, x ∈ r ↔ ∃ j : Nat, x = j ∧ (i, j) ∈ E
  pn : ∀ (j : Nat) (r : List Int), P[j]? = some r → r.Nodup ∧ ∀ x : Int, x ∈ r ↔ ∃ i : Nat, x = i ∧ (i, j) ∈ E
theorem GrE.nil (n : Nat) : GrE n [] (List.replicate n []) (List.replicate n []) := by
  refine ⟨by simp, by simp, by simp, fun i r h => ?_, fun i r h => ?_⟩
  · obtain rfl : r = [] := List.eq_of_mem_replicate (List.mem_of_getElem? h)
    simp
  · obtain rfl : r = [] := List.eq_of_mem_replicate (List.mem_of_getElem? h)
    simp
theorem GrE.same {n : Nat} {E : List (Nat × Nat)} {S P : List (List Int)} (h : GrE n E S P) {a b : Nat} {r : List Int} (hr : S[a]? = some r) (hb : (b : Int) ∈ r) : GrE n (E ++ [(a, b)]) S P := by
  have hin : (a, b) ∈ E := by
    obtain ⟨j, hj, hm⟩ := ((h.sn a r hr).2 b).1 hb
    obtain rfl : b = j := by omega
    exact hm
  have hmem : ∀ e : Nat × Nat, e ∈ E ++ [(a, b)] ↔ e ∈ E := fun e => by
    constructor
    · intro he
      rcases List.mem_append.1 he with he | he
      · exact he
      · obtain rfl : e = (a, b) := by simpa using he
        exact hin
    · exact fun he => List.mem_append.2 (.inl he)
  refine ⟨h.sl, h.pl, fun e he => h.rng e ((hmem e).1 he), fun i r hr => ⟨(h.sn i r hr).1, fun x => ?_⟩, fun i r hr => ⟨(h.pn i r hr).1, fun x => ?_⟩⟩
  · rw [(h.sn i r hr).2 x]
    exact ⟨fun ⟨j, e, m⟩ => ⟨j, e, (hmem _).2 m⟩, fun ⟨j, e, m⟩ => ⟨j, e, (hmem _).1 m⟩⟩
  · rw [(h.pn i r hr).2 x]
    exact ⟨fun ⟨j, e, m⟩ => ⟨j, e, (hmem _).2 m⟩, fun ⟨j, e, m⟩ => ⟨j, e, (hmem _).1 m⟩⟩
theorem GrE.add {n : Nat} {E : List (Nat × Nat)} {S P : List (List Int)} (h : GrE n E S P) {a b : Nat} (ha : a < n) (hbn : b < n) {r q : List Int} (hr : S[a]? = some r) (hq : P[b]? = some q) (hb : (b : Int) ∉ r) : GrE n (E ++ [(a, b)]) (S.set a (r ++ [(b : Int)])) (P.set b (q ++ [(a : Int)])) := by
  have hnin : (a, b) ∉ E := fun hm => hb (((h.sn a r hr).2 b).2 ⟨b, rfl, hm⟩)
  refine ⟨by simp [h.sl], by simp [h.pl], fun e he => ?_, fun i s hs => ?_, fun j s hs => ?_⟩
  · rcases List.mem_append.1 he with he | he
    · exact h.rng e he
    · obtain rfl : e = (a, b) := by simpa using he
      exact ⟨ha, hbn⟩
  · by_cases hi : a = i
    · subst hi
      rw [List.getElem?_set_self (by rw [h.sl]; exact ha)] at hs
      injection hs with hs
      subst hs
      obtain ⟨h1, h2⟩ := h.sn a r hr
      refine ⟨List.nodup_append.2 ⟨h1, by simp, fun x hx y hy e => ?_⟩, fun x => ?_⟩
      · simp at hy
        subst hy
        exact hb (e ▸ hx)
      · rw [List.mem_append, h2 x]
        constructor
        · rintro (⟨j, e, m⟩ | hx)
          · exact ⟨j, e, List.mem_append.2 (.inl m)⟩
          · exact ⟨b, by simpa using hx, by simp⟩
        · rintro ⟨j, e, m⟩
          rcases List.mem_append.1 m with m | m
          · exact .inl ⟨j, e, m⟩
          · simp at m
            subst m
            exact .inr (by simp [e])
    · rw [List.getElem?_set_ne hi] at hs
      obtain ⟨h1, h2⟩ := h.sn i s hs
      refine ⟨h1, fun x => ?_⟩
      rw [h2 x]
      constructor
      · rintro ⟨j, e, m⟩
        exact ⟨j, e, List.mem_append.2 (.inl m)⟩
      · rintro ⟨j, e, m⟩
        rcases List.mem_append.1 m with m | m
        · exact ⟨j, e, m⟩
        · simp at m
          exact absurd m.1.symm hi
  · by_cases hj : b = j
    · subst hj
      rw [List.getElem?_set_self (by rw [h.pl]; exact hbn)] at hs
      injection hs with hs
      subst hs
      obtain ⟨h1, h2⟩ := h.pn b q hq
      refine ⟨List.nodup_append.2 ⟨h1, by simp, fun x hx y hy e => ?_⟩, fun x => ?_⟩
      · simp at hy
        subst hy
        subst e
        obtain ⟨i, e, m⟩ := (h2 _).1 hx
        obtain rfl : a = i := by omega
        exact hnin m
      · rw [List.mem_append, h2 x]
        constructor
        · rintro (⟨j, e, m⟩ | hx)
          · exact ⟨j, e, List.mem_append.2 (.inl m)⟩
          · exact ⟨a, by simpa using hx, by simp⟩
        · rintro ⟨j, e, m⟩
          rcases List.mem_append.1 m with m | m
          · exact .inl ⟨j, e, m⟩
          · simp at m
            subst m
            exact .inr (by simp [e])
    · rw [List.getElem?_set_ne hj] at hs
      obtain ⟨h1, h2⟩ := h.pn j s hs
      refine ⟨h1, fun x => ?_⟩
      rw [h2 x]
      constructor
      · rintro ⟨i, e, m⟩
        exact ⟨i, e, List.mem_append.2 (.inl m)⟩
      · rintro ⟨i, e, m⟩
        rcases List.mem_append.1 m with m | m
        · exact ⟨i, e, m⟩
        · simp at m
          exact absurd m.2.symm hj
theorem GrE.slen {n : Nat} {E : List (Nat × Nat)} {S P : List (List Int)} (h : GrE n E S P) {i : Nat} {r : List Int} (hr : S[i]? = some r) : r.length ≤ n := by
  obtain ⟨h1, h2⟩ := h.sn i r hr
  have := count_le (b := (List.range n).map fun k : Nat => (k : Int)) h1 fun x hx => by
    obtain ⟨j, rfl, m⟩ := (h2 x).1 hx
    exact List.mem_map.2 ⟨j, List.mem_range.2 (h.rng _ m).2, rfl⟩
  simpa using this
theorem GrE.plen {n : Nat} {E : List (Nat × Nat)} {S P : List (List Int)} (h : GrE n E S P) {i : Nat} {r : List Int} (hr : P[i]? = some r) : r.length ≤ n := by
  obtain ⟨h1, h2⟩ := h.pn i r hr
  have := count_le (b := (List.range n).map fun k : Nat => (k : Int)) h1 fun x hx => by
    obtain ⟨j, rfl, m⟩ := (h2 x).1 hx
    exact List.mem_map.2 ⟨j, List.mem_range.2 (h.rng _ m).1, rfl⟩
  simpa using this
end Go.Proofs.YtipnhmdibkkifaaGreatDoor
set_option linter.unusedVariables false
set_option linter.unusedSimpArgs false
set_option linter.unusedSectionVars false
namespace Go.Proofs.YtipnhmdibkkifaaGreatDoor
open Go.RowKit
variable [Base]
structure ButB (g : Nat) (w w' : World) : Prop where
  os : w'.os = w.os
  tape : w'.tape = w.tape
  output : w'.output = w.output
  size : w.heap.size ≤ w'.heap.size
  block : ∀ k, k < w.heap.size → k ≠ g → w'.heap[k]? = w.heap[k]?
end Go.Proofs.YtipnhmdibkkifaaGreatDoor
set_option linter.unusedVariables false
set_option linter.unusedSimpArgs false
set_option linter.unusedSectionVars false
namespace Go.Proofs.YtipnhmdibkkifaaGreatDoor
open Go.RowKit
variable [Base]
theorem ButB.refl (g : Nat) (w : World) : ButB g w w := ⟨rfl, rfl, rfl, Nat.le_refl _, fun _ _ _ => rfl⟩
theorem ButB.trans {g : Nat} {a b c : World} (h : ButB g a b) (k : ButB g b c) : ButB g a c := ⟨k.os.trans h.os, k.tape.trans h.tape, k.output.trans h.output, Nat.le_trans h.size k.size, fun i hi hn => (k.block i (Nat.lt_of_lt_of_le hi h.size) hn).trans (h.block i hi hn)⟩
theorem ButB.below {g : Nat} {a w w' : World} (h : ButB g a w) (k : Below w.heap.size w w') : ButB g a w' := h.trans ⟨k.os, k.tape, k.output, k.size, fun i hi _ => k.block i hi⟩
end Go.Proofs.YtipnhmdibkkifaaGreatDoor
set_option linter.unusedVariables false
set_option linter.unusedSimpArgs false
set_option linter.unusedSectionVars false
namespace Go.Proofs.YtipnhmdibkkifaaGreatDoor
open Go.RowKit
variable [Base]
def IntsAt (w : World) (v : Value) (l : List Int) : Prop := SliceAt w 3 1 v (l.map iv)
theorem IntsAt.cell {w : World} {v : Value} {l : List Int} (h : IntsAt w v l) : ∃ a c, v = .slice a l.length c ∧ l.length ≤ maxLen ∧ l.length ≤ c ∧ c ≤ maxLen ∧ ∀ k x, l[k]? = some x → ∃ b off, a = some ⟨b, off, none⟩ ∧ b < w.heap.size ∧ w.cell? ⟨b, off + k, none⟩ = some (iv x) := by
  obtain ⟨a, n, c, rfl, h1, h2, h3, h4, h5⟩ := SliceAt.form h
  simp at h1
  subst h1
  refine ⟨a, c, rfl, h2, h3, h4, fun k x hk => ?_⟩
  obtain ⟨hk2, rfl⟩ := List.getElem?_eq_some_iff.1 hk
  obtain ⟨b, off, rfl, hb, _, hc⟩ := h5 (by omega)
  refine ⟨b, off, rfl, hb, ?_⟩
  rw [hc _ (by simpa using hk2)]
  simp [hk2]
end Go.Proofs.YtipnhmdibkkifaaGreatDoor
set_option linter.unusedVariables false
set_option linter.unusedSimpArgs false
set_option linter.unusedSectionVars false
namespace Go.Proofs.YtipnhmdibkkifaaGreatDoor
open Go.RowKit
variable [Base]
theorem info_int : (Tryz.prog.info? 3).map (fun i => (i.zero, i.size, i.bytes)) = some (some (Value.int .i64 0), 1, 8) := by kernel_rfl
end Go.Proofs.YtipnhmdibkkifaaGreatDoor
set_option linter.unusedVariables false
set_option linter.unusedSimpArgs false
set_option linter.unusedSectionVars false
namespace Go.Proofs.YtipnhmdibkkifaaGreatDoor
variable [Base]
open Go
section
variable {P : Program} {ops : Array Oper} {Q : Exit → Act → World → Prop} {md : Region.Mode} {S : World → Prop}
theorem wpAnyT_oper {st : Nat} (i : Nat) {oi : Oper} {fuel : Nat} {listed : Array Bool} {a : Act} {w : World} (hi : ops[i]? = some oi)
    (hr : Region.ready md ops listed = [i]) (hwant : Region.wanted oi (yielded ops a.tmps) = true)
    (h : oi.wp P a w (fun a' w' => (i ≠ st → S w') ∧ wpAnyT P md ops Q S st fuel (listed.setIfInBounds i true) a' w') Q) : wpAnyT P md ops Q S st (fuel + 1) listed a w := by
  refine wpAnyT_all hr (by simp) fun j hj => ?_
  obtain rfl : j = i := by simpa using hj
  unfold wpOp
  rw [hi]
  show if Region.wanted oi (yielded ops a.tmps) then _ else _
  rw [if_pos hwant]
  exact .inl h
end
end Go.Proofs.YtipnhmdibkkifaaGreatDoor
