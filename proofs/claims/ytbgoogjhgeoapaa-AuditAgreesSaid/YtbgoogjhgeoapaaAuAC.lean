/- 'flqlaw30.AuditAgrees' returns true at every input: the audit and its reference agree on fair, changed and arbitrary logs, and so do the shares. No condition beyond the statement's own. (nobase) -/
import Derived.Test.YtbgoogjhgeoapaaAuAl
import Derived.ProofKit
import Derived.OpenShut
import Derived.Carry
import Derived.ChangeMaps5
import Derived.ChangeOld
import Derived.Deep.Slices
import Derived.Deep.Fields
import Derived.ChangeSame
set_option linter.unusedVariables false
set_option linter.unusedSimpArgs false
set_option linter.unusedSectionVars false
namespace Go.Proofs.Ytbgoogjhgeoapaa
open Go.ChangeShapes Go.WideShapes Go.Deep Go.RowKit

section
variable {H : Type} {enc : TypeId × Value → H} {w : World} {base : Nat} {held : Bool} [Base]
theorem cell_block {b o : Nat} {v : Value} (h : w.cell? ⟨b, o, none⟩ = some v) : b < w.heap.size ∧ ∃ c U fr, w.heap[b]? = some (.cells c U fr) ∧ ∀ k, w.cell? ⟨b, k, none⟩ = c[k]? := by
  unfold World.cell? at h
  cases hb : w.heap[b]? with
  | none => simp [hb] at h
  | some q =>
    refine ⟨lt_heap hb, ?_⟩
    cases q <;> first | (refine ⟨_, _, _, rfl, fun k => ?_⟩; simp [World.cell?, hb]) | (simp [hb] at h)
theorem addr_plain {a : Addr} {v : Value} (h : w.cell? a = some v) : ∃ b off, a = ⟨b, off, none⟩ := by
  obtain ⟨b, off, s⟩ := a
  have hs : s = none := by simpa using World.cell?_spot h
  exact ⟨b, off, by rw [hs]⟩
theorem addr_add' (b off j : Nat) : (⟨b, off, none⟩ : Addr).add j = ⟨b, off + j, none⟩ := by
  unfold Addr.add
  split
  · rename_i h; subst h; rfl
  · rfl
/-- A row of cells that came in, where an element is sz cells. -/
theorem slice_old {T : TypeId} {sz len cap : Nat} {a : Addr} {xs : List Value} (hB : w.heap.size ≤ Base.b) (hl : len ≤ cap) (hm : cap ≤ maxLen) (hx : xs.length = len * sz) (hsz : 0 < sz)
    (h0 : 0 < cap → ∃ v, w.cell? (a.add 0) = some v) (hc : ∀ i, i < xs.length → w.cell? (a.add i) = xs[i]?) : SliceAt w T sz (.slice (some a) len cap) xs := by
  by_cases h : cap = 0
  · subst h
    obtain rfl : len = 0 := by omega
    exact ⟨0, 0, hx, Nat.le_refl _, Nat.zero_le _, .inl ⟨⟨_, rfl⟩, rfl⟩⟩
  · obtain ⟨v, hv⟩ := h0 (by omega)
    have ha : a.add 0 = a := by unfold Addr.add; simp
    rw [ha] at hv
    obtain ⟨b, off, rfl⟩ := addr_plain hv
    obtain ⟨hlt, c, U, fr, hb, hk⟩ := cell_block hv
    refine ⟨len, cap, hx, hl, hm, .inr ⟨b, off, c, fr, rfl, HeapLike.old hb (by omega), fun i hi => ?_⟩⟩
    rw [← hc i hi, addr_add', hk]
theorem one_cell {c d : Value} (h : [c] = [d]) : c = d := by injection h
theorem open_turn {fuel : Nat} {cs : List Value} {x : DataW H × List MemPlace} (h : DataW.trod enc Try.prog w base (fun _ => true) held fuel 53 cs = some x) : ∃ t : TV, cs = turnC t := by
  obtain ⟨xs, n, _, _, hlen, hxl, hf⟩ := DataW.trod_struct Try.underlying53 h
  have hlen2 : cs.length = 5 := hlen.trans (by kernel_rfl)
  match cs, hlen2 with
  | [c0, c1, c2, c3, c4], _ =>
    have h0 : DataW.trod enc Try.prog w base (fun _ => true) held n 3 (List.take (Try.prog.cellsOf 3) (List.drop 0 [c0, c1, c2, c3, c4])) = xs[0]? := hf 0 _ rfl
    have h1 : DataW.trod enc Try.prog w base (fun _ => true) held n 3 (List.take (Try.prog.cellsOf 3) (List.drop 1 [c0, c1, c2, c3, c4])) = xs[1]? := hf 1 _ rfl
    have h2 : DataW.trod enc Try.prog w base (fun _ => true) held n 3 (List.take (Try.prog.cellsOf 3) (List.drop 2 [c0, c1, c2, c3, c4])) = xs[2]? := hf 2 _ rfl
    have h3 : DataW.trod enc Try.prog w base (fun _ => true) held n 3 (List.take (Try.prog.cellsOf 3) (List.drop 3 [c0, c1, c2, c3, c4])) = xs[3]? := hf 3 _ rfl
    have h4 : DataW.trod enc Try.prog w base (fun _ => true) held n 4 (List.take (Try.prog.cellsOf 4) (List.drop 4 [c0, c1, c2, c3, c4])) = xs[4]? := hf 4 _ rfl
    have ki : Try.prog.cellsOf 3 = 1 := by kernel_rfl
    have kb : Try.prog.cellsOf 4 = 1 := by kernel_rfl
    rw [ki] at h0 h1 h2 h3
    rw [kb] at h4
    simp only [List.drop_zero, List.drop_succ_cons, List.take_succ_cons, List.take_zero] at h0 h1 h2 h3 h4
    have xl : xs.length = 5 := hxl
    rw [List.getElem?_eq_getElem (by omega)] at h0 h1 h2 h3 h4
    obtain ⟨z0, e0, _, _⟩ := DataW.trod_int Try.underlying3 h0
    obtain ⟨z1, e1, _, _⟩ := DataW.trod_int Try.underlying3 h1
    obtain ⟨z2, e2, _, _⟩ := DataW.trod_int Try.underlying3 h2
    obtain ⟨z3, e3, _, _⟩ := DataW.trod_int Try.underlying3 h3
    obtain ⟨z4, e4, _⟩ := DataW.trod_bool Try.underlying4 h4
    obtain rfl := one_cell e0
    obtain rfl := one_cell e1
    obtain rfl := one_cell e2
    obtain rfl := one_cell e3
    obtain rfl := one_cell e4
    exact ⟨⟨z0, z1, z2, z3, z4⟩, rfl⟩
theorem open_cfg {fuel : Nat} {cs : List Value} {x : DataW H × List MemPlace} (h : DataW.trod enc Try.prog w base (fun _ => true) held fuel 26 cs = some x) : ∃ c : CV, cs = [iv c.p, iv c.pe, iv c.me, iv c.no, iv c.ed, iv c.ba, iv c.ag] := by
  obtain ⟨xs, n, _, _, hlen, hxl, hf⟩ := DataW.trod_struct Try.underlying26 h
  have hlen2 : cs.length = 7 := hlen.trans (by kernel_rfl)
  match cs, hlen2 with
  | [c0, c1, c2, c3, c4, c5, c6], _ =>
    have h0 : DataW.trod enc Try.prog w base (fun _ => true) held n 3 (List.take (Try.prog.cellsOf 3) (List.drop 0 [c0, c1, c2, c3, c4, c5, c6])) = xs[0]? := hf 0 _ rfl
    have h1 : DataW.trod enc Try.prog w base (fun _ => true) held n 3 (List.take (Try.prog.cellsOf 3) (List.drop 1 [c0, c1, c2, c3, c4, c5, c6])) = xs[1]? := hf 1 _ rfl
    have h2 : DataW.trod enc Try.prog w base (fun _ => true) held n 3 (List.take (Try.prog.cellsOf 3) (List.drop 2 [c0, c1, c2, c3, c4, c5, c6])) = xs[2]? := hf 2 _ rfl
    have h3 : DataW.trod enc Try.prog w base (fun _ => true) held n 3 (List.take (Try.prog.cellsOf 3) (List.drop 3 [c0, c1, c2, c3, c4, c5, c6])) = xs[3]? := hf 3 _ rfl
    have h4 : DataW.trod enc Try.prog w base (fun _ => true) held n 3 (List.take (Try.prog.cellsOf 3) (List.drop 4 [c0, c1, c2, c3, c4, c5, c6])) = xs[4]? := hf 4 _ rfl
    have h5 : DataW.trod enc Try.prog w base (fun _ => true) held n 3 (List.take (Try.prog.cellsOf 3) (List.drop 5 [c0, c1, c2, c3, c4, c5, c6])) = xs[5]? := hf 5 _ rfl
    have h6 : DataW.trod enc Try.prog w base (fun _ => true) held n 3 (List.take (Try.prog.cellsOf 3) (List.drop 6 [c0, c1, c2, c3, c4, c5, c6])) = xs[6]? := hf 6 _ rfl
    have ki : Try.prog.cellsOf 3 = 1 := by kernel_rfl
    rw [ki] at h0 h1 h2 h3 h4 h5 h6
    simp only [List.drop_zero, List.drop_succ_cons, List.take_succ_cons, List.take_zero] at h0 h1 h2 h3 h4 h5 h6
    have xl : xs.length = 7 := hxl
    rw [List.getElem?_eq_getElem (by omega)] at h0 h1 h2 h3 h4 h5 h6
    obtain ⟨z0, e0, _, _⟩ := DataW.trod_int Try.underlying3 h0
    obtain ⟨z1, e1, _, _⟩ := DataW.trod_int Try.underlying3 h1
    obtain ⟨z2, e2, _, _⟩ := DataW.trod_int Try.underlying3 h2
    obtain ⟨z3, e3, _, _⟩ := DataW.trod_int Try.underlying3 h3
    obtain ⟨z4, e4, _, _⟩ := DataW.trod_int Try.underlying3 h4
    obtain ⟨z5, e5, _, _⟩ := DataW.trod_int Try.underlying3 h5
    obtain ⟨z6, e6, _, _⟩ := DataW.trod_int Try.underlying3 h6
    obtain rfl := one_cell e0
    obtain rfl := one_cell e1
    obtain rfl := one_cell e2
    obtain rfl := one_cell e3
    obtain rfl := one_cell e4
    obtain rfl := one_cell e5
    obtain rfl := one_cell e6
    exact ⟨⟨z0, z1, z2, z3, z4, z5, z6⟩, rfl⟩
theorem open_turns {fuel : Nat} {v : Value} {x : DataW H × List MemPlace} (hB : w.heap.size ≤ Base.b) (h : DataW.trod enc Try.prog w base (fun _ => true) held fuel 28 [v] = some x) : ∃ l, TurnsAt w v l := by
  have hC : Try.prog.cellsOf 53 = 5 := by kernel_rfl
  rcases open_slice Try.underlying28 h with ⟨hcs, _⟩ | ⟨a, len, cap, m, n, D, Pl, hcs, _, hl, hm, hmm, _, hx⟩
  · injection hcs with hcs _
    subst hcs
    exact ⟨[], TurnsAt.nil⟩
  · injection hcs with hcs _
    subst hcs
    simp only [if_true] at hmm
    subst hmm
    rw [hC] at hx
    have hy : ∀ i, i < m → ∃ t : TV, ∀ j, j < 5 → w.cell? (a.add (i * 5 + j)) = (turnC t)[j]? := fun i hi => by
      obtain ⟨cs', h1, h2⟩ := hx i hi
      obtain ⟨t, rfl⟩ := open_turn h2
      obtain ⟨_, _, hat⟩ := World.cells?_some h1
      exact ⟨t, fun j hj => by rw [← Go.Deep.add_add]; exact hat j hj⟩
    obtain ⟨f, hf⟩ : ∃ f : Nat → TV, ∀ i, i < m → ∀ j, j < 5 → w.cell? (a.add (i * 5 + j)) = (turnC (f i))[j]? := by
      classical
      exact ⟨fun i => if hi : i < m then Classical.choose (hy i hi) else ⟨0, 0, 0, 0, false⟩, fun i hi => by simp only [dif_pos hi]; exact Classical.choose_spec (hy i hi)⟩
    have hl5 := turnC_len ((List.range len).map f)
    have hfl := flatten_len 5 _ hl5
    rw [List.length_map, List.length_map, List.length_range] at hfl
    refine ⟨(List.range len).map f, slice_old hB hl hm hfl (by omega) (fun h => ?_) (fun i hi => ?_)⟩
    · exact ⟨_, hf 0 h 0 (by omega)⟩
    · rw [hfl] at hi
      have h1 := hf (i / 5) (by omega) (i % 5) (by omega)
      rw [show i / 5 * 5 + i % 5 = i by omega] at h1
      rw [h1]
      have h2 := flatten_get 5 _ hl5 (i / 5) (i % 5) (by rw [List.length_map, List.length_map, List.length_range]; omega) (by omega)
      rw [show i / 5 * 5 + i % 5 = i by omega] at h2
      rw [h2]
      simp
end
section
open Go.ChangeAt
variable {H : Type} {enc : TypeId × Value → H} {P : Program} {w : World} {base : Nat} {spare : Nat → Bool} {held : Bool}
theorem trodAll_five {t0 t1 t2 t3 t4 : TypeId} {args : Array Value} {ds : List (DataW H)} {ps : List MemPlace} (h : DataW.TrodAll enc P w base spare held (#[t0, t1, t2, t3, t4] : Array TypeId).toList args.toList ds ps) :
    ∃ v0 v1 v2 v3 v4 d0 d1 d2 d3 d4 p0 p1 p2 p3 p4, args = #[v0, v1, v2, v3, v4] ∧ ds = [d0, d1, d2, d3, d4] ∧ ps = p0 ++ (p1 ++ (p2 ++ (p3 ++ p4))) ∧
      DataW.Trod enc P w base spare held t0 v0 d0 p0 ∧ DataW.Trod enc P w base spare held t1 v1 d1 p1 ∧ DataW.Trod enc P w base spare held t2 v2 d2 p2 ∧ DataW.Trod enc P w base spare held t3 v3 d3 p3 ∧ DataW.Trod enc P w base spare held t4 v4 d4 p4 := by
  obtain ⟨v0, r0, d0, e0, p0, q0, a0, b0, c0, g0, h⟩ := trodAll_cons h
  obtain ⟨v1, r1, d1, e1, p1, q1, rfl, rfl, rfl, g1, h⟩ := trodAll_cons h
  obtain ⟨v2, r2, d2, e2, p2, q2, rfl, rfl, rfl, g2, h⟩ := trodAll_cons h
  obtain ⟨v3, r3, d3, e3, p3, q3, rfl, rfl, rfl, g3, h⟩ := trodAll_cons h
  obtain ⟨v4, r4, d4, e4, p4, q4, rfl, rfl, rfl, g4, h⟩ := trodAll_cons h
  obtain ⟨rfl, rfl, rfl⟩ := trodAll_nil h
  exact ⟨v0, v1, v2, v3, v4, d0, d1, d2, d3, d4, p0, p1, p2, p3, p4, Array.toList_inj.1 (by simpa using a0), b0, by simpa using c0, g0, g1, g2, g3, g4⟩
theorem trodAll_mk5 {t0 t1 t2 t3 t4 : TypeId} {v0 v1 v2 v3 v4 : Value} {d0 d1 d2 d3 d4 : DataW H} {p0 p1 p2 p3 p4 : List MemPlace} (g0 : DataW.Trod enc P w base spare held t0 v0 d0 p0) (g1 : DataW.Trod enc P w base spare held t1 v1 d1 p1) (g2 : DataW.Trod enc P w base spare held t2 v2 d2 p2) (g3 : DataW.Trod enc P w base spare held t3 v3 d3 p3) (g4 : DataW.Trod enc P w base spare held t4 v4 d4 p4) :
    DataW.TrodAll enc P w base spare held [t0, t1, t2, t3, t4] [v0, v1, v2, v3, v4] [d0, d1, d2, d3, d4] (p0 ++ (p1 ++ (p2 ++ (p3 ++ (p4 ++ []))))) :=
  trodAll_cons_mk g0 (trodAll_cons_mk g1 (trodAll_cons_mk g2 (trodAll_cons_mk g3 (trodAll_cons_mk g4 trodAll_mk0))))
end
theorem agg_of {c : Array Value} {l : List Value} (h : (Value.agg c).cells.toList = l) : Value.agg c = .agg l.toArray := by
  have h : c.toList = l := h
  rw [← h]
end Go.Proofs.Ytbgoogjhgeoapaa
namespace Go.Proofs.Ytbgoogjhgeoapaa.auditAgrees
open Go.ChangeShapes Go.WideShapes Go.ChangeAt Go.WideMaps Go.WideElems Go.ChangeMaps Go.RowKit

theorem own : ownKnob Try.prog.godebug = none := by kernel_rfl
theorem cInt : Try.prog.cellsOf 3 = 1 := by kernel_rfl

set_option maxRecDepth 100000 in
set_option maxHeartbeats 1000000 in
theorem lifted (os : Os) (started : os.Started) (H : Type) (enc : TypeId × Value → H) :
    ReturnsInHanded {} Try.checked os 5 .any (Rows.auditAgreesSpec.pre6 enc Try.prog Try.f5 Rows.auditAgreesRow.domain false) (Rows.auditAgreesSpec.post enc Try.prog Try.f5 false true false false) := by
  refine returnsInHanded_of_change (C := Try.checked) own started (by kernel_rfl) Try.func5
    (ChangeSpec.witness6 (enc := enc) (C := Try.checked) false ⟨#[], #[.slice none 0 0, .agg #[.int .i64 0, .int .i64 0, .int .i64 0, .int .i64 0, .int .i64 0, .int .i64 0, .int .i64 0], .slice none 0 0, .int .i64 0, .int .i64 0], []⟩ 8 (by kernel_rfl) (by kernel_rfl) (by kernel_rfl) (by kernel_rfl)) ?_
  intro W base args ds gs before hval0 hW _ _
  have hval : ∀ (j : Nat) t v, Try.f5.params[j]? = some t → args[j]? = some v → Value.okWide Try.prog W .any base t v := hval0
  have hW' := hW
  have hlt := hW.lt
  obtain ⟨p, q, hA0, hV, rfl, hfz, hnd⟩ := hW
  have hA : DataW.TrodAll enc Try.prog W 0 (fun _ => true) true Try.f5.params.toList args.toList ds p := hA0
  rw [Try.params5] at hA hval
  obtain ⟨v0, v1, v2, v3, v4, d0, d1, d2, d3, d4, p0, p1, p2, p3, p4, rfl, rfl, rfl, h0, h1, h2, h3, h4⟩ := trodAll_five hA
  obtain ⟨rfl, rfl⟩ := trodVars_none hV
  letI : Base := ⟨W.heap.size⟩
  have hB : W.heap.size ≤ Base.b := Nat.le_refl _
  obtain ⟨a0, len0, cap0, rfl⟩ := okWide_slice Try.underlying22 (hval 0 22 v0 rfl rfl)
  obtain ⟨c1, rfl, _⟩ := okWide_struct Try.underlying26 (hval 1 26 v1 rfl rfl)
  obtain ⟨a2, len2, cap2, rfl⟩ := okWide_slice Try.underlying28 (hval 2 28 v2 rfl rfl)
  obtain ⟨z3, rfl, rfl, rfl, wf3⟩ := open_int Try.underlying3 (hval 3 3 v3 rfl rfl) h3
  obtain ⟨z4, rfl, rfl, rfl, wf4⟩ := open_int Try.underlying3 (hval 4 3 v4 rfl rfl) h4
  obtain ⟨l, hl⟩ : ∃ l, TurnsAt W (.slice a2 len2 cap2) l := by obtain ⟨fuel, hf⟩ := h2; exact open_turns hB hf
  obtain ⟨c, ec⟩ : ∃ c : CV, Value.agg c1 = cfgV c := by
    obtain ⟨fuel, hf⟩ := h1
    obtain ⟨c, e⟩ := open_cfg hf
    exact ⟨c, agg_of e⟩
  have keep : ∀ W' : World, Below W.heap.size W W' → Rows.auditAgreesSpec.post enc Try.prog Try.f5 false true false false W #[.slice a0 len0 cap0, .agg c1, .slice a2 len2 cap2, .int .i64 z3, .int .i64 z4] (.bool true) W' := by
    intro W' bel
    have h0' := Below.trod (P := Try.prog) (by kernel_rfl) (by kernel_rfl) (by decide +kernel) h0 bel (fun x hx => hlt x (by simp [hx]))
    have h1' := Below.trod (P := Try.prog) (by kernel_rfl) (by kernel_rfl) (by decide +kernel) h1 bel (fun x hx => hlt x (by simp [hx]))
    have h2' := Below.trod (P := Try.prog) (by kernel_rfl) (by kernel_rfl) (by decide +kernel) h2 bel (fun x hx => hlt x (by simp [hx]))
    have h3' := Below.trod (P := Try.prog) (by kernel_rfl) (by kernel_rfl) (by decide +kernel) h3 bel (fun x hx => by cases hx)
    have h4' := Below.trod (P := Try.prog) (by kernel_rfl) (by kernel_rfl) (by decide +kernel) h4 bel (fun x hx => by cases hx)
    exact ⟨_, _, _, [], _, [], hW', trodAll_mk1 (shut_bool Try.underlying4 _), trodAll_mk5 h0' h1' h2' h3' h4', rfl, bel.frame _, fun h => by cases h⟩
  have call : ∀ (ta : Option Addr) (tn tc : Nat), tn ≤ maxLen → (∀ j : Nat, j < tn → ∃ b off z, ta = some ⟨b, off, none⟩ ∧ b < W.heap.size ∧ W.cell? ⟨b, off + j, none⟩ = some (.int .i64 z)) →
      Calls Try.prog 5 #[.slice ta tn tc, .agg c1, .slice a2 len2 cap2, .int .i64 z3, .int .i64 z4] W (BoolQ true W) := by
    intro ta tn tc k1 k2
    rw [ec]
    exact agreesLaw_any W ta tn tc (Nat.le_refl _) k1 k2 c _ l hl z3 z4
  obtain ⟨fuel, hf⟩ := h0
  rcases open_ints Try.underlying22 Try.underlying3 cInt hf with ⟨hcs, _⟩ | ⟨a, len, cap, zs, hcs, _, hl1, hl2, hz, _, hcell, _⟩
  · have hcs' : [Value.slice a0 len0 cap0] = _ := hcs
    injection hcs' with hcs' _
    injection hcs' with e1 e2 e3
    subst e1 e2 e3
    refine (call none 0 0 (Nat.zero_le _) (fun j hj => by omega)).mono fun e W' ⟨he, bel⟩ => ?_
    subst he
    exact ⟨_, rfl, keep W' bel⟩
  · have hcs' : [Value.slice a0 len0 cap0] = _ := hcs
    injection hcs' with hcs' _
    injection hcs' with e1 e2 e3
    subst e1 e2 e3
    refine (call (some a) len0 cap0 (by omega) (fun j hj => ?_)).mono fun e W' ⟨he, bel⟩ => ?_
    · have hlz : len0 ≤ zs.length := by rw [hz]; split <;> omega
      obtain ⟨b, off, rfl, hc⟩ := ints_at hcell (by omega)
      exact ⟨b, off, _, rfl, cell_lt (hc j (by omega)), hc j (by omega)⟩
    · subst he
      exact ⟨_, rfl, keep W' bel⟩

theorem over : Rows.auditAgreesRow.holds Try.pinned (OpenSpec.ofChange Rows.auditAgreesSpec) :=
  OpenClaim.holds_of_wide 5 Try.f5 rfl rfl rfl rfl rfl rfl rfl ⟨rfl, rfl, rfl, rfl, rfl⟩ rfl rfl rfl rfl rfl (by kernel_rfl) Try.func5 (by kernel_rfl)
    (of_decide_eq_true (by kernel_rfl)) (by unfold Func.isWrapper; first | (rw [if_pos (by decide +kernel)]; kernel_rfl) | (rw [if_neg (by decide +kernel)]; exact ⟨rfl, rfl⟩))
    (fun os started H enc _ => lifted os started H enc)
end Go.Proofs.Ytbgoogjhgeoapaa.auditAgrees
namespace Go.Proofs.Ytbgoogjhgeoapaa
/-- THE STATEMENT. -/
theorem auditAgrees_holds : Rows.AuditAgreesSaid := auditAgrees.over
#print axioms auditAgrees_holds
end Go.Proofs.Ytbgoogjhgeoapaa
