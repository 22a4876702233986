/- What came in, as the walks want it: words, sets, numbers. (nobase) No walk. Printed by wip/gen_bscard.py out of XOpn. -/
import Derived.Test.YtmanmlankfoflaaDoorBsO
import Derived.ProofKit
import Derived.Deep.Slices
import Derived.Deep.Fields
import Derived.ChangeSame
import Derived.ChangeMaps5
set_option linter.unusedVariables false
set_option linter.unusedSimpArgs false
set_option linter.unusedSectionVars false
namespace Go.Proofs.YtmanmlankfoflaaDoor
open Go.ChangeShapes Go.WideShapes Go.Deep Go.RowKit

section
variable {H : Type} {enc : TypeId × Value → H} {w : World} {base : Nat} {held : Bool} [Base]
theorem cell_block {b o : Nat} {v : Value} (h : w.cell? ⟨b, o, none⟩ = some v) : b < w.heap.size ∧ ∃ c U fr, w.heap[b]? = some (.cells c U fr) ∧ ∀ k, w.cell? ⟨b, k, none⟩ = c[k]? := by
  unfold World.cell? at h
  cases hb : w.heap[b]? with
  | none => simp [hb] at h
  | some q =>
    refine ⟨lt_heap hb, ?_⟩
    cases q <;> first | (refine ⟨_, _, _, rfl, fun k => ?_⟩; simp [World.cell?, hb]) | (simp [hb] at h)
theorem addr_plain {a : Addr} {v : Value} (h : w.cell? a = some v) : ∃ b off, a = ⟨b, off, none⟩ := by
  obtain ⟨b, off, s⟩ := a
  have hs : s = none := by simpa using World.cell?_spot h
  exact ⟨b, off, by rw [hs]⟩
theorem addr_add' (b off j : Nat) : (⟨b, off, none⟩ : Addr).add j = ⟨b, off + j, none⟩ := by
  unfold Addr.add
  split
  · rename_i h; subst h; rfl
  · rfl
/-- A row of cells that came in, where an element is sz cells. -/
theorem slice_old {T : TypeId} {sz len cap : Nat} {a : Addr} {xs : List Value} (hB : w.heap.size ≤ Base.b) (hl : len ≤ cap) (hm : cap ≤ maxLen) (hx : xs.length = len * sz) (hsz : 0 < sz)
    (h0 : 0 < cap → ∃ v, w.cell? (a.add 0) = some v) (hc : ∀ i, i < xs.length → w.cell? (a.add i) = xs[i]?) : SliceAt w T sz (.slice (some a) len cap) xs := by
  by_cases h : cap = 0
  · subst h
    obtain rfl : len = 0 := by omega
    exact ⟨0, 0, hx, Nat.le_refl _, Nat.zero_le _, .inl ⟨⟨_, rfl⟩, rfl⟩⟩
  · obtain ⟨v, hv⟩ := h0 (by omega)
    have ha : a.add 0 = a := by unfold Addr.add; simp
    rw [ha] at hv
    obtain ⟨b, off, rfl⟩ := addr_plain hv
    obtain ⟨hlt, c, U, fr, hb, hk⟩ := cell_block hv
    refine ⟨len, cap, hx, hl, hm, .inr ⟨b, off, c, fr, rfl, HeapLike.old hb (by omega), fun i hi => ?_⟩⟩
    rw [← hc i hi, addr_add', hk]
theorem wf_u64 {n : Int} (h : (Lit.int .u64 n).wf = true) : 0 ≤ n ∧ n < 18446744073709551616 := by
  simp [Lit.wf, IntKind.min, IntKind.max, IntKind.signed, IntKind.bits] at h
  omega
theorem open_words {fuel : Nat} {v : Value} {x : DataW H × List MemPlace} (hB : w.heap.size ≤ Base.b) (h : DataW.trod enc Tryd.prog w base (fun _ => true) held fuel 23 [v] = some x) : ∃ ws, WordsAt w v ws := by
  rcases open_slice1 Tryd.underlying23 (by kernel_rfl) h with ⟨hcs, _⟩ | ⟨a, len, cap, m, n, V, D, Pl, hcs, _, hl, hm, hmm, _, hx⟩
  · injection hcs with hcs _
    subst hcs
    exact ⟨[], WordsAt.nil⟩
  · injection hcs with hcs _
    subst hcs
    simp only [if_true] at hmm
    subst hmm
    have hV : ∀ i, i < m → ∃ z : Int, V i = .int .u64 z ∧ 0 ≤ z ∧ z < 18446744073709551616 := fun i hi => by
      obtain ⟨z, h1, _, h2⟩ := DataW.trod_int Tryd.underlying62 (hx i hi).2
      injection h1 with h1 _
      exact ⟨z, h1, wf_u64 h2⟩
    let f : Nat → Nat := fun i => match V i with | .int _ z => z.toNat | _ => 0
    have hf : ∀ i, i < m → V i = uv (f i) ∧ f i < 18446744073709551616 := fun i hi => by
      obtain ⟨z, h1, h2, h3⟩ := hV i hi
      show V i = .int .u64 ((f i : Nat) : Int) ∧ _
      have : f i = z.toNat := by show (match V i with | .int _ z => z.toNat | _ => 0) = _; rw [h1]
      rw [this, h1]
      exact ⟨by rw [Int.toNat_of_nonneg h2], by omega⟩
    refine ⟨(List.range len).map f, slice_old hB hl hm (by simp) (by omega) (fun h => ⟨_, (hx 0 h).1⟩) (fun i hi => ?_), fun y hy => ?_⟩
    · simp at hi
      rw [(hx i (by omega)).1, (hf i (by omega)).1]
      simp [hi]
    · simp only [List.mem_map, List.mem_range] at hy
      obtain ⟨i, hi, rfl⟩ := hy
      exact (hf i (by omega)).2
set_option maxRecDepth 100000 in
theorem open_set {fuel : Nat} {cs : List Value} {x : DataW H × List MemPlace} (hB : w.heap.size ≤ Base.b) (h : DataW.trod enc Tryd.prog w base (fun _ => true) held fuel 25 cs = some x) :
    ∃ (s : QSet) (u : Value), cs = [.int .i64 s.width, u] ∧ WordsAt w u s.words := by
  obtain ⟨xs, n, _, _, hlen, hxl, hf⟩ := DataW.trod_struct Tryd.underlying25 h
  have hlen2 : cs.length = 2 := hlen.trans (by kernel_rfl)
  match cs, hlen2 with
  | [c0, c1], _ =>
    have h0 : DataW.trod enc Tryd.prog w base (fun _ => true) held n 3 (List.take (Tryd.prog.cellsOf 3) (List.drop 0 [c0, c1])) = xs[0]? := hf 0 _ rfl
    have h1 : DataW.trod enc Tryd.prog w base (fun _ => true) held n 23 (List.take (Tryd.prog.cellsOf 23) (List.drop 1 [c0, c1])) = xs[1]? := hf 1 _ rfl
    have k0 : Tryd.prog.cellsOf 3 = 1 := by kernel_rfl
    have k1 : Tryd.prog.cellsOf 23 = 1 := by kernel_rfl
    rw [k0] at h0
    rw [k1] at h1
    simp only [List.drop_zero, List.drop_succ_cons, List.take_succ_cons, List.take_zero] at h0 h1
    have xl : xs.length = 2 := hxl
    rw [List.getElem?_eq_getElem (by omega)] at h0 h1
    obtain ⟨z, e0, _, _⟩ := DataW.trod_int Tryd.underlying3 h0
    injection e0 with e0 _
    subst e0
    obtain ⟨ws, hw⟩ := open_words hB h1
    exact ⟨⟨z, ws⟩, c1, rfl, hw⟩
theorem one_cell {c d : Value} (h : [c] = [d]) : c = d := by injection h
theorem open_ints_at {fuel : Nat} {v : Value} {x : DataW H × List MemPlace} (hB : w.heap.size ≤ Base.b) (h : DataW.trod enc Tryd.prog w base (fun _ => true) held fuel 22 [v] = some x) : ∃ l, IntsAt w v l := by
  rcases open_slice1 Tryd.underlying22 (by kernel_rfl) h with ⟨hcs, _⟩ | ⟨a, len, cap, m, n, V, D, Pl, hcs, _, hl, hm, hmm, _, hx⟩
  · injection hcs with hcs _
    subst hcs
    exact ⟨[], IntsAt.nil⟩
  · injection hcs with hcs _
    subst hcs
    simp only [if_true] at hmm
    subst hmm
    have hV : ∀ i, i < m → ∃ z : Int, V i = .int .i64 z := fun i hi => by
      obtain ⟨z, h1, _, h2⟩ := DataW.trod_int Tryd.underlying3 (hx i hi).2
      injection h1 with h1 _
      exact ⟨z, h1⟩
    let f : Nat → Int := fun i => match V i with | .int _ z => z | _ => 0
    have hf : ∀ i, i < m → V i = iv (f i) := fun i hi => by
      obtain ⟨z, h1⟩ := hV i hi
      show V i = .int .i64 (f i)
      have : f i = z := by show (match V i with | .int _ z => z | _ => 0) = _; rw [h1]
      rw [this, h1]
    refine ⟨(List.range len).map f, slice_old hB hl hm (by simp) (by omega) (fun h => ⟨_, (hx 0 h).1⟩) (fun i hi => ?_)⟩
    simp at hi
    rw [(hx i (by omega)).1, hf i (by omega)]
    simp [hi]
end
end Go.Proofs.YtmanmlankfoflaaDoor
