/- A part of the proof. -/
import Derived.Test.YtipnhmdibkkifaaGreatDoorNu02
import Derived.Test.YtipnhmdibkkifaaGreatDoorNu01
import Derived.Test.YtipnhmdibkkifaaGreatDoorNu00
import Derived.BigQuiet
set_option linter.unusedVariables false
set_option linter.unusedSimpArgs false
set_option linter.unusedVariables false
set_option linter.unusedSimpArgs false
set_option linter.unusedSectionVars false
namespace Go.Proofs.YtipnhmdibkkifaaGreatDoor
section
variable {α : Type} [DecidableEq α]
theorem idxI_mem {l : List α} {x : α} (h : x ∈ l) : ∃ k : Nat, idxI l x = k ∧ l[k]? = some x := by
  refine ⟨l.idxOf x, by unfold idxI; rw [if_pos h], ?_⟩
  rw [List.getElem?_eq_getElem (List.idxOf_lt_length_of_mem h)]
  simp
theorem idxI_no {l : List α} {x : α} (h : x ∉ l) : idxI l x = -1 := by unfold idxI; rw [if_neg h]
theorem idxI_nodup {l : List α} (hn : l.Nodup) {k : Nat} {x : α} (h : l[k]? = some x) : idxI l x = k := by
  obtain ⟨hk, rfl⟩ := List.getElem?_eq_some_iff.1 h
  have hm : l[k] ∈ l := List.getElem_mem hk
  unfold idxI
  rw [if_pos hm]
  congr 1
  exact hn.idxOf_getElem k hk
end
theorem Ckd.func {p : List PFunc} (h : Ckd p) {f : PFunc} (hf : f ∈ p) : funcB f = true := by
  have hv := h.valid
  unfold validB at hv
  simp only [Bool.and_eq_true, List.all_eq_true] at hv
  exact hv.2.2 f hf
theorem Ckd.block {p : List PFunc} (h : Ckd p) {f : PFunc} (hf : f ∈ p) : 1 ≤ f.blocks.length ∧ ∀ b ∈ f.blocks, blockB b = true := by
  have hv := h.func hf
  unfold funcB at hv
  simp only [Bool.and_eq_true, List.all_eq_true, decide_eq_true_eq] at hv
  exact ⟨hv.2.1, hv.2.2.2⟩
theorem Ckd.stmt {p : List PFunc} (h : Ckd p) {f : PFunc} (hf : f ∈ p) {b : PBlock} (hb : b ∈ f.blocks) : 1 ≤ b.stmts.length ∧ ∀ s ∈ b.stmts, stmtB s = true := by
  have hv := (h.block hf).2 b hb
  unfold blockB at hv
  simp only [Bool.and_eq_true, List.all_eq_true, decide_eq_true_eq] at hv
  exact ⟨hv.2.1, hv.2.2.2⟩
structure At (p : List PFunc) (i k j : Nat) (f : PFunc) (b : PBlock) (s : PStmt) : Prop where
  hf : p[i]? = some f
  hb : f.blocks[k]? = some b
  hs : b.stmts[j]? = some s
theorem At.fm {p : List PFunc} {i k j : Nat} {f : PFunc} {b : PBlock} {s : PStmt} (h : At p i k j f b s) : f ∈ p := List.mem_of_getElem? h.hf
theorem At.bm {p : List PFunc} {i k j : Nat} {f : PFunc} {b : PBlock} {s : PStmt} (h : At p i k j f b s) : b ∈ f.blocks := List.mem_of_getElem? h.hb
theorem At.sm {p : List PFunc} {i k j : Nat} {f : PFunc} {b : PBlock} {s : PStmt} (h : At p i k j f b s) : s ∈ b.stmts := List.mem_of_getElem? h.hs
theorem At.d {p : List PFunc} {i k j : Nat} {f : PFunc} {b : PBlock} {s : PStmt} (h : At p i k j f b s) (x : Int) : stmtD p ⟨x, i, k, j⟩ = s := by
  unfold stmtD stmtP
  simp [h.hf, h.hb, h.hs]
theorem At.fn {p : List PFunc} {i k j : Nat} {f : PFunc} {b : PBlock} {s : PStmt} (h : At p i k j f b s) : fnOf p i = f := by
  unfold fnOf
  simp [h.hf]
theorem fnOf_at {p : List PFunc} {i : Nat} {f : PFunc} (h : p[i]? = some f) : fnOf p i = f := by
  unfold fnOf
  simp [h]
theorem At.node3 {p : List PFunc} {i k j : Nat} {f : PFunc} {b : PBlock} {s : PStmt} (h : At p i k j f b s) : (⟨3, i, k, j⟩ : PNode) ∈ funcsN p 0 := mem_nodes.2 ⟨i, f, h.hf, .inr (.inr ⟨k, b, j, s, h.hb, h.hs, .inl rfl⟩)⟩
theorem At.node4 {p : List PFunc} {i k j : Nat} {f : PFunc} {b : PBlock} {s : PStmt} (h : At p i k j f b s) (h3 : s.op = 3) : (⟨4, i, k, j⟩ : PNode) ∈ funcsN p 0 := mem_nodes.2 ⟨i, f, h.hf, .inr (.inr ⟨k, b, j, s, h.hb, h.hs, .inr ⟨h3, rfl⟩⟩)⟩
theorem node1 {p : List PFunc} {i : Nat} {f : PFunc} (h : p[i]? = some f) : (⟨1, i, -1, -1⟩ : PNode) ∈ funcsN p 0 := mem_nodes.2 ⟨i, f, h, .inl rfl⟩
theorem node2 {p : List PFunc} {i : Nat} {f : PFunc} (h : p[i]? = some f) : (⟨2, i, -1, -1⟩ : PNode) ∈ funcsN p 0 := mem_nodes.2 ⟨i, f, h, .inr (.inl rfl)⟩
theorem Ckd.at_ {p : List PFunc} (hc : Ckd p) {i k j : Nat} {f : PFunc} {b : PBlock} {s : PStmt} (h : At p i k j f b s) :
    stmtB s = true ∧ (termB s.op = decide (j + 1 = b.stmts.length)) ∧ ∀ t ∈ s.targets, t ∈ (if s.op == 3 then fNames p else bNames f) := by
  have h1 := hc.stmts f h.fm b h.bm j s h.hs
  unfold stmtE at h1
  split at h1
  · cases h1
  rename_i h2
  have h3 : (s.targets.all fun t => (if s.op == 3 then fNames p else bNames f).contains t) = true := by
    cases hq : (s.targets.all fun t => (if s.op == 3 then fNames p else bNames f).contains t) with
    | true => rfl
    | false => rw [hq] at h1; simp at h1
  refine ⟨(hc.stmt h.fm h.bm).2 s h.sm, by simpa using h2, fun t ht => ?_⟩
  have := List.all_eq_true.1 h3 t ht
  simpa using this
theorem stmtB_call {s : PStmt} (h : stmtB s = true) (h3 : s.op = 3) : ∃ t, s.targets = [t] := by
  unfold stmtB opB at h
  simp only [Bool.and_eq_true] at h
  have h4 := h.2.2
  rw [h3] at h4
  simp at h4
  obtain ⟨t, ht⟩ := List.length_eq_one_iff.1 h4.2.2
  exact ⟨t, ht⟩
theorem Ckd.callee {p : List PFunc} (hc : Ckd p) {i k j : Nat} {f : PFunc} {b : PBlock} {s : PStmt} (h : At p i k j f b s) (h3 : s.op = 3) : ∃ (g : Nat) (f' : PFunc), fnI p (tgt s) = g ∧ p[g]? = some f' ∧ f'.name = tgt s := by
  obtain ⟨h1, -, h2⟩ := hc.at_ h
  obtain ⟨t, ht⟩ := stmtB_call h1 h3
  have hm : t ∈ fNames p := by
    have := h2 t (by simp [ht])
    rw [h3] at this
    simpa using this
  obtain ⟨g, hg, hg2⟩ := idxI_mem hm
  have e : tgt s = t := by unfold tgt; rw [ht]; rfl
  rw [e]
  unfold fNames at hg2
  rw [List.getElem?_map] at hg2
  cases hp : p[g]? with
  | none => rw [hp] at hg2; cases hg2
  | some f' =>
    rw [hp] at hg2
    exact ⟨g, f', hg, hp, by simpa using hg2⟩
theorem Ckd.fn_at {p : List PFunc} (hc : Ckd p) {i : Nat} {f : PFunc} (h : p[i]? = some f) : fnI p f.name = i := by
  refine idxI_nodup hc.funcs ?_
  unfold fNames
  rw [List.getElem?_map, h]
  rfl
theorem edge_iff {p : List PFunc} (hc : Ckd p) (n m : PNode) : (n, m) ∈ edgesL p (funcsN p 0) ↔ n ∈ funcsN p 0 ∧ m ∈ nextN p (funcsN p 0) n := by
  have hm : (n, m) ∈ edgesL p (funcsN p 0) ↔ ∃ a ∈ funcsN p 0, (n, m) ∈ edgesAt p a := by
    unfold edgesL
    simp only [List.mem_flatten, List.mem_map]
    constructor
    · rintro ⟨l, ⟨a, h1, rfl⟩, h2⟩
      exact ⟨a, h1, h2⟩
    · rintro ⟨a, h1, h2⟩
      exact ⟨_, ⟨a, h1, rfl⟩, h2⟩
  rw [hm]
  constructor
  · rintro ⟨a, ha, he⟩
    obtain ⟨i, f, hi, hk⟩ := mem_nodes.1 ha
    rcases hk with rfl | rfl | ⟨k, b, j, s, hb, hs, hk⟩
    · simp only [edgesAt, if_true, List.mem_singleton, Prod.mk.injEq] at he
      obtain ⟨rfl, rfl⟩ := he
      exact ⟨ha, by simp [nextN]⟩
    · simp [edgesAt] at he
    · have hA : At p i k j f b s := ⟨hi, hb, hs⟩
      rcases hk with rfl | ⟨h3, rfl⟩
      · have hd := hA.d 3
        have hfn := hA.fn
        unfold edgesAt at he
        rw [if_neg (by simp), if_pos rfl, hd] at he
        by_cases h7 : s.op = 7 ∨ s.op = 8
        · rw [if_pos h7] at he
          obtain ⟨t, ht, e⟩ := List.mem_map.1 he
          injection e with e1 e2
          subst e1 e2
          refine ⟨ha, ?_⟩
          unfold nextN
          rw [if_neg (by simp), if_neg (by simp), hd, if_neg (by omega), if_neg (by omega), if_pos h7]
          exact List.mem_map.2 ⟨t, ht, rfl⟩
        rw [if_neg h7] at he
        by_cases h9 : s.op = 9
        · rw [if_pos h9] at he
          simp only [List.mem_singleton, Prod.mk.injEq] at he
          obtain ⟨rfl, rfl⟩ := he
          refine ⟨ha, ?_⟩
          unfold nextN
          rw [if_neg (by simp), if_neg (by simp), hd, if_pos h9]
          simp
        rw [if_neg h9] at he
        by_cases h3 : s.op = 3
        · rw [if_pos h3] at he
          obtain ⟨g, f', hg, hg2, hg3⟩ := hc.callee hA h3
          rw [hg] at he
          simp only [List.mem_cons, Prod.mk.injEq, List.not_mem_nil, or_false] at he
          rcases he with ⟨rfl, rfl⟩ | ⟨rfl, rfl⟩ | ⟨rfl, rfl⟩
          · refine ⟨ha, ?_⟩
            unfold nextN
            rw [if_neg (by simp), if_neg (by simp), hd, if_neg h9, if_pos ⟨h3, rfl⟩, hg]
            simp
          · refine ⟨node2 hg2, ?_⟩
            unfold nextN
            rw [if_neg (by simp), if_pos rfl]
            refine List.mem_filter.2 ⟨hA.node4 h3, ?_⟩
            simp [hA.d 4, fnOf_at hg2, hg3]
          · refine ⟨hA.node4 h3, ?_⟩
            unfold nextN
            rw [if_neg (by simp), if_neg (by simp), hA.d 4, if_neg h9, if_neg (by simp), if_neg h7]
            simp
        · rw [if_neg h3] at he
          simp only [List.mem_singleton, Prod.mk.injEq] at he
          obtain ⟨rfl, rfl⟩ := he
          refine ⟨ha, ?_⟩
          unfold nextN
          rw [if_neg (by simp), if_neg (by simp), hd, if_neg h9, if_neg (fun h => h3 h.1), if_neg h7]
          simp
      · simp [edgesAt] at he
  · rintro ⟨hn, hx⟩
    obtain ⟨i, f, hi, hk⟩ := mem_nodes.1 hn
    rcases hk with rfl | rfl | ⟨k, b, j, s, hb, hs, hk⟩
    · refine ⟨_, hn, ?_⟩
      simp only [nextN, if_true, List.mem_singleton] at hx
      subst hx
      simp [edgesAt]
    · unfold nextN at hx
      rw [if_neg (by simp), if_pos rfl] at hx
      obtain ⟨hm1, hm2⟩ := List.mem_filter.1 hx
      simp only [Bool.and_eq_true, beq_iff_eq, fnOf_at hi] at hm2
      obtain ⟨i', f', hi', hk'⟩ := mem_nodes.1 hm1
      rcases hk' with rfl | rfl | ⟨k, b, j, s, hb, hs, hk'⟩
      · simp at hm2
      · simp at hm2
      · have hA : At p i' k j f' b s := ⟨hi', hb, hs⟩
        rcases hk' with rfl | ⟨h3, rfl⟩
        · simp at hm2
        · refine ⟨_, hA.node3, ?_⟩
          unfold edgesAt
          rw [if_neg (by simp), if_pos rfl, hA.d 3, if_neg (by omega), if_neg (by omega), if_pos h3]
          have h5 := hm2.2
          rw [hA.d 4] at h5
          rw [h5, hc.fn_at hi]
          simp
    · have hA : At p i k j f b s := ⟨hi, hb, hs⟩
      rcases hk with rfl | ⟨h3, rfl⟩
      · refine ⟨_, hn, ?_⟩
        unfold nextN at hx
        rw [if_neg (by simp), if_neg (by simp), hA.d 3] at hx
        unfold edgesAt
        rw [if_neg (by simp), if_pos rfl, hA.d 3]
        by_cases h9 : s.op = 9
        · rw [if_pos h9] at hx
          rw [if_neg (by omega), if_pos h9]
          simpa using hx
        rw [if_neg h9] at hx
        by_cases h3 : s.op = 3
        · rw [if_pos ⟨h3, rfl⟩] at hx
          rw [if_neg (by omega), if_neg h9, if_pos h3]
          simp only [List.mem_singleton] at hx
          subst hx
          simp
        rw [if_neg (fun h => h3 h.1)] at hx
        by_cases h7 : s.op = 7 ∨ s.op = 8
        · rw [if_pos h7] at hx ⊢
          obtain ⟨t, ht, rfl⟩ := List.mem_map.1 hx
          exact List.mem_map.2 ⟨t, ht, rfl⟩
        · rw [if_neg h7] at hx
          rw [if_neg h7, if_neg h9, if_neg h3]
          simpa using hx
      · refine ⟨_, hA.node3, ?_⟩
        unfold nextN at hx
        rw [if_neg (by simp), if_neg (by simp), hA.d 4, if_neg (by omega), if_neg (by simp), if_neg (by omega)] at hx
        unfold edgesAt
        rw [if_neg (by simp), if_pos rfl, hA.d 3, if_neg (by omega), if_neg (by omega), if_pos h3]
        simp only [List.mem_singleton] at hx
        subst hx
        simp
theorem next_mem {p : List PFunc} (hc : Ckd p) {n m : PNode} (hn : n ∈ funcsN p 0) (hx : m ∈ nextN p (funcsN p 0) n) : m ∈ funcsN p 0 := by
  have first : ∀ (i k : Nat) (f : PFunc) (b : PBlock), p[i]? = some f → f.blocks[k]? = some b → (⟨3, (i : Nat), (k : Nat), 0⟩ : PNode) ∈ funcsN p 0 := fun i k f b h1 h2 => by
    have h3 := (hc.stmt (List.mem_of_getElem? h1) (List.mem_of_getElem? h2)).1
    exact At.node3 (j := 0) ⟨h1, h2, List.getElem?_eq_getElem (by omega)⟩
  obtain ⟨i, f, hi, hk⟩ := mem_nodes.1 hn
  rcases hk with rfl | rfl | ⟨k, b, j, s, hb, hs, hk⟩
  · simp only [nextN, if_true, List.mem_singleton] at hx
    subst hx
    have h1 := (hc.block (List.mem_of_getElem? hi)).1
    exact first i 0 f _ hi (List.getElem?_eq_getElem (by omega))
  · unfold nextN at hx
    rw [if_neg (by simp), if_pos rfl] at hx
    exact (List.mem_filter.1 hx).1
  · have hA : At p i k j f b s := ⟨hi, hb, hs⟩
    obtain ⟨hsb, hterm, htg⟩ := hc.at_ hA
    have nxt : termB s.op = false → (⟨3, (i : Nat), (k : Nat), (j : Int) + 1⟩ : PNode) ∈ funcsN p 0 := fun ht => by
      have h1 := (List.getElem?_eq_some_iff.1 hs).1
      rw [ht] at hterm
      have h2 : j + 1 < b.stmts.length := by
        have : ¬ (j + 1 = b.stmts.length) := by simpa using hterm.symm
        omega
      have := At.node3 (j := j + 1) (p := p) (i := i) (k := k) ⟨hi, hb, List.getElem?_eq_getElem h2⟩
      simpa using this
    have goal3 : ∀ x : Int, (x = 3 ∨ x = 4 ∧ s.op = 3) → m ∈ nextN p (funcsN p 0) ⟨x, i, k, j⟩ → m ∈ funcsN p 0 := fun x hx3 hx => by
      unfold nextN at hx
      rw [if_neg (by simp; omega), if_neg (by simp; omega), hA.d x] at hx
      by_cases h9 : s.op = 9
      · rw [if_pos h9] at hx
        simp at hx
        subst hx
        exact node2 hi
      rw [if_neg h9] at hx
      by_cases h3 : s.op = 3 ∧ x = 3
      · rw [if_pos h3] at hx
        obtain ⟨g, f', hg, hg2, -⟩ := hc.callee hA h3.1
        rw [hg] at hx
        simp at hx
        subst hx
        exact node1 hg2
      rw [if_neg h3] at hx
      by_cases h7 : s.op = 7 ∨ s.op = 8
      · rw [if_pos h7] at hx
        obtain ⟨t, ht, rfl⟩ := List.mem_map.1 hx
        have h4 := htg t ht
        rw [if_neg (by simp; omega)] at h4
        obtain ⟨q, hq, hq2⟩ := idxI_mem h4
        simp only [hA.fn]
        unfold blkI
        rw [hq]
        unfold bNames at hq2
        rw [List.getElem?_map] at hq2
        cases hbq : f.blocks[q]? with
        | none => rw [hbq] at hq2; cases hq2
        | some b' => exact first i q f b' hi hbq
      · rw [if_neg h7] at hx
        simp at hx
        subst hx
        refine nxt ?_
        unfold termB
        simp
        omega
    rcases hk with rfl | ⟨h3, rfl⟩
    · exact goal3 3 (.inl rfl) hx
    · exact goal3 4 (.inr ⟨rfl, h3⟩) hx
end Go.Proofs.YtipnhmdibkkifaaGreatDoor
set_option linter.unusedVariables false
set_option linter.unusedSimpArgs false
set_option linter.unusedSectionVars false
namespace Go.Proofs.YtipnhmdibkkifaaGreatDoor
def Asc (l : List Int) : Prop := l.Pairwise (· < ·)
theorem asc_ext : ∀ {a b : List Int}, Asc a → Asc b → (∀ x, x ∈ a ↔ x ∈ b) → a = b
  | [], [], _, _, _ => rfl
  | [], y :: b, _, _, h => by have := (h y).2 (by simp); cases this
  | x :: a, [], _, _, h => by have := (h x).1 (by simp); cases this
  | x :: a, y :: b, ha, hb, h => by
    obtain ⟨ha1, ha2⟩ := List.pairwise_cons.1 ha
    obtain ⟨hb1, hb2⟩ := List.pairwise_cons.1 hb
    have e : x = y := by
      rcases List.mem_cons.1 ((h x).1 (by simp)) with e | e
      · exact e
      · rcases List.mem_cons.1 ((h y).2 (by simp)) with e' | e'
        · exact e'.symm
        · have := ha1 y e'
          have := hb1 x e
          omega
    subst e
    congr 1
    refine asc_ext ha2 hb2 fun z => ?_
    constructor
    · intro hz
      rcases List.mem_cons.1 ((h z).1 (List.mem_cons_of_mem _ hz)) with e | e
      · have := ha1 z hz; omega
      · exact e
    · intro hz
      rcases List.mem_cons.1 ((h z).2 (List.mem_cons_of_mem _ hz)) with e | e
      · have := hb1 z hz; omega
      · exact e
def rowF (n : Nat) (f : Nat → Bool) : List Int := ((List.range n).filter f).map fun k : Nat => (k : Int)
theorem mem_rowF {n : Nat} {f : Nat → Bool} {x : Int} : x ∈ rowF n f ↔ ∃ k : Nat, x = k ∧ k < n ∧ f k = true := by
  unfold rowF
  simp only [List.mem_map, List.mem_filter, List.mem_range]
  constructor
  · rintro ⟨k, ⟨h1, h2⟩, rfl⟩; exact ⟨k, rfl, h1, h2⟩
  · rintro ⟨k, rfl, h1, h2⟩; exact ⟨k, ⟨h1, h2⟩, rfl⟩
theorem asc_rowF (n : Nat) (f : Nat → Bool) : Asc (rowF n f) := by
  unfold Asc rowF
  refine List.Pairwise.map (R := (· < ·)) _ (fun a b h => by omega) ?_
  exact List.pairwise_lt_range.sublist List.filter_sublist
def edgeB (p : List PFunc) (l : List PNode) (i j : Nat) : Bool :=
  match l[i]?, l[j]? with
  | some n, some m => decide (m ∈ nextN p l n)
  | _, _ => false
def succP (p : List PFunc) (i : Nat) : List Int := rowF (nodesP p).length fun j => edgeB p (nodesP p) i j
def predP (p : List PFunc) (j : Nat) : List Int := rowF (nodesP p).length fun i => edgeB p (nodesP p) i j
def succsP (p : List PFunc) : List (List Int) := (List.range (nodesP p).length).map (succP p)
def predsP (p : List PFunc) : List (List Int) := (List.range (nodesP p).length).map (predP p)
theorem count_le {α : Type} [DecidableEq α] : ∀ {a b : List α}, a.Nodup → (∀ x ∈ a, x ∈ b) → a.length ≤ b.length
  | [], b, _, _ => Nat.zero_le _
  | x :: a, b, h, hs => by
    obtain ⟨h1, h2⟩ := List.nodup_cons.1 h
    have hx : x ∈ b := hs x (by simp)
    have h3 := count_le (b := b.erase x) h2 (fun y hy => by
      have hne : y ≠ x := fun e => h1 (e ▸ hy)
      exact (List.mem_erase_of_ne hne).2 (hs y (List.mem_cons_of_mem _ hy)))
    have h4 := List.length_erase_of_mem hx
    have h5 : 0 < b.length := List.length_pos_of_mem hx
    simp only [List.length_cons]
    omega
theorem sumI_app (a b : List Int) : sumI (a ++ b) = sumI a + sumI b := by
  have h : ∀ (l : List Int) (x : Int), l.foldl (· + ·) x = x + sumI l := by
    intro l
    induction l with
    | nil => intro x; simp [sumI]
    | cons y l ih => intro x; unfold sumI; rw [List.foldl_cons, List.foldl_cons, ih, ih (0 + y)]; omega
  unfold sumI
  rw [List.foldl_append, h b]
  rfl
theorem sumI_cons (x : Int) (l : List Int) : sumI (x :: l) = x + sumI l := by
  have := sumI_app [x] l
  simpa [sumI] using this
theorem edgesL_app (p : List PFunc) (a b : List PNode) : edgesL p (a ++ b) = edgesL p a ++ edgesL p b := by
  unfold edgesL
  rw [List.map_append, List.flatten_append]
theorem edgesL_cons (p : List PFunc) (n : PNode) (b : List PNode) : edgesL p (n :: b) = edgesAt p n ++ edgesL p b := rfl
theorem nodes_stmts (i k : Nat) : ∀ (l : List PStmt) (m : Nat), ((stmtsN i k l m).length : Int) = sumI (l.map nodeC)
  | [], m => by simp [stmtsN, sumI]
  | s :: r, m => by
    unfold stmtsN
    rw [List.length_append, Int.natCast_add, nodes_stmts i k r (m + 1), List.map_cons, sumI_cons]
    congr 1
    unfold stmtN nodeC
    by_cases h : s.op = 3 <;> simp [h]
theorem nodes_blocks (i : Nat) : ∀ (l : List PBlock) (m : Nat), ((blocksN i l m).length : Int) = sumI ((l.map PBlock.stmts).flatten.map nodeC)
  | [], m => by simp [blocksN, sumI]
  | s :: r, m => by
    unfold blocksN
    rw [List.length_append, Int.natCast_add, nodes_stmts, nodes_blocks i r (m + 1), List.map_cons, List.flatten_cons, List.map_append, sumI_app]
theorem nodes_funcs : ∀ (l : List PFunc) (m : Nat), ((funcsN l m).length : Int) = 2 * l.length + sumI ((stmtsP l).map nodeC)
  | [], m => by simp [funcsN, sumI, stmtsP]
  | f :: r, m => by
    unfold funcsN funcN
    have e3 : stmtsP (f :: r) = (f.blocks.map PBlock.stmts).flatten ++ stmtsP r := rfl
    rw [List.length_append, List.length_cons, List.length_append, e3, List.map_append, sumI_app]
    have h1 := nodes_blocks m f.blocks 0
    have h2 := nodes_funcs r (m + 1)
    simp only [List.length_cons, List.length_nil]
    omega
theorem nodes_count {p : List PFunc} (hc : Ckd p) : ((funcsN p 0).length : Int) = nodesN p := by
  rw [nodes_funcs]
  unfold nodesN
  rw [if_pos hc.valid]
theorem nodes_eq {p : List PFunc} (h : checkE p = 0) : nodesP p = funcsN p 0 := by unfold nodesP; rw [if_pos h]
theorem nodes_le {p : List PFunc} : (nodesP p).length ≤ 256 := by
  unfold nodesP
  split
  · rename_i h
    have hc := check_ckd h
    have := nodes_count hc
    have := hc.nodes
    omega
  · simp
end Go.Proofs.YtipnhmdibkkifaaGreatDoor
set_option linter.unusedVariables false
set_option linter.unusedSimpArgs false
set_option linter.unusedSectionVars false
namespace Go.Proofs.YtipnhmdibkkifaaGreatDoor
variable [Base]
def ascGo (n : Int) : Option Int → List Int → Bool
  | _, [] => true
  | p, x :: r => ((decide (0 ≤ x) && decide (x < n)) && (match p with | none => true | some q => decide (q < x))) && ascGo n (some x) r
def ascB (n : Int) (l : List Int) : Bool := ascGo n none l
def lenI {α : Type} (l : List α) : Int := (l.length : Int)
def totI (l : List (List Int)) : Int := sumI (l.map lenI)
end Go.Proofs.YtipnhmdibkkifaaGreatDoor
set_option linter.unusedVariables false
set_option linter.unusedSimpArgs false
set_option linter.unusedSectionVars false
namespace Go.Proofs.YtipnhmdibkkifaaGreatDoor
variable [Base]
theorem stmtB_uses {s : PStmt} (h : stmtB s = true) : (∀ u ∈ s.uses, nameB u = true) ∧ s.uses.length ≤ 4 := by
  unfold stmtB namesB at h
  simp only [Bool.and_eq_true, List.all_eq_true, decide_eq_true_eq] at h
  exact ⟨h.1.1, by omega⟩
end Go.Proofs.YtipnhmdibkkifaaGreatDoor
set_option linter.unusedVariables false
set_option linter.unusedSimpArgs false
set_option linter.unusedSectionVars false
namespace Go.Proofs.YtipnhmdibkkifaaGreatDoor
variable [Base]
theorem nodes_pos {p : List PFunc} (h : checkE p = 0) : 1 ≤ (nodesP p).length := by
  rw [nodes_eq h]
  have hv := (check_ckd h).valid
  unfold validB at hv
  simp only [Bool.and_eq_true, decide_eq_true_eq] at hv
  obtain ⟨f, hf⟩ : ∃ f, p[0]? = some f := ⟨_, List.getElem?_eq_getElem (by omega)⟩
  exact List.length_pos_of_mem (node1 hf)
end Go.Proofs.YtipnhmdibkkifaaGreatDoor
set_option linter.unusedVariables false
set_option linter.unusedSimpArgs false
set_option linter.unusedSectionVars false
namespace Go.Proofs.YtipnhmdibkkifaaGreatDoor
open Go.RowKit
variable [Base]
theorem cells4s {b : Nat} {w : World} {v0 v1 v2 v3 : Value} {t : TypeId} (h : w.heap[b]? = some (.cells #[v0, v1, v2, v3] t (0, 0))) :
    w.cell? ⟨b, 0, none⟩ = some v0 ∧ w.cell? ⟨b, 1, none⟩ = some v1 ∧ w.cell? ⟨b, 2, none⟩ = some v2 ∧ w.cell? ⟨b, 3, none⟩ = some v3 := by
  simp [World.cell?, h]
theorem cells2s {b : Nat} {w : World} {v0 v1 : Value} {t : TypeId} (h : w.heap[b]? = some (.cells #[v0, v1] t (0, 0))) :
    w.cell? ⟨b, 0, none⟩ = some v0 ∧ w.cell? ⟨b, 1, none⟩ = some v1 := by
  simp [World.cell?, h]
section
variable (s : PStmt) (u t : Value) (w : World)
theorem terminator_any : Calls Tryz.prog 109 #[.agg #[iv s.op, sv s.dfn, u, t]] w (BoolQ (termB s.op) w) := by
  have ba := Lib.hid (fun x : Int => (Below.refl w.heap.size w).alloc (Nat.le_refl _) (.cells #[iv x, sv s.dfn, u, t] 118))
  obtain ⟨c0, c1, c2, c3⟩ := cells4s (heap_alloc_new w (.cells #[iv s.op, sv s.dfn, u, t] 118))
  go_enter Tryz.func109, Tryz.ntmps109
  go_wp2
  all_goals
    go_ret
    exact ⟨by unfold termB; simp_all, ba.out _⟩
def StrQ (x : Str) (w : World) (e : Ending) (w' : World) : Prop := e = .returned (sv x) ∧ Below w.heap.size w w'
theorem fname_any (x : Str) (v : Value) : Calls Tryz.prog 44 #[.agg #[sv x, v]] w (StrQ x w) := by
  have ba := Lib.hid ((Below.refl w.heap.size w).alloc (Nat.le_refl _) (.cells #[sv x, v] 74))
  obtain ⟨c0, c1⟩ := cells2s (heap_alloc_new w (.cells #[sv x, v] 74))
  go_enter Tryz.func44, Tryz.ntmps44
  go_wp2
  go_ret
  exact ⟨rfl, ba.out⟩
theorem bname_any (x : Str) (v : Value) : Calls Tryz.prog 71 #[.agg #[sv x, v]] w (StrQ x w) := by
  have ba := Lib.hid ((Below.refl w.heap.size w).alloc (Nat.le_refl _) (.cells #[sv x, v] 99))
  obtain ⟨c0, c1⟩ := cells2s (heap_alloc_new w (.cells #[sv x, v] 99))
  go_enter Tryz.func71, Tryz.ntmps71
  go_wp2
  go_ret
  exact ⟨rfl, ba.out⟩
end
end Go.Proofs.YtipnhmdibkkifaaGreatDoor
