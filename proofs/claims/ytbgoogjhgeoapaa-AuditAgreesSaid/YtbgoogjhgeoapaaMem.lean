/- Slices in memory, and what keeps them. No program in sight. -/
import Derived.WalkKit
import Derived.WalkSpells
import Derived.Lib.Hide
import Derived.Deep.QuietTactic
import Derived.Deep.AppendLies
import Derived.Test.YtbgoogjhgeoapaaOwn
set_option linter.unusedVariables false
set_option linter.unusedSimpArgs false
set_option linter.unusedSectionVars false
namespace Go.Proofs.Ytbgoogjhgeoapaa
open Go.RowKit
variable [Base]

/-- v is a slice (nil or not) of n elements of type T, 'sz' cells each, that hold xs. -/
def SliceAt (w : World) (T : TypeId) (sz : Nat) (v : Value) (xs : List Value) : Prop :=
  ∃ n cap : Nat, xs.length = n * sz ∧ n ≤ cap ∧ cap ≤ maxLen ∧ (((∃ a, v = .slice a 0 0) ∧ n = 0) ∨
    ∃ b off c fr, v = .slice (some ⟨b, off, none⟩) n cap ∧ HeapLike w b c T fr ∧ ∀ i, i < xs.length → c[off + i]? = xs[i]?)

/-- The type of a block of cells. -/
def tyAt (w : World) (b : Nat) : Option TypeId := match w.heap[b]? with | some (.cells _ t _) => if b < Base.b then none else some t | _ => none
theorem tyAt_of {w : World} {b : Nat} {c : Array Value} {t : TypeId} {fr : Nat × Nat} (h : w.heap[b]? = some (.cells c t fr)) (hb : Base.b ≤ b := by (try dsimp only); omega) : tyAt w b = some t := by
  unfold tyAt
  rw [h]
  exact if_neg (Nat.not_lt.2 hb)
theorem tyAt_heap {w w' : World} {b : Nat} (h : w'.heap[b]? = w.heap[b]?) : tyAt w' b = tyAt w b := by
  unfold tyAt
  rw [h]
theorem lt_heap {w : World} {b : Nat} {o : Obj} (h : w.heap[b]? = some o) : b < w.heap.size := by
  rcases Nat.lt_or_ge b w.heap.size with h1 | h1
  · exact h1
  · rw [Array.getElem?_eq_none h1] at h; cases h

theorem SliceAt.nil {w : World} {T : TypeId} {sz : Nat} : SliceAt w T sz (.slice none 0 0) [] := ⟨0, 0, by simp, Nat.le_refl _, Nat.zero_le _, .inl ⟨⟨none, rfl⟩, rfl⟩⟩

theorem SliceAt.of_owns {w : World} {base : Nat} {T : TypeId} {sz : Nat} {v : Value} {n : Nat} {xs : List Value} (h : w.ownsRow base T sz v n xs) : SliceAt w T sz v xs := by
  obtain ⟨h1, h2⟩ := h
  rcases h2 with ⟨rfl, rfl⟩ | ⟨g, cap, cur, rfl, _, hg, hn, hc, hs, ht⟩
  · have : xs = [] := List.length_eq_zero_iff.1 (by omega)
    subst this
    exact .nil
  · refine ⟨n, cap, h1, hn, hc, .inr ⟨g, 0, cur, (0, 0), rfl, .of hg, fun i hi => ?_⟩⟩
    rw [← ht, List.getElem?_take_of_lt (by omega)]
    simp

/-- Blocks of type T are as they were. -/
def SameT (T : TypeId) (w w' : World) : Prop := ∀ (b : Nat) (c : Array Value) (fr : Nat × Nat) (U : TypeId), (U = T ∨ b < Base.b) → w.heap[b]? = some (Obj.cells c U fr) → w'.heap[b]? = some (Obj.cells c U fr)
theorem SameT.own {T : TypeId} {w w' : World} (h : SameT T w w') {b : Nat} {c : Array Value} {fr : Nat × Nat} (e : w.heap[b]? = some (.cells c T fr)) : w'.heap[b]? = some (.cells c T fr) := h b c fr T (.inl rfl) e
theorem HeapLike.same {T : TypeId} {w w' : World} {b : Nat} {c : Array Value} {fr : Nat × Nat} (h : HeapLike w b c T fr) (hs : SameT T w w') : HeapLike w' b c T fr := by
  obtain ⟨U, hU, h⟩ := h
  exact ⟨U, hU, hs _ _ _ U hU h⟩

theorem SliceAt.same {w w' : World} {T : TypeId} {sz : Nat} {v : Value} {xs : List Value} (h : SliceAt w T sz v xs) (hs : SameT T w w') : SliceAt w' T sz v xs := by
  obtain ⟨n, cap, h1, h2, h3, h4⟩ := h
  refine ⟨n, cap, h1, h2, h3, ?_⟩
  rcases h4 with h4 | ⟨b, off, c, fr, e1, e2, e3⟩
  · exact .inl h4
  · exact .inr ⟨b, off, c, fr, e1, e2.same hs, e3⟩

theorem SameT.refl {T : TypeId} {w : World} : SameT T w w := fun _ _ _ _ _ h => h
theorem SameT.trans {T : TypeId} {a b c : World} (h : SameT T a b) (k : SameT T b c) : SameT T a c := fun x y z U hU e => k x y z U hU (h x y z U hU e)
theorem SameT.below {T : TypeId} {w w' : World} (h : Below w.heap.size w w') : SameT T w w' := fun b _ _ _ _ e => (h.block b (lt_heap e)).trans e
theorem SameT.drewN {T : TypeId} {w : World} {n : Nat} : SameT T w (w.drewN n) := fun _ _ _ _ _ h => h
theorem SameT.alloc {T : TypeId} {w : World} {o : Obj} : SameT T w (w.alloc o) := fun b _ _ _ _ e => (Below.heap_alloc w o b (lt_heap e)).trans e
theorem SameT.setCell {T U : TypeId} {w : World} {p : Addr} {u : Value} (h : tyAt w p.block = some U) (hne : T ≠ U) : SameT T w (w.setCell p u) := fun b c fr V hV e => by
  rw [Below.heap_setCell _ _ _ _ (fun hb => by
    unfold tyAt at h
    rw [← hb, e] at h
    by_cases hx : b < Base.b
    · simp only [if_pos hx] at h; cases h
    · simp only [if_neg hx] at h
      injection h with h
      rcases hV with hV | hV
      · exact hne (hV.symm.trans h)
      · exact hx hV)]
  exact e
theorem SameT.grown {T U : TypeId} {w w' : World} {base n sz : Nat} {v : Value} {xs : List Value} (hg : w.grownBy w' v.ownBlock) (ho : w.ownsRow base U sz v n xs) (hne : T ≠ U) (hbase : Base.b ≤ base := by omega) : SameT T w w' := fun b c fr V hV e => by
  rw [hg.block b (lt_heap e) ?_]
  · exact e
  · intro hb
    rcases ho.2 with ⟨rfl, _⟩ | ⟨g, cap, cur, rfl, hgb, hh, _⟩
    · simp [Value.ownBlock] at hb
    · simp [Value.ownBlock] at hb
      subst hb
      rw [hh] at e
      injection e with e
      injection e with _ e2 _
      rcases hV with hV | hV
      · exact hne (hV.symm.trans e2.symm)
      · omega

/-- Element by element. -/
def All2 {α β : Type} (R : α → β → Prop) : List α → List β → Prop
  | [], [] => True
  | a :: as, b :: bs => R a b ∧ All2 R as bs
  | _, _ => False

theorem All2.mono {α β : Type} {R S : α → β → Prop} (h : ∀ a b, R a b → S a b) : ∀ {as : List α} {bs : List β}, All2 R as bs → All2 S as bs
  | [], [], _ => trivial
  | _ :: _, _ :: _, ⟨h1, h2⟩ => ⟨h _ _ h1, All2.mono h h2⟩
theorem All2.length {α β : Type} {R : α → β → Prop} : ∀ {as : List α} {bs : List β}, All2 R as bs → as.length = bs.length
  | [], [], _ => rfl
  | _ :: _, _ :: _, ⟨_, h2⟩ => by simp [All2.length h2]
theorem All2.append {α β : Type} {R : α → β → Prop} : ∀ {as cs : List α} {bs ds : List β}, All2 R as bs → All2 R cs ds → All2 R (as ++ cs) (bs ++ ds)
  | [], _, [], _, _, h => h
  | _ :: _, _, _ :: _, _, ⟨h1, h2⟩, h => ⟨h1, All2.append h2 h⟩
theorem All2.get {α β : Type} {R : α → β → Prop} : ∀ {as : List α} {bs : List β} (_ : All2 R as bs) (i : Nat) (h1 : i < as.length) (h2 : i < bs.length), R as[i] bs[i]
  | _ :: _, _ :: _, ⟨h, _⟩, 0, _, _ => h
  | _ :: _, _ :: _, ⟨_, h⟩, i + 1, h1, h2 => All2.get h i (by simpa using h1) (by simpa using h2)

/-- A cell of a list of rows of one length. -/
theorem flatten_get {α : Type} (sz : Nat) : ∀ (l : List (List α)) (_ : ∀ x ∈ l, x.length = sz) (i j : Nat) (hi : i < l.length) (_ : j < sz), l.flatten[i * sz + j]? = l[i][j]?
  | x :: l, h, 0, j, _, hj => by
    simp only [List.flatten_cons, Nat.zero_mul, Nat.zero_add, List.getElem_cons_zero]
    rw [List.getElem?_append_left (by rw [h x (List.mem_cons_self)]; exact hj)]
  | x :: l, h, i + 1, j, hi, hj => by
    have hx := h x List.mem_cons_self
    simp only [List.flatten_cons, List.getElem_cons_succ]
    rw [List.getElem?_append_right (by rw [hx]; rw [Nat.succ_mul]; omega), hx, show (i + 1) * sz + j - sz = i * sz + j from by rw [Nat.succ_mul]; omega]
    exact flatten_get sz l (fun y hy => h y (List.mem_cons_of_mem _ hy)) i j (by simpa using hi) hj
theorem flatten_len {α : Type} (sz : Nat) : ∀ (l : List (List α)) (_ : ∀ x ∈ l, x.length = sz), l.flatten.length = l.length * sz
  | [], _ => by simp
  | x :: l, h => by
    rw [List.flatten_cons, List.length_append, h x List.mem_cons_self, flatten_len sz l (fun y hy => h y (List.mem_cons_of_mem _ hy)), List.length_cons, Nat.succ_mul]; omega

/-- What a walk over a slice wants: its shape, its length, its cells. -/
theorem SliceAt.form {w : World} {T : TypeId} {sz : Nat} {v : Value} {xs : List Value} (h : SliceAt w T sz v xs) :
    ∃ a n c, v = .slice a n c ∧ xs.length = n * sz ∧ n ≤ maxLen ∧ n ≤ c ∧ c ≤ maxLen ∧ (0 < n → ∃ b off, a = some ⟨b, off, none⟩ ∧ b < w.heap.size ∧ True ∧ ∀ i, i < xs.length → w.cell? ⟨b, off + i, none⟩ = xs[i]?) := by
  obtain ⟨n, cap, h1, h2, h3, h4⟩ := h
  rcases h4 with ⟨⟨a, rfl⟩, rfl⟩ | ⟨b, off, c, fr, rfl, e2, e3⟩
  · exact ⟨a, 0, 0, rfl, h1, Nat.zero_le _, Nat.le_refl _, Nat.zero_le _, fun h => by omega⟩
  · exact ⟨some ⟨b, off, none⟩, n, cap, rfl, h1, by omega, h2, h3, fun _ => ⟨b, off, rfl, e2.lt, trivial, fun i hi => by rw [← e3 i hi, e2.cell]⟩⟩

theorem block_new {w : World} {cs : List Value} {e : TypeId} (j : Nat) (u : Value) (h : cs[j]? = some u) : (w.alloc (.cells cs.toArray e)).cell? ((⟨w.heap.size, 0, none⟩ : Addr).add j) = some u := by
  have h2 : ((⟨w.heap.size, 0, none⟩ : Addr).add j) = ⟨w.heap.size, j, none⟩ := by
    unfold Addr.add
    split
    · rename_i h0; subst h0; rfl
    · simp
  rw [h2, World.cell?_alloc_new]
  simpa using h

/-- 'append(v, x)' of one element that has just been laid in a block of its own, onto a row of the call's own. -/
theorem wpList_push {P : Program} {ops : Array Oper} {rest : List Oper} {o : Oper} {a : Act} {Q : Exit → Act → World → Prop} {w : World} (news : List Value) (hgd : o.guard = none) (s x : Operand) (t : TypeId)
    (ho : o.op = .call { callee := .builtin .append, args := #[s, x], argTypes := #[t, t] })
    (base : Nat) (e : TypeId) (z : Value) (size bytes : Nat) (ht : P.underlying t = some (.slice e)) (hi : (P.info? e).map (fun i => (i.zero, i.size, i.bytes)) = some (some z, size, bytes))
    (hzs : z.cells.size = size) (hsz : 0 < size) (v : Value) (n : Nat) (xs : List Value) (hown : w.ownsRow base e size v n xs) (hs : a.eval s = v)
    (hx : a.eval x = .slice (some ⟨w.heap.size, 0, none⟩) 1 1) (hl : news.length = size) (h1 : news.all Value.oneCell' = true)
    (h63 : n + 1 ≤ maxLen) (hbytes : (n + 1) * bytes ≤ 140737488355328) (hbase : base ≤ w.heap.size)
    (h : ∀ g cap w', w'.ownsRow base e size (.slice (some ⟨g, 0, none⟩) (n + 1) cap) (n + 1) (xs ++ news) → w.grownBy w' v.ownBlock → base ≤ g → g < w'.heap.size →
      wpList P ops Q rest (a.put o.dst (.slice (some ⟨g, 0, none⟩) (n + 1) cap)) w') :
    wpList P ops Q (o :: rest) a (w.alloc (.cells news.toArray e)) := by
  obtain ⟨i, hi', hz, hs1, hs2⟩ := info_parts hi
  refine wpList_append_lies _ hgd s x t ho base e i z size bytes ht hi' hz hs1 hs2 hzs hsz v n xs hs (hown.alloc _) ⟨w.heap.size, 0, none⟩ 1 1 news hx (by omega)
    block_new (fun u hu => List.all_eq_true.1 h1 u hu) (by omega) h63 hbytes (by simp; omega) _ rfl ?_
  intro g cap w' h2 h3 h4 h5
  refine h g cap w' h2 ?_ ?_ h5
  · have ha := World.grownBy_alloc w (.cells news.toArray e) v.ownBlock
    exact ⟨h3.os.trans ha.os, h3.tape.trans ha.tape, h3.output.trans ha.output, Nat.le_trans ha.size h3.size,
      fun k hk hn => (h3.block k (Nat.lt_of_lt_of_le hk ha.size) hn).trans (ha.block k hk hn)⟩
  · rcases h4 with h4 | h4
    · exact (hown.lt g h4).1
    · rw [h4]; simp; omega

theorem Below.of_grown {base : Nat} {e : TypeId} {size n : Nat} {v : Value} {xs : List Value} {w w' : World} (hg : w.grownBy w' v.ownBlock) (hown : w.ownsRow base e size v n xs) (hb : base ≤ w.heap.size) : Below base w w' :=
  (Below.refl base w).grown hg hb fun k hk => (hown.lt k hk).1

theorem SliceAt.new {w : World} {T : TypeId} {sz : Nat} (xs : List Value) (n : Nat) (h : xs.length = n * sz) (hn : n ≤ maxLen) :
    SliceAt (w.alloc (.cells xs.toArray T)) T sz (.slice (some ⟨w.heap.size, 0, none⟩) n n) xs :=
  ⟨n, n, h, Nat.le_refl _, hn, .inr ⟨w.heap.size, 0, xs.toArray, (0, 0), rfl, .of (heap_alloc_new _ _), fun i _ => by simp⟩⟩
end Go.Proofs.Ytbgoogjhgeoapaa
