/- A part of the proof. -/
import Derived.Test.YtipnhmdibkkifaaGreatDoorRows
import Derived.Maps.RangeWalk
import Derived.Maps.OwnOps
import Derived.Maps.OwnSet
import Derived.DeepKeys4
import Derived.WalkKit
import Derived.WalkSpells
import Derived.Lib.Hide
import Derived.Deep.QuietTactic
import Derived.Deep.AppendLies
set_option linter.unusedVariables false
set_option linter.unusedSimpArgs false
set_option linter.unusedVariables false
set_option linter.unusedSimpArgs false
set_option linter.unusedSectionVars false
namespace Go.Proofs.YtipnhmdibkkifaaGreatDoor
open Go.RowKit
abbrev ldV (s : ByteArray) (n : Int) (p : Option Addr × Nat × Nat) : Value := .agg #[.string s, .int .i64 n, .slice p.1 p.2.1 p.2.2]
abbrev ldD (s : List UInt8) (n : Int) : DataW Unit := .agg [.lit (.string s), .lit (.int .i64 n)]
def ldL (l : List Value) : Option (DataW Unit × List MemPlace) := match l with
  | [.string s, .int .i64 n, .slice _ _ _] => some (ldD s.data.toList n, [])
  | _ => none
def ldR (v : Value) : Option (DataW Unit × List MemPlace) := match v with
  | .agg cs => ldL cs.toList
  | _ => none
theorem ldR_mk (s : ByteArray) (n : Int) (p : Option Addr × Nat × Nat) : ldR (ldV s n p) = some (ldD s.data.toList n, []) := rfl
theorem ldR_inv (v : Value) (y : DataW Unit × List MemPlace) (h : ldR v = some y) : ∃ c : ByteArray × Int × Option Addr × Nat × Nat, v = ldV c.1 c.2.1 c.2.2 ∧ y = (ldD c.1.data.toList c.2.1, []) := by
  unfold ldR at h
  split at h
  · rename_i cs
    obtain ⟨l⟩ := cs
    simp only at h
    unfold ldL at h
    split at h
    · rename_i s n a m c
      injection h with h
      exact ⟨⟨s, n, a, m, c⟩, rfl, h.symm⟩
    · cases h
  · cases h
abbrev Loads := List (Int × List UInt8)
structure LdD (D : DataW Unit) (L : Loads) : Prop where
  size : Maps.size D = L.length
  keys : (L.map Prod.fst).Nodup
  has : ∀ k : Int, Maps.has D (.int .i64 k) = decide (k ∈ L.map Prod.fst)
  at_ : ∀ k id, (k, id) ∈ L → ∀ z, D.atKey (.int .i64 k) z = ldD id k
theorem key_lit (k : Int) (h : (Lit.int .i64 k).wf = true) : WideAt.IsKeyLit (.int .i64 k) := by
  exact Maps.Keyed.key (P := Tryz.prog) (Maps.int_keyed (k := 3) Tryz.underlying3) (Maps.keyOf_int_mk Tryz.underlying3 h)
theorem lit_ne {a b : Int} (h : a ≠ b) : (Lit.int .i64 a) ≠ .int .i64 b := fun e => h (by injection e)
theorem LdD.made : LdD (.map []) [] := ⟨rfl, List.nodup_nil, fun _ => rfl, fun _ _ h => by cases h⟩
theorem LdD.put {D : DataW Unit} {L : Loads} (h : LdD D L) (hD : Maps.IsMap D) (ht : Maps.Tidy D) {k : Int} (hk : (Lit.int .i64 k).wf = true) (hn : k ∉ L.map Prod.fst) (id : List UInt8) : LdD (D.put (.int .i64 k) (ldD id k)) (L ++ [(k, id)]) := by
  refine ⟨?_, ?_, fun q => ?_, fun q x hq z => ?_⟩
  · rw [Maps.size_put ht, h.has k, decide_eq_false hn]
    simp [h.size]
  · rw [List.map_append]
    exact List.nodup_append.2 ⟨h.keys, by simp, fun a ha b hb => by
      simp only [List.map_cons, List.map_nil, List.mem_singleton] at hb
      subst hb
      exact fun e => hn (e ▸ ha)⟩
  · by_cases e : q = k
    · subst e
      rw [Maps.has_put_same hD (key_lit _ hk)]
      simp
    · rw [Maps.has_put_other (lit_ne e), h.has q]
      simp [e]
  · rcases List.mem_append.1 hq with hq | hq
    · have e : q ≠ k := fun e => hn (e ▸ List.mem_map.2 ⟨_, hq, rfl⟩)
      rw [Maps.atKey_put_other (lit_ne e)]
      exact h.at_ q x hq z
    · simp only [List.mem_singleton] at hq
      injection hq with e1 e2
      subst e1 e2
      exact Maps.atKey_put_same hD (key_lit _ hk) _ _
theorem LdD.drop {D : DataW Unit} {L : Loads} (h : LdD D L) (ht : Maps.Tidy D) {k : Int} (hn : k ∈ L.map Prod.fst) : LdD (D.del (.int .i64 k)) (L.filter fun x => decide (x.1 ≠ k)) := by
  have hkeys : ((L.filter fun x => decide (x.1 ≠ k)).map Prod.fst) = (L.map Prod.fst).filter fun x => decide (x ≠ k) := by
    rw [List.filter_map]
    rfl
  refine ⟨?_, ?_, fun q => ?_, fun q x hq z => ?_⟩
  · have h1 := Maps.size_del (k := .int .i64 k) ht
    rw [h.has k, decide_eq_true hn, h.size] at h1
    simp only [if_true] at h1
    have h2 : ∀ l : Loads, (l.map Prod.fst).Nodup → k ∈ l.map Prod.fst → (l.filter fun x => decide (x.1 ≠ k)).length + 1 = l.length := by
      intro l
      induction l with
      | nil => intro _ h; cases h
      | cons x l ih =>
        intro hnd hm
        rw [List.map_cons, List.nodup_cons] at hnd
        by_cases e : x.1 = k
        · have : l.filter (fun x => decide (x.1 ≠ k)) = l := List.filter_eq_self.2 fun y hy => by
            have : y.1 ≠ k := fun e2 => hnd.1 (e ▸ e2 ▸ List.mem_map.2 ⟨y, hy, rfl⟩)
            simpa using this
          rw [List.filter_cons, if_neg (by simp [e]), this]
          rfl
        · rw [List.filter_cons, if_pos (by simp [e])]
          have := ih hnd.2 (by
            rw [List.map_cons] at hm
            rcases List.mem_cons.1 hm with h | h
            · exact absurd h.symm e
            · exact h)
          simp only [List.length_cons]
          omega
    have := h2 L h.keys hn
    omega
  · rw [hkeys]
    exact h.keys.filter _
  · rw [hkeys]
    by_cases e : q = k
    · subst e
      rw [Maps.has_del_same]
      simp
    · rw [Maps.has_del_other (lit_ne e), h.has q]
      simp [e]
  · obtain ⟨hq, hne⟩ := List.mem_filter.1 hq
    have e : q ≠ k := by simpa using hne
    rw [Maps.atKey_del_other (lit_ne e)]
    exact h.at_ q x hq z
def LdM (w : World) (b n : Nat) (L : Loads) : Prop := ∃ D, w.ownsMap Tryz.prog 3 ldR b n D ∧ LdD D L
theorem LdM.below {w w' : World} {b n : Nat} {L : Loads} (h : LdM w b n L) (hb : Below w.heap.size w w') : LdM w' b n L := by
  obtain ⟨D, ⟨es, clock, h1, h3⟩, h2⟩ := h
  refine ⟨D, ⟨es, clock, ?_, h3⟩, h2⟩
  rw [← h1]
  exact hb.block b (World.ownsMap.lt ⟨es, clock, h1, h3⟩)
theorem LdM.made (w : World) : LdM (w.alloc (.map #[] 0)) w.heap.size 0 [] := ⟨_, World.ownsMap_made w _ _ _, LdD.made⟩
end Go.Proofs.YtipnhmdibkkifaaGreatDoor
set_option linter.unusedVariables false
set_option linter.unusedSimpArgs false
set_option linter.unusedSectionVars false
namespace Go.Proofs.YtipnhmdibkkifaaGreatDoor
open Go.RowKit
class Base where
  b : Nat
variable [Base]
def HeapLike (w : World) (b : Nat) (c : Array Value) (T : TypeId) (fr : Nat × Nat) : Prop := ∃ U, (U = T ∨ b < Base.b) ∧ w.heap[b]? = some (.cells c U fr)
theorem HeapLike.of {w : World} {b : Nat} {c : Array Value} {T : TypeId} {fr : Nat × Nat} (h : w.heap[b]? = some (.cells c T fr)) : HeapLike w b c T fr := ⟨T, .inl rfl, h⟩
theorem HeapLike.lt {w : World} {b : Nat} {c : Array Value} {T : TypeId} {fr : Nat × Nat} (h : HeapLike w b c T fr) : b < w.heap.size := by
  obtain ⟨U, -, h⟩ := h
  rcases Nat.lt_or_ge b w.heap.size with h1 | h1
  · exact h1
  · rw [Array.getElem?_eq_none h1] at h; cases h
theorem HeapLike.cell {w : World} {b : Nat} {c : Array Value} {T : TypeId} {fr : Nat × Nat} (h : HeapLike w b c T fr) (o : Nat) : w.cell? ⟨b, o, none⟩ = c[o]? := by
  obtain ⟨U, -, h⟩ := h
  simp [World.cell?, h]
end Go.Proofs.YtipnhmdibkkifaaGreatDoor
set_option linter.unusedVariables false
set_option linter.unusedSimpArgs false
set_option linter.unusedSectionVars false
namespace Go.Proofs.YtipnhmdibkkifaaGreatDoor
open Go.RowKit
variable [Base]
def SliceAt (w : World) (T : TypeId) (sz : Nat) (v : Value) (xs : List Value) : Prop :=
  ∃ n cap : Nat, xs.length = n * sz ∧ n ≤ cap ∧ cap ≤ maxLen ∧ (((∃ a, v = .slice a 0 0) ∧ n = 0) ∨
    ∃ b off c fr, v = .slice (some ⟨b, off, none⟩) n cap ∧ HeapLike w b c T fr ∧ ∀ i, i < xs.length → c[off + i]? = xs[i]?)
def tyAt (w : World) (b : Nat) : Option TypeId := match w.heap[b]? with | some (.cells _ t _) => if b < Base.b then none else some t | _ => none
theorem tyAt_of {w : World} {b : Nat} {c : Array Value} {t : TypeId} {fr : Nat × Nat} (h : w.heap[b]? = some (.cells c t fr)) (hb : Base.b ≤ b := by (try dsimp only); omega) : tyAt w b = some t := by
  unfold tyAt
  rw [h]
  exact if_neg (Nat.not_lt.2 hb)
theorem lt_heap {w : World} {b : Nat} {o : Obj} (h : w.heap[b]? = some o) : b < w.heap.size := by
  rcases Nat.lt_or_ge b w.heap.size with h1 | h1
  · exact h1
  · rw [Array.getElem?_eq_none h1] at h; cases h
theorem SliceAt.nil {w : World} {T : TypeId} {sz : Nat} : SliceAt w T sz (.slice none 0 0) [] := ⟨0, 0, by simp, Nat.le_refl _, Nat.zero_le _, .inl ⟨⟨none, rfl⟩, rfl⟩⟩
theorem SliceAt.of_owns {w : World} {base : Nat} {T : TypeId} {sz : Nat} {v : Value} {n : Nat} {xs : List Value} (h : w.ownsRow base T sz v n xs) : SliceAt w T sz v xs := by
  obtain ⟨h1, h2⟩ := h
  rcases h2 with ⟨rfl, rfl⟩ | ⟨g, cap, cur, rfl, _, hg, hn, hc, hs, ht⟩
  · have : xs = [] := List.length_eq_zero_iff.1 (by omega)
    subst this
    exact .nil
  · refine ⟨n, cap, h1, hn, hc, .inr ⟨g, 0, cur, (0, 0), rfl, .of hg, fun i hi => ?_⟩⟩
    rw [← ht, List.getElem?_take_of_lt (by omega)]
    simp
def SameT (T : TypeId) (w w' : World) : Prop := ∀ (b : Nat) (c : Array Value) (fr : Nat × Nat) (U : TypeId), (U = T ∨ b < Base.b) → w.heap[b]? = some (Obj.cells c U fr) → w'.heap[b]? = some (Obj.cells c U fr)
theorem SameT.own {T : TypeId} {w w' : World} (h : SameT T w w') {b : Nat} {c : Array Value} {fr : Nat × Nat} (e : w.heap[b]? = some (.cells c T fr)) : w'.heap[b]? = some (.cells c T fr) := h b c fr T (.inl rfl) e
theorem HeapLike.same {T : TypeId} {w w' : World} {b : Nat} {c : Array Value} {fr : Nat × Nat} (h : HeapLike w b c T fr) (hs : SameT T w w') : HeapLike w' b c T fr := by
  obtain ⟨U, hU, h⟩ := h
  exact ⟨U, hU, hs _ _ _ U hU h⟩
theorem SliceAt.same {w w' : World} {T : TypeId} {sz : Nat} {v : Value} {xs : List Value} (h : SliceAt w T sz v xs) (hs : SameT T w w') : SliceAt w' T sz v xs := by
  obtain ⟨n, cap, h1, h2, h3, h4⟩ := h
  refine ⟨n, cap, h1, h2, h3, ?_⟩
  rcases h4 with h4 | ⟨b, off, c, fr, e1, e2, e3⟩
  · exact .inl h4
  · exact .inr ⟨b, off, c, fr, e1, e2.same hs, e3⟩
theorem SameT.refl {T : TypeId} {w : World} : SameT T w w := fun _ _ _ _ _ h => h
theorem SameT.trans {T : TypeId} {a b c : World} (h : SameT T a b) (k : SameT T b c) : SameT T a c := fun x y z U hU e => k x y z U hU (h x y z U hU e)
theorem SameT.below {T : TypeId} {w w' : World} (h : Below w.heap.size w w') : SameT T w w' := fun b _ _ _ _ e => (h.block b (lt_heap e)).trans e
theorem SameT.drewN {T : TypeId} {w : World} {n : Nat} : SameT T w (w.drewN n) := fun _ _ _ _ _ h => h
theorem SameT.alloc {T : TypeId} {w : World} {o : Obj} : SameT T w (w.alloc o) := fun b _ _ _ _ e => (Below.heap_alloc w o b (lt_heap e)).trans e
theorem SameT.setCell {T U : TypeId} {w : World} {p : Addr} {u : Value} (h : tyAt w p.block = some U) (hne : T ≠ U) : SameT T w (w.setCell p u) := fun b c fr V hV e => by
  rw [Below.heap_setCell _ _ _ _ (fun hb => by
    unfold tyAt at h
    rw [← hb, e] at h
    by_cases hx : b < Base.b
    · simp only [if_pos hx] at h; cases h
    · simp only [if_neg hx] at h
      injection h with h
      rcases hV with hV | hV
      · exact hne (hV.symm.trans h)
      · exact hx hV)]
  exact e
theorem SameT.grown {T U : TypeId} {w w' : World} {base n sz : Nat} {v : Value} {xs : List Value} (hg : w.grownBy w' v.ownBlock) (ho : w.ownsRow base U sz v n xs) (hne : T ≠ U) (hbase : Base.b ≤ base := by omega) : SameT T w w' := fun b c fr V hV e => by
  rw [hg.block b (lt_heap e) ?_]
  · exact e
  · intro hb
    rcases ho.2 with ⟨rfl, _⟩ | ⟨g, cap, cur, rfl, hgb, hh, _⟩
    · simp [Value.ownBlock] at hb
    · simp [Value.ownBlock] at hb
      subst hb
      rw [hh] at e
      injection e with e
      injection e with _ e2 _
      rcases hV with hV | hV
      · exact hne (hV.symm.trans e2.symm)
      · omega
def All2 {α β : Type} (R : α → β → Prop) : List α → List β → Prop
  | [], [] => True
  | a :: as', b :: bs => R a b ∧ All2 R as' bs
  | _, _ => False
theorem All2.mono {α β : Type} {R S : α → β → Prop} (h : ∀ a b, R a b → S a b) : ∀ {as' : List α} {bs : List β}, All2 R as' bs → All2 S as' bs
  | [], [], _ => trivial
  | _ :: _, _ :: _, ⟨h1, h2⟩ => ⟨h _ _ h1, All2.mono h h2⟩
theorem All2.length {α β : Type} {R : α → β → Prop} : ∀ {as' : List α} {bs : List β}, All2 R as' bs → as'.length = bs.length
  | [], [], _ => rfl
  | _ :: _, _ :: _, ⟨_, h2⟩ => by simp [All2.length h2]
theorem All2.append {α β : Type} {R : α → β → Prop} : ∀ {as' cs : List α} {bs ds : List β}, All2 R as' bs → All2 R cs ds → All2 R (as' ++ cs) (bs ++ ds)
  | [], _, [], _, _, h => h
  | _ :: _, _, _ :: _, _, ⟨h1, h2⟩, h => ⟨h1, All2.append h2 h⟩
theorem All2.get {α β : Type} {R : α → β → Prop} : ∀ {as' : List α} {bs : List β} (_ : All2 R as' bs) (i : Nat) (h1 : i < as'.length) (h2 : i < bs.length), R as'[i] bs[i]
  | _ :: _, _ :: _, ⟨h, _⟩, 0, _, _ => h
  | _ :: _, _ :: _, ⟨_, h⟩, i + 1, h1, h2 => All2.get h i (by simpa using h1) (by simpa using h2)
theorem flatten_get {α : Type} (sz : Nat) : ∀ (l : List (List α)) (_ : ∀ x ∈ l, x.length = sz) (i j : Nat) (hi : i < l.length) (_ : j < sz), l.flatten[i * sz + j]? = l[i][j]?
  | x :: l, h, 0, j, _, hj => by
    simp only [List.flatten_cons, Nat.zero_mul, Nat.zero_add, List.getElem_cons_zero]
    rw [List.getElem?_append_left (by rw [h x (List.mem_cons_self)]; exact hj)]
  | x :: l, h, i + 1, j, hi, hj => by
    have hx := h x List.mem_cons_self
    simp only [List.flatten_cons, List.getElem_cons_succ]
    rw [List.getElem?_append_right (by rw [hx]; rw [Nat.succ_mul]; omega), hx, show (i + 1) * sz + j - sz = i * sz + j from by rw [Nat.succ_mul]; omega]
    exact flatten_get sz l (fun y hy => h y (List.mem_cons_of_mem _ hy)) i j (by simpa using hi) hj
theorem flatten_len {α : Type} (sz : Nat) : ∀ (l : List (List α)) (_ : ∀ x ∈ l, x.length = sz), l.flatten.length = l.length * sz
  | [], _ => by simp
  | x :: l, h => by
    rw [List.flatten_cons, List.length_append, h x List.mem_cons_self, flatten_len sz l (fun y hy => h y (List.mem_cons_of_mem _ hy)), List.length_cons, Nat.succ_mul]; omega
theorem SliceAt.form {w : World} {T : TypeId} {sz : Nat} {v : Value} {xs : List Value} (h : SliceAt w T sz v xs) :
    ∃ a n c, v = .slice a n c ∧ xs.length = n * sz ∧ n ≤ maxLen ∧ n ≤ c ∧ c ≤ maxLen ∧ (0 < n → ∃ b off, a = some ⟨b, off, none⟩ ∧ b < w.heap.size ∧ True ∧ ∀ i, i < xs.length → w.cell? ⟨b, off + i, none⟩ = xs[i]?) := by
  obtain ⟨n, cap, h1, h2, h3, h4⟩ := h
  rcases h4 with ⟨⟨a, rfl⟩, rfl⟩ | ⟨b, off, c, fr, rfl, e2, e3⟩
  · exact ⟨a, 0, 0, rfl, h1, Nat.zero_le _, Nat.le_refl _, Nat.zero_le _, fun h => by omega⟩
  · exact ⟨some ⟨b, off, none⟩, n, cap, rfl, h1, by omega, h2, h3, fun _ => ⟨b, off, rfl, e2.lt, trivial, fun i hi => by rw [← e3 i hi, e2.cell]⟩⟩
theorem block_new {w : World} {cs : List Value} {e : TypeId} (j : Nat) (u : Value) (h : cs[j]? = some u) : (w.alloc (.cells cs.toArray e)).cell? ((⟨w.heap.size, 0, none⟩ : Addr).add j) = some u := by
  have h2 : ((⟨w.heap.size, 0, none⟩ : Addr).add j) = ⟨w.heap.size, j, none⟩ := by
    unfold Addr.add
    split
    · rename_i h0; subst h0; rfl
    · simp
  rw [h2, World.cell?_alloc_new]
  simpa using h
theorem wpList_push {P : Program} {ops : Array Oper} {rest : List Oper} {o : Oper} {a : Act} {Q : Exit → Act → World → Prop} {w : World} (news : List Value) (hgd : o.guard = none) (s x : Operand) (t : TypeId)
    (ho : o.op = .call { callee := .builtin .append, args := #[s, x], argTypes := #[t, t] })
    (base : Nat) (e : TypeId) (z : Value) (size bytes : Nat) (ht : P.underlying t = some (.slice e)) (hi : (P.info? e).map (fun i => (i.zero, i.size, i.bytes)) = some (some z, size, bytes))
    (hzs : z.cells.size = size) (hsz : 0 < size) (v : Value) (n : Nat) (xs : List Value) (hown : w.ownsRow base e size v n xs) (hs : a.eval s = v)
    (hx : a.eval x = .slice (some ⟨w.heap.size, 0, none⟩) 1 1) (hl : news.length = size) (h1 : news.all Value.oneCell' = true)
    (h63 : n + 1 ≤ maxLen) (hbytes : (n + 1) * bytes ≤ 140737488355328) (hbase : base ≤ w.heap.size)
    (h : ∀ g cap w', w'.ownsRow base e size (.slice (some ⟨g, 0, none⟩) (n + 1) cap) (n + 1) (xs ++ news) → w.grownBy w' v.ownBlock → base ≤ g → g < w'.heap.size →
      wpList P ops Q rest (a.put o.dst (.slice (some ⟨g, 0, none⟩) (n + 1) cap)) w') :
    wpList P ops Q (o :: rest) a (w.alloc (.cells news.toArray e)) := by
  obtain ⟨i, hi', hz, hs1, hs2⟩ := info_parts hi
  refine wpList_append_lies _ hgd s x t ho base e i z size bytes ht hi' hz hs1 hs2 hzs hsz v n xs hs (hown.alloc _) ⟨w.heap.size, 0, none⟩ 1 1 news hx (by omega)
    block_new (fun u hu => List.all_eq_true.1 h1 u hu) (by omega) h63 hbytes (by simp; omega) _ rfl ?_
  intro g cap w' h2 h3 h4 h5
  refine h g cap w' h2 ?_ ?_ h5
  · have ha := World.grownBy_alloc w (.cells news.toArray e) v.ownBlock
    exact ⟨h3.os.trans ha.os, h3.tape.trans ha.tape, h3.output.trans ha.output, Nat.le_trans ha.size h3.size,
      fun k hk hn => (h3.block k (Nat.lt_of_lt_of_le hk ha.size) hn).trans (ha.block k hk hn)⟩
  · rcases h4 with h4 | h4
    · exact (hown.lt g h4).1
    · rw [h4]; simp; omega
theorem Below.of_grown {base : Nat} {e : TypeId} {size n : Nat} {v : Value} {xs : List Value} {w w' : World} (hg : w.grownBy w' v.ownBlock) (hown : w.ownsRow base e size v n xs) (hb : base ≤ w.heap.size) : Below base w w' :=
  (Below.refl base w).grown hg hb fun k hk => (hown.lt k hk).1
theorem SliceAt.new {w : World} {T : TypeId} {sz : Nat} (xs : List Value) (n : Nat) (h : xs.length = n * sz) (hn : n ≤ maxLen) :
    SliceAt (w.alloc (.cells xs.toArray T)) T sz (.slice (some ⟨w.heap.size, 0, none⟩) n n) xs :=
  ⟨n, n, h, Nat.le_refl _, hn, .inr ⟨w.heap.size, 0, xs.toArray, (0, 0), rfl, .of (heap_alloc_new _ _), fun i _ => by simp⟩⟩
end Go.Proofs.YtipnhmdibkkifaaGreatDoor
set_option linter.unusedVariables false
set_option linter.unusedSimpArgs false
set_option linter.unusedSectionVars false
namespace Go.Proofs.YtipnhmdibkkifaaGreatDoor
open Go.RowKit
variable [Base]
theorem lies_cells {w : World} {b : Nat} {c : Array Value} {t : TypeId} (h : w.heap[b]? = some (.cells c t (0, 0))) : (∀ o, w.cell? ⟨b, o, none⟩ = c[o]?) ∧ ∀ o, w.frozen? ⟨b, o, none⟩ = false :=
  ⟨fun o => by simp [World.cell?, h], fun o => by simp [World.frozen?, h]⟩
theorem lies_below {B b : Nat} {w w' : World} {o : Obj} (h : w.heap[b]? = some o) (hb : Below B w w') (hlt : b < B) : w'.heap[b]? = some o := (hb.block b hlt).trans h
theorem All2.eachR {α β : Type} {R : α → β → Prop} {p : α → Prop} (hp : ∀ a b, R a b → p a) : ∀ {xs : List α} {ys : List β}, All2 R xs ys → ∀ x ∈ xs, p x
  | [], [], _ => by simp
  | a :: xs, b :: ys, ⟨h1, h2⟩ => by
    intro x hx
    rcases List.mem_cons.1 hx with rfl | hx
    · exact hp _ _ h1
    · exact All2.eachR hp h2 x hx
theorem All2.satR {α β : Type} {R : α → β → Prop} {xs : List α} {ys : List β} (h : All2 R xs ys) {k : Nat} {b : β} (hb : ys[k]? = some b) : ∃ a, xs[k]? = some a ∧ R a b := by
  obtain ⟨h1, rfl⟩ := List.getElem?_eq_some_iff.1 hb
  have h2 : k < xs.length := by rw [h.length]; exact h1
  exact ⟨xs[k], by simp [h2], h.get k h2 h1⟩
theorem rows_lie {w : World} {T : TypeId} {sz : Nat} {v : Value} {xss : List (List Value)} (h : SliceAt w T sz v xss.flatten) (hl : ∀ x ∈ xss, x.length = sz) (hs : 0 < sz) :
    ∃ a c, v = .slice a xss.length c ∧ xss.length ≤ maxLen ∧ xss.length ≤ c ∧ c ≤ maxLen ∧ ∀ k x, xss[k]? = some x → ∃ b off, a = some ⟨b, off, none⟩ ∧ b < w.heap.size ∧ True ∧ ∀ j, j < sz → w.cell? ⟨b, off + k * sz + j, none⟩ = x[j]? := by
  obtain ⟨a, n, c, rfl, h1, h2, h3, h4, h5⟩ := SliceAt.form h
  rw [flatten_len sz xss hl] at h1
  have hn : n = xss.length := (Nat.eq_of_mul_eq_mul_right hs h1).symm
  subst hn
  refine ⟨a, c, rfl, h2, h3, h4, fun k x hk => ?_⟩
  obtain ⟨hk2, rfl⟩ := List.getElem?_eq_some_iff.1 hk
  obtain ⟨b, off, rfl, hb, ht, hc⟩ := h5 (by omega)
  refine ⟨b, off, rfl, hb, ht, fun j hj => ?_⟩
  have hlt : k * sz + j < xss.flatten.length := by
    rw [flatten_len sz xss hl]
    have : (k + 1) * sz ≤ xss.length * sz := Nat.mul_le_mul_right sz hk2
    rw [Nat.succ_mul] at this
    omega
  rw [Nat.add_assoc, hc _ hlt, flatten_get sz xss hl k j hk2 hj]
def BoolQ (b : Bool) (w : World) (e : Ending) (w' : World) : Prop := e = .returned (.bool b) ∧ Below w.heap.size w w'
def IntQ (n : Int) (w : World) (e : Ending) (w' : World) : Prop := e = .returned (.int .i64 n) ∧ Below w.heap.size w w'
theorem ret_boolQ {a b : Bool} (h : a = b) : Ending.returned (.bool a) = .returned (.bool b) := by rw [h]
theorem ret_intQ {a b : Int} (h : a = b) : Ending.returned (.int .i64 a) = .returned (.int .i64 b) := by rw [h]
theorem below_drewQ {B : Nat} {w w' : World} (h : Below B w w') (n : Nat) : Below B w (w'.drewN n) := ⟨h.os, h.tape, h.output, h.size, h.block⟩
end Go.Proofs.YtipnhmdibkkifaaGreatDoor
set_option linter.unusedVariables false
set_option linter.unusedSimpArgs false
set_option linter.unusedSectionVars false
namespace Go.Proofs.YtipnhmdibkkifaaGreatDoor
abbrev iv (z : Int) : Value := .int .i64 z
end Go.Proofs.YtipnhmdibkkifaaGreatDoor
set_option linter.unusedVariables false
set_option linter.unusedSimpArgs false
set_option linter.unusedSectionVars false
namespace Go.Proofs.YtipnhmdibkkifaaGreatDoor
abbrev Str := List UInt8
structure PStmt where
  op : Int
  dfn : Str
  uses : List Str
  targets : List Str
structure PBlock where
  name : Str
  stmts : List PStmt
structure PFunc where
  name : Str
  blocks : List PBlock
end Go.Proofs.YtipnhmdibkkifaaGreatDoor
set_option linter.unusedVariables false
set_option linter.unusedSimpArgs false
set_option linter.unusedSectionVars false
namespace Go.Proofs.YtipnhmdibkkifaaGreatDoor
structure Tok where
  kind : Int
  text : List UInt8
  line : Int
  col : Int
def isLet (c : Int) : Bool := (decide (97 ≤ c) && decide (c ≤ 122)) || (decide (65 ≤ c) && decide (c ≤ 90))
def isDig (c : Int) : Bool := decide (48 ≤ c) && decide (c ≤ 57)
def isPart (c : Int) : Bool := isLet c || isDig c || c == 95
def partB (b : UInt8) : Bool := isPart (b.toNat : Int)
structure Scanned where
  toks : List Tok
  line : Int
  col : Int
  err : Int
def fin (op : Bool) (line col : Int) (acc : List Tok) : List Tok := if op then acc ++ [⟨3, [], line, col⟩] else acc
def lexF : Nat → List UInt8 → Int → Int → Bool → List Tok → Scanned
  | 0, _, _, _, _, _ => ⟨[], 0, 0, 0⟩
  | _ + 1, [], line, col, op, acc => ⟨fin op line col acc, 0, 0, 0⟩
  | n + 1, c :: r, line, col, op, acc =>
    if c.toNat = 32 ∨ c.toNat = 9 then lexF n r line (col + 1) op acc
    else if c.toNat = 59 then lexF n r line (col + 1) false (fin op line col acc)
    else if c.toNat = 35 then
      lexF n (r.dropWhile fun b => b.toNat != 10) line (col + 1 + ((r.takeWhile fun b => b.toNat != 10).length : Int)) false (fin op line col acc)
    else if c.toNat = 10 then lexF n r (line + 1) 1 false (fin op line col acc)
    else if c.toNat = 61 then lexF n r line (col + 1) true (acc ++ [⟨2, [61], line, col⟩])
    else if partB c then
      if isDig (c.toNat : Int) then ⟨[], line, col, 4⟩
      else if 16 < ((c :: r).takeWhile partB).length then ⟨[], line, col, 7⟩
      else lexF n ((c :: r).dropWhile partB) line (col + (((c :: r).takeWhile partB).length : Int)) true (acc ++ [⟨1, (c :: r).takeWhile partB, line, col⟩])
    else ⟨[], line, col, 4⟩
theorem length_dropWhile_le {α : Type} (p : α → Bool) (l : List α) : (l.dropWhile p).length ≤ l.length := by
  induction l with
  | nil => simp
  | cons x r ih =>
    rw [List.dropWhile_cons]
    split
    · simp; omega
    · simp
theorem lexF_fuel (n m : Nat) : ∀ (l : List UInt8) (line col : Int) (op : Bool) (acc : List Tok), l.length < n → l.length < m → lexF n l line col op acc = lexF m l line col op acc := by
  induction n generalizing m with
  | zero => intro l line col op acc h; omega
  | succ n ih =>
    intro l line col op acc h1 h2
    cases m with
    | zero => omega
    | succ m =>
      cases l with
      | nil => rfl
      | cons c r =>
        simp only [List.length_cons] at h1 h2
        have hd := length_dropWhile_le (fun b : UInt8 => b.toNat != 10) r
        simp only [lexF]
        split
        · exact ih m _ _ _ _ _ (by omega) (by omega)
        split
        · exact ih m _ _ _ _ _ (by omega) (by omega)
        split
        · exact ih m _ _ _ _ _ (by omega) (by omega)
        split
        · exact ih m _ _ _ _ _ (by omega) (by omega)
        split
        · exact ih m _ _ _ _ _ (by omega) (by omega)
        split
        · rename_i hp
          split
          · rfl
          split
          · rfl
          have he : (c :: r).dropWhile partB = r.dropWhile partB := by rw [List.dropWhile_cons, if_pos hp]
          have hd := length_dropWhile_le partB r
          exact ih m _ _ _ _ _ (by rw [he]; omega) (by rw [he]; omega)
        · rfl
def lex (l : List UInt8) (line col : Int) (op : Bool) (acc : List Tok) : Scanned := lexF (l.length + 1) l line col op acc
theorem lex_nil (line col : Int) (op : Bool) (acc : List Tok) : lex [] line col op acc = ⟨fin op line col acc, 0, 0, 0⟩ := rfl
section
variable {c : UInt8} {r : List UInt8} {line col : Int} {op : Bool} {acc : List Tok}
theorem lex_space (h : c.toNat = 32 ∨ c.toNat = 9) : lex (c :: r) line col op acc = lex r line (col + 1) op acc := by
  unfold lex; rw [lexF, if_pos h]; exact lexF_fuel _ _ _ _ _ _ _ (by simp) (by simp)
theorem lex_semi (h : c.toNat = 59) : lex (c :: r) line col op acc = lex r line (col + 1) false (fin op line col acc) := by
  unfold lex; rw [lexF, if_neg (by omega), if_pos h]; exact lexF_fuel _ _ _ _ _ _ _ (by simp) (by simp)
theorem lex_hash (h : c.toNat = 35) : lex (c :: r) line col op acc =
    lex (r.dropWhile fun b => b.toNat != 10) line (col + 1 + ((r.takeWhile fun b => b.toNat != 10).length : Int)) false (fin op line col acc) := by
  have hd := length_dropWhile_le (fun b : UInt8 => b.toNat != 10) r
  unfold lex; rw [lexF, if_neg (by omega), if_neg (by omega), if_pos h]; exact lexF_fuel _ _ _ _ _ _ _ (by simp; omega) (by omega)
theorem lex_line (h : c.toNat = 10) : lex (c :: r) line col op acc = lex r (line + 1) 1 false (fin op line col acc) := by
  unfold lex; rw [lexF, if_neg (by omega), if_neg (by omega), if_neg (by omega), if_pos h]; exact lexF_fuel _ _ _ _ _ _ _ (by simp) (by simp)
theorem lex_equal (h : c.toNat = 61) : lex (c :: r) line col op acc = lex r line (col + 1) true (acc ++ [⟨2, [61], line, col⟩]) := by
  unfold lex; rw [lexF, if_neg (by omega), if_neg (by omega), if_neg (by omega), if_neg (by omega), if_pos h]; exact lexF_fuel _ _ _ _ _ _ _ (by simp) (by simp)
theorem part_other (h : partB c = true) : c.toNat ≠ 32 ∧ c.toNat ≠ 9 ∧ c.toNat ≠ 59 ∧ c.toNat ≠ 35 ∧ c.toNat ≠ 10 ∧ c.toNat ≠ 61 := by
  simp only [partB, isPart, isLet, isDig, Bool.or_eq_true, Bool.and_eq_true, decide_eq_true_eq, beq_iff_eq] at h
  omega
theorem lex_digit (h : partB c = true) (hd : isDig (c.toNat : Int) = true) : lex (c :: r) line col op acc = ⟨[], line, col, 4⟩ := by
  have := part_other h
  unfold lex; rw [lexF, if_neg (by omega), if_neg (by omega), if_neg (by omega), if_neg (by omega), if_neg (by omega), if_pos h, if_pos hd]
theorem lex_long (h : partB c = true) (hd : isDig (c.toNat : Int) = false) (hl : 16 < ((c :: r).takeWhile partB).length) : lex (c :: r) line col op acc = ⟨[], line, col, 7⟩ := by
  have := part_other h
  unfold lex; rw [lexF, if_neg (by omega), if_neg (by omega), if_neg (by omega), if_neg (by omega), if_neg (by omega), if_pos h, if_neg (by simp [hd]), if_pos hl]
theorem lex_word (h : partB c = true) (hd : isDig (c.toNat : Int) = false) (hl : ¬ 16 < ((c :: r).takeWhile partB).length) : lex (c :: r) line col op acc =
    lex ((c :: r).dropWhile partB) line (col + (((c :: r).takeWhile partB).length : Int)) true (acc ++ [⟨1, (c :: r).takeWhile partB, line, col⟩]) := by
  have := part_other h
  have he : (c :: r).dropWhile partB = r.dropWhile partB := by rw [List.dropWhile_cons, if_pos h]
  have hd2 := length_dropWhile_le partB r
  unfold lex; rw [lexF, if_neg (by omega), if_neg (by omega), if_neg (by omega), if_neg (by omega), if_neg (by omega), if_pos h, if_neg (by simp [hd]), if_neg hl]
  exact lexF_fuel _ _ _ _ _ _ _ (by rw [he]; simp; omega) (by rw [he]; omega)
theorem lex_other (h1 : c.toNat ≠ 32) (h2 : c.toNat ≠ 9) (h3 : c.toNat ≠ 59) (h4 : c.toNat ≠ 35) (h5 : c.toNat ≠ 10) (h6 : c.toNat ≠ 61) (h : partB c = false) :
    lex (c :: r) line col op acc = ⟨[], line, col, 4⟩ := by
  unfold lex; rw [lexF, if_neg (by omega), if_neg (by omega), if_neg (by omega), if_neg (by omega), if_neg (by omega), if_neg (by simp [h])]
end
def scanned (l : List UInt8) : Scanned := if 4096 < l.length then ⟨[], 0, 0, 7⟩ else lex l 1 1 false []
end Go.Proofs.YtipnhmdibkkifaaGreatDoor
