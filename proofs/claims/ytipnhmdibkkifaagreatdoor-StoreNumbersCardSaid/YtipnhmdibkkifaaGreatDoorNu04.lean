/- A part of the proof. -/
import Derived.Test.YtipnhmdibkkifaaGreatDoorNu00
import Derived.Maps.AppendAt
import Derived.Lib.AppendZerosOnto
import Derived.Test.YtipnhmdibkkifaaGreatDoorNu03
import Derived.Maps.OwnOps
import Derived.Deep.CutRange
set_option linter.unusedVariables false
set_option linter.unusedSimpArgs false
set_option linter.unusedVariables false
set_option linter.unusedSimpArgs false
set_option linter.unusedSectionVars false
namespace Go.Proofs.YtipnhmdibkkifaaGreatDoor
open Go.RowKit
variable [Base]
theorem run_append_nil {P : Program} (ea : Option Addr) (w : World) (base : Nat) (t ty e : TypeId) (i : TypeInfo) (size : Nat) (ht : P.underlying t = some (.slice e)) (hi : P.info? e = some i)
    (v : Value) (n : Nat) (xs : List Value) (hown : w.ownsRow base e size v n xs) : (Builtin.append_ #[t, t] ty #[v, .slice ea 0 0]).run P w = .ok v w := by
  have hz : ∀ a : Addr, (loadCells a 0).run P w = .ok #[] w := fun a => by simp [loadCells, loadCellsFrom]
  rcases hown.2 with ⟨rfl, rfl⟩ | ⟨g, cap, cur, rfl, _, _, hnc, _⟩
  · cases ea <;> simp [Builtin.append_, run_underlying ht, sizeOf, typeInfo, hi, Builtin.lenOf, Builtin.firstCells, hz]
  · cases ea <;> simp [Builtin.append_, run_underlying ht, sizeOf, typeInfo, hi, Builtin.lenOf, Builtin.firstCells, hz, hnc, storeCells]
theorem addr_add (b off j : Nat) : (⟨b, off, none⟩ : Addr).add j = ⟨b, off + j, none⟩ := by
  unfold Addr.add
  split
  · rename_i h; subst h; rfl
  · rfl
theorem own_slice {w : World} {base : Nat} {e : TypeId} {size : Nat} {v : Value} {n : Nat} {xs : List Value} (h : w.ownsRow base e size v n xs) : ∃ a c, v = .slice a n c ∧ n ≤ c ∧ c ≤ maxLen := by
  rcases h.2 with ⟨rfl, rfl⟩ | ⟨g, cap, cur, rfl, _, _, hnc, hc, _⟩
  · exact ⟨none, 0, rfl, Nat.le_refl _, Nat.zero_le _⟩
  · exact ⟨_, _, rfl, hnc, hc⟩
theorem run_append_sl {P : Program} (w : World) (base : Nat) (t ty e : TypeId) (z : Value) (size bytes : Nat) (ht : P.underlying t = some (.slice e)) (hi : (P.info? e).map (fun i => (i.zero, i.size, i.bytes)) = some (some z, size, bytes))
    (hzs : z.cells.size = size) (hsz : 0 < size) (v : Value) (n : Nat) (xs : List Value) (hown : w.ownsRow base e size v n xs)
    (u : Value) (m : Nat) (ys : List Value) (hsl : SliceAt w e size u ys) (hm : ys.length = m * size) (h1 : ys.all Value.oneCell' = true)
    (h63 : n + m ≤ maxLen) (hbytes : (n + m) * bytes ≤ 140737488355328) (hbase : base ≤ w.heap.size) :
    ∃ a c w', (Builtin.append_ #[t, t] ty #[v, u]).run P w = .ok (.slice a (n + m) c) w' ∧ w'.ownsRow base e size (.slice a (n + m) c) (n + m) (xs ++ ys) ∧ w.grownBy w' v.ownBlock := by
  obtain ⟨i, hi', hz, hs1, hs2⟩ := info_parts hi
  obtain ⟨m', cap, e1, e2, e3, h4⟩ := hsl
  have hmm : m' = m := Nat.eq_of_mul_eq_mul_right hsz (e1.symm.trans hm)
  subst hmm
  rcases h4 with ⟨⟨ea, rfl⟩, rfl⟩ | ⟨b, off, c, fr, rfl, hb, hc⟩
  · have hy : ys = [] := List.length_eq_zero_iff.1 (by omega)
    subst hy
    obtain ⟨a, c, rfl, _⟩ := own_slice hown
    refine ⟨a, c, w, run_append_nil ea w base t ty e i size ht hi' _ n xs hown, by simpa using hown, World.grownBy.refl w _⟩
  · have hcells : ∀ j u, ys[j]? = some u → w.cell? ((⟨b, off, none⟩ : Addr).add j) = some u := by
      intro j u hu
      have hj := (List.getElem?_eq_some_iff.1 hu).1
      rw [addr_add, ← hu, ← hc j hj]
      exact hb.cell _
    obtain ⟨v', w', hrun, h2, h3, _, _⟩ := run_append_own_at (P := P) w base t ty e i z size bytes ht hi' hz hs1 hs2 hzs hsz v n xs hown ⟨b, off, none⟩ m' cap ys e1 hcells (fun u hu => List.all_eq_true.1 h1 u hu) h63 hbytes hbase
    obtain ⟨a, c, rfl, _⟩ := own_slice h2
    exact ⟨a, c, w', hrun, h2, h3⟩
theorem wp_append_sl {P : Program} {w : World} {o : Oper} {a : Act} {K : Act → World → Prop} {Q : Exit → Act → World → Prop} (s x : Operand) (t : TypeId)
    (ho : o.op = .call { callee := .builtin .append, args := #[s, x], argTypes := #[t, t] })
    (base : Nat) (e : TypeId) (z : Value) (size bytes : Nat) (ht : P.underlying t = some (.slice e)) (hi : (P.info? e).map (fun i => (i.zero, i.size, i.bytes)) = some (some z, size, bytes))
    (hzs : z.cells.size = size) (hsz : 0 < size) (v : Value) (n : Nat) (xs : List Value) (hown : w.ownsRow base e size v n xs) (hs : a.eval s = v)
    (u : Value) (m : Nat) (ys : List Value) (hx : a.eval x = u) (hsl : SliceAt w e size u ys) (hm : ys.length = m * size) (h1 : ys.all Value.oneCell' = true)
    (h63 : n + m ≤ maxLen) (hbytes : (n + m) * bytes ≤ 140737488355328) (hbase : base ≤ w.heap.size)
    (h : ∀ g c w', w'.ownsRow base e size (.slice g (n + m) c) (n + m) (xs ++ ys) → w.grownBy w' v.ownBlock → K (a.put o.dst (.slice g (n + m) c)) w') : o.wp P a w K Q := by
  obtain ⟨g, c, w', hrun, h2, h3⟩ := run_append_sl (P := P) w base t o.type e z size bytes ht hi hzs hsz v n xs hown u m ys hsl hm h1 h63 hbytes hbase
  unfold Oper.wp execOp
  simp only [ho, resolve, invoke, builtin, Sem.run_bind, Sem.run_pure, Result.andThen_ok, List.map_toArray, List.map_cons, List.map_nil, hs, hx, hrun]
  exact h g c w' h2 h3
theorem wpList_append_sl {P : Program} {w : World} {ops : Array Oper} {rest : List Oper} {o : Oper} {a : Act} {Q : Exit → Act → World → Prop} (hgd : o.guard = none) (s x : Operand) (t : TypeId)
    (ho : o.op = .call { callee := .builtin .append, args := #[s, x], argTypes := #[t, t] })
    (base : Nat) (e : TypeId) (z : Value) (size bytes : Nat) (ht : P.underlying t = some (.slice e)) (hi : (P.info? e).map (fun i => (i.zero, i.size, i.bytes)) = some (some z, size, bytes))
    (hzs : z.cells.size = size) (hsz : 0 < size) (v : Value) (n : Nat) (xs : List Value) (hown : w.ownsRow base e size v n xs) (hs : a.eval s = v)
    (u : Value) (m : Nat) (ys : List Value) (hx : a.eval x = u) (hsl : SliceAt w e size u ys) (hm : ys.length = m * size) (h1 : ys.all Value.oneCell' = true)
    (h63 : n + m ≤ maxLen) (hbytes : (n + m) * bytes ≤ 140737488355328) (hbase : base ≤ w.heap.size)
    (h : ∀ g c w', w'.ownsRow base e size (.slice g (n + m) c) (n + m) (xs ++ ys) → w.grownBy w' v.ownBlock → wpList P ops Q rest (a.put o.dst (.slice g (n + m) c)) w') : wpList P ops Q (o :: rest) a w :=
  wpList_plain hgd fun _ hK => wp_append_sl s x t ho base e z size bytes ht hi hzs hsz v n xs hown hs u m ys hx hsl hm h1 h63 hbytes hbase fun g c w' h2 h3 => hK _ _ (h g c w' h2 h3)
theorem run_grow_nil {P : Program} (w : World) (t t3 e : TypeId) (z : Value) (size bytes : Nat) (ht : P.underlying t = some (.slice e)) (h3 : P.underlying t3 = some (.int .i64)) (hi : (P.info? e).map (fun i => (i.zero, i.size, i.bytes)) = some (some z, size, bytes))
    (hsz : 0 < size) (n : Nat) (hn : 0 < n) (h63 : n ≤ 4611686018427387904) (hbytes : n * bytes ≤ 140737488355328) :
    ∃ cap, n ≤ cap ∧ cap ≤ maxLen ∧ ∀ ty, (Builtin.append_ #[t, t3] ty #[.slice none 0 0, .int .i64 (n : Int)]).run P w = .ok (.slice (some ⟨w.heap.size, 0, none⟩) n cap) (w.drew.alloc (.cells (Builtin.zeroCells z.cells n ++ Builtin.zeroCells z.cells (cap - n)) e)) := by
  obtain ⟨i, hi', hz, hs1, hs2⟩ := info_parts hi
  subst hs1 hs2
  refine ⟨grownCap w n 0 e, grownCap_ge w _ _ _, grownCap_le_maxLen w n 0 e (by unfold maxLen; omega), fun ty => ?_⟩
  have h := Lib.run_append_grow_zeros w t t3 ty e i z .i64 .i64 ht h3 hi' hz none 0 0 [] (run_firstCells_none w.drew i.size 0 0 0) n hn hsz (by omega) (by omega) (by omega) (by rw [Nat.zero_add]; exact growslice_fits (by omega) hbytes)
  rw [Nat.zero_add] at h
  simpa using h
end Go.Proofs.YtipnhmdibkkifaaGreatDoor
set_option linter.unusedVariables false
set_option linter.unusedSimpArgs false
set_option linter.unusedSectionVars false
namespace Go.Proofs.YtipnhmdibkkifaaGreatDoor
open Go.RowKit
variable [Base]
theorem own_keep {w w' : World} {base : Nat} {e : TypeId} {size : Nat} {v : Value} {n : Nat} {xs : List Value} (h : w.ownsRow base e size v n xs) (hb : ∀ q, q < w.heap.size → base ≤ q → w'.heap[q]? = w.heap[q]?) : w'.ownsRow base e size v n xs := by
  obtain ⟨h1, h2⟩ := h
  refine ⟨h1, ?_⟩
  rcases h2 with h2 | ⟨g, cap, cur, e1, e2, e3, e4⟩
  · exact .inl h2
  · exact .inr ⟨g, cap, cur, e1, e2, (hb g (lt_heap e3) e2).trans e3, e4⟩
theorem own_below {w w' : World} {base : Nat} {e : TypeId} {size : Nat} {v : Value} {n : Nat} {xs : List Value} (h : w.ownsRow base e size v n xs) (hb : Below w.heap.size w w') : w'.ownsRow base e size v n xs := own_keep h fun q hq _ => hb.block q hq
end Go.Proofs.YtipnhmdibkkifaaGreatDoor
set_option linter.unusedVariables false
set_option linter.unusedSimpArgs false
set_option linter.unusedSectionVars false
namespace Go.Proofs.YtipnhmdibkkifaaGreatDoor
open Go.RowKit
variable [Base]
structure RowEl (α : Type) where
  T : TypeId
  sz : Nat
  pos : 0 < sz
  C : World → List Value → α → Prop
  inner : List TypeId
  len : ∀ {w cs x}, C w cs x → cs.length = sz
  keep : ∀ {w w' cs x}, (∀ U ∈ inner, SameT U w w') → C w cs x → C w' cs x
variable {α : Type} {E : RowEl α}
def RowsAt (E : RowEl α) (w : World) (v : Value) (l : List α) : Prop := ∃ xss, SliceAt w E.T E.sz v xss.flatten ∧ All2 (E.C w) xss l
theorem RowsAt.nil {w : World} : RowsAt E w (.slice none 0 0) [] := ⟨[], SliceAt.nil, trivial⟩
theorem RowsAt.keep {w w' : World} {v : Value} {l : List α} (h : RowsAt E w v l) (hs : ∀ U ∈ E.T :: E.inner, SameT U w w') : RowsAt E w' v l := by
  obtain ⟨xss, h1, h2⟩ := h
  exact ⟨xss, h1.same (hs _ (by simp)), h2.mono fun _ _ => E.keep fun U hU => hs U (List.mem_cons_of_mem _ hU)⟩
theorem RowsAt.below {w w' : World} {v : Value} {l : List α} (h : RowsAt E w v l) (hb : Below w.heap.size w w') : RowsAt E w' v l := h.keep fun _ _ => SameT.below hb
theorem RowsAt.cell {w : World} {v : Value} {l : List α} (h : RowsAt E w v l) : ∃ a c, v = .slice a l.length c ∧ l.length ≤ maxLen ∧ l.length ≤ c ∧ c ≤ maxLen ∧ ∀ k x, l[k]? = some x → ∃ b off cs, a = some ⟨b, off, none⟩ ∧ b < w.heap.size ∧ E.C w cs x ∧
    ∀ j, j < E.sz → w.cell? ⟨b, off + k * E.sz + j, none⟩ = cs[j]? := by
  obtain ⟨xss, h1, h2⟩ := h
  obtain ⟨a, c, e, hm, h3, h4, hc⟩ := rows_lie h1 (h2.eachR (fun _ _ h => E.len h)) E.pos
  rw [h2.length] at e hm h3
  refine ⟨a, c, e, hm, h3, h4, fun k x hk => ?_⟩
  obtain ⟨cs, hx, hC⟩ := h2.satR hk
  obtain ⟨b, off, rfl, hlt, _, hc2⟩ := hc k _ hx
  exact ⟨b, off, cs, rfl, hlt, hC, hc2⟩
end Go.Proofs.YtipnhmdibkkifaaGreatDoor
set_option linter.unusedVariables false
set_option linter.unusedSimpArgs false
set_option linter.unusedSectionVars false
namespace Go.Proofs.YtipnhmdibkkifaaGreatDoor
open Go.RowKit
variable [Base]
abbrev TS : TypeId := 9
theorem und_str : Tryz.prog.underlying TS = some .string := Tryz.underlying9
theorem und_msb : Tryz.prog.underlying 102 = some (.map TS 4) := Tryz.underlying102
theorem zeroB (w : World) : (zeroValue 4).run Tryz.prog w = .ok (.bool false) w := by kernel_rfl
noncomputable abbrev strK : KeyE Tryz.prog TS (List UInt8) := strKey und_str
def NamesM (w : World) (b n : Nat) (l : List Str) : Prop := ∃ th, MapG strK boolEnc w b n (fun x => l.contains x) th
theorem NamesM.below {w w' : World} {b n : Nat} {l : List Str} (h : NamesM w b n l) (hb : Below w.heap.size w w') : NamesM w' b n l := by
  obtain ⟨th, h⟩ := h
  exact ⟨th, h.below hb⟩
theorem NamesM.lt {w : World} {b n : Nat} {l : List Str} (h : NamesM w b n l) : b < w.heap.size := by
  obtain ⟨th, h⟩ := h
  exact h.lt
theorem NamesM.look {w : World} {b n : Nat} {l : List Str} (h : NamesM w b n l) {x : Str} (hx : x.length ≤ maxLen) : (Instr.lookup 102 (.map (some b)) (sv x) false).run Tryz.prog w = .ok (.bool (l.contains x)) w := by
  obtain ⟨th, h⟩ := h
  exact h.look und_msb (zeroB w) hx
def DupQ (l : List Str) (w : World) (e : Ending) (w' : World) : Prop := ∃ b, e = .returned (.tuple #[iv (dupI l), .map (some b)]) ∧ NamesM w' b l.length l ∧ w.heap.size ≤ b ∧ Below w.heap.size w w'
def DupAt (l : List Str) (i : Nat) (a : Int) : Prop := (a = -1 ∧ dupI l = dupGo (l.take i) (l.drop i) i) ∨ (0 ≤ a ∧ dupI l = a)
theorem DupAt.start (l : List Str) : DupAt l 0 (-1) := .inl ⟨rfl, by simp [dupI]⟩
theorem DupAt.step {l : List Str} {i : Nat} {a : Int} {x : Str} (h : DupAt l i a) (hx : l[i]? = some x) : DupAt l (i + 1) (if (l.take i).contains x = true ∧ a < 0 then (i : Int) else a) := by
  obtain ⟨hi, rfl⟩ := List.getElem?_eq_some_iff.1 hx
  rcases h with ⟨rfl, h⟩ | ⟨h0, h⟩
  · rw [List.drop_eq_getElem_cons hi] at h
    unfold dupGo at h
    by_cases hc : (l.take i).contains l[i] = true
    · rw [if_pos hc] at h
      rw [if_pos ⟨hc, by omega⟩]
      exact .inr ⟨by omega, h⟩
    · rw [if_neg hc] at h
      rw [if_neg (fun q => hc q.1)]
      refine .inl ⟨rfl, ?_⟩
      rw [h, List.take_add_one, List.getElem?_eq_getElem hi]
      rfl
  · rw [if_neg (by omega)]
    exact .inr ⟨h0, h⟩
theorem DupAt.fin {l : List Str} {a : Int} (h : DupAt l l.length a) : dupI l = a := by
  rcases h with ⟨rfl, h⟩ | ⟨_, h⟩
  · rw [h]; simp [dupGo]
  · exact h
theorem below_map {w w' : World} {b B : Nat} (hg : w.grownBy w' (some b)) (hlt : b < w.heap.size) (hb : B ≤ b) : Below B w w' :=
  ⟨hg.os, hg.tape, hg.output, hg.size, fun k hk => by
    rcases Nat.lt_or_ge k w.heap.size with h | h
    · exact hg.block k h (by intro e; injection e with e; omega)
    · omega⟩
set_option maxRecDepth 100000 in
set_option maxHeartbeats 2000000 in
theorem dupF_any (p : List PFunc) (hp : ∀ f ∈ p, f.name.length ≤ 1000) (v : Value) (w : World) (h : FuncsAt w v p) : Calls Tryz.prog 43 #[v, .func (.func 44) #[] #[]] w (DupQ (p.map PFunc.name) w) := by
  obtain ⟨a, c, rfl, hn, hc⟩ := h.cell
  have HC := Lib.hid hc
  have HP := Lib.hid (show ∀ f ∈ p, f.name.length ≤ maxLen from fun f hf => Nat.le_trans (hp f hf) (by unfold maxLen; omega))
  obtain ⟨n, hl⟩ : ∃ n, p.length = n := ⟨_, rfl⟩
  rw [hl] at hn ⊢
  unfold maxLen at hn
  have HL := Lib.hid hl
  obtain ⟨l, hln⟩ : ∃ l, p.map PFunc.name = l := ⟨_, rfl⟩
  have HNM := Lib.hid hln
  have HLL := Lib.hid (show l.length = n by rw [← hln, List.length_map, hl])
  rw [hln]
  obtain ⟨mb, hmb⟩ : ∃ b, w.heap.size = b := ⟨_, rfl⟩
  have HMB := Lib.hid hmb
  obtain ⟨W, hW⟩ : ∃ W, w.alloc (.map #[] 0) = W := ⟨_, rfl⟩
  have HWW := Lib.hid hW
  have HM0 := Lib.hid (show NamesM W mb 0 (l.take 0) by rw [← hW, ← hmb]; exact ⟨_, (MapG.made strK boolEnc w).congr (fun x => by simp [boolEnc]) (fun _ => rfl)⟩)
  have HB0 := Lib.hid (show Below mb w W by rw [← hW, ← hmb]; exact (Below.refl _ _).alloc (Nat.le_refl _) _)
  clear hc h hl hln hp hW
  have hmm := @run_makeMap Tryz.prog
  go_enter Tryz.func43, Tryz.ntmps43
  go_upto_region 2 with (fail)
  rw [show w.alloc (.map #[] 0) = W from HWW.out]
  try rw [hmb]
  clear hmb hmm
  go_wp2
  go_loopw [7, 13] (fun y7 y13 wr => ∃ (i : Nat) (q : Int), i ≤ n ∧ y13 = .int .i64 i ∧ y7 = .int .i64 q ∧ -1 ≤ q ∧ q ≤ n ∧ Hid (DupAt l i q) ∧ Hid (NamesM wr mb i (l.take i)) ∧ Hid (Below mb w wr)) (fun _ y _ => n - (intOf y).toNat)
  case atStart => exact ⟨0, -1, Nat.zero_le _, rfl, rfl, Int.le_refl _, by omega, DupAt.start l, HM0.out, HB0.out⟩
  case round =>
    obtain ⟨i, q, hi, rfl, rfl, hq1, hq2, HD, HM, HB⟩ := hrel
    by_cases hlt : i < n
    rotate_left
    · have hin : i = n := by omega
      have HF := Lib.hid (show dupI l = q from DupAt.fin (by rw [HLL.out, ← hin]; exact HD.out))
      have HM2 := Lib.hid (show NamesM wr mb l.length l by have h1 := HM.out; rw [hin, ← HLL.out, List.take_length] at h1; exact h1)
      clear hin
      go_wp2
      rw [← HF.out]
      exact bodyPost_ret (v := .tuple #[iv (dupI l), .map (some mb)]) (by simp [results, Tryz.results43, go_sem, HF.out]) rfl ⟨mb, rfl, HM2.out, by rw [HMB.out]; exact Nat.le_refl _, by rw [HMB.out]; exact HB.out⟩
    · obtain ⟨f, hf⟩ : ∃ f, p[i]? = some f := ⟨_, List.getElem?_eq_getElem (by rw [HL.out]; exact hlt)⟩
      obtain ⟨fb, off, bv, rfl, hfb, g0, g1, hbl⟩ := HC.out i f hf
      obtain ⟨ba, bc, rfl, -, -⟩ := hbl.cell
      obtain ⟨bn, hbn⟩ : ∃ n, List.length f.blocks = n := ⟨_, rfl⟩
      rw [hbn] at g1
      clear hbl hbn
      have hmw := HMB.out
      have g0 := (HB.out.cell (p := ⟨fb, off + i * 2, none⟩) (by show fb < mb; omega)).trans g0
      have g1 := (HB.out.cell (p := ⟨fb, off + i * 2 + 1, none⟩) (by show fb < mb; omega)).trans g1
      have HX := Lib.hid (show l[i]? = some f.name by rw [← HNM.out, List.getElem?_map, hf]; rfl)
      have HFL := Lib.hid (HP.out f (List.mem_of_getElem? hf))
      obtain ⟨x, hx⟩ : ∃ x, f.name = x := ⟨_, rfl⟩
      rw [hx] at g0 HX HFL
      have hin : (i : Int) < (n : Int) := by omega
      obtain ⟨U, hU⟩ : ∃ U, wr.alloc (.cells #[sv x, .slice ba bn bc] 74) = U := ⟨_, rfl⟩
      have HXB := Lib.hid (show U.heap[wr.heap.size]? = some (.cells #[sv x, .slice ba bn bc] 74 (0, 0)) by rw [← hU]; exact heap_alloc_new _ _)
      have BU := Lib.hid (show Below wr.heap.size wr U by rw [← hU]; exact (Below.refl _ _).alloc (Nat.le_refl _) _)
      have HUU := Lib.hid hU
      have hml : mb < wr.heap.size := HM.out.lt
      obtain ⟨xb, hxb⟩ : ∃ b, wr.heap.size = b := ⟨_, rfl⟩
      rw [hxb] at HXB BU hml
      have HXE := Lib.hid hxb
      clear hf hx hU hmw
      go_upto_region 6 with (fail)
      rw [show wr.alloc (.cells #[sv x, .slice ba bn bc] 74) = U from HUU.out]
      try rw [hxb]
      clear hxb g0 g1
      obtain ⟨x0, x1⟩ := cells2s HXB.out
      have HM1 := Lib.hid (HM.out.below (by rw [HXE.out]; exact BU.out))
      go_wp2_with fail
      refine (fname_any U x (.slice ba bn bc)).mono ?_
      rintro e w1 ⟨rfl, b1⟩
      have HM2 := Lib.hid (HM1.out.below b1)
      have HXB2 := Lib.hid (lies_below HXB.out b1 (lt_heap HXB.out))
      have HB2 := Lib.hid (HB.out.trans ((BU.out.trans (b1.mono (by have := BU.out.size; have := HXE.out; omega))).mono (by omega)))
      clear b1 x0 x1
      obtain ⟨x0, x1⟩ := cells2s HXB2.out
      have lk := HM2.out.look (x := x) HFL.out
      obtain ⟨r, hr⟩ : ∃ r, (l.take i).contains x = r := ⟨_, rfl⟩
      rw [hr] at lk
      have HR := Lib.hid hr
      clear hr
      have HDS := Lib.hid (HD.out.step HX.out)
      rw [HR.out] at HDS
      cases r with
      | false =>
        rw [if_neg (by simp)] at HDS
        go_wp2_with fail
        refine (fname_any _ x (.slice ba bn bc)).mono ?_
        rintro e w3 ⟨rfl, b3⟩
        have HM3 := Lib.hid (HM2.out.below b3)
        have HB3 := Lib.hid (HB2.out.trans (b3.mono (by have := HM2.out.lt; omega)))
        clear b3
        obtain ⟨th, hth⟩ := HM3.out
        have HTH := Lib.hid hth
        clear hth
        go_wp2_with (at_mapUpdate; refine wpList_storeG (Ky := strK) boolEnc rfl _ _ _ _ rfl und_msb rfl HTH.out (by unfold maxLen; omega) (k := x) rfl HFL.out true rfl ?_; intro w4 hm hg; have HM4 := Lib.hid hm; have HG4 := Lib.hid hg; clear hm hg)
        go_roundw
        case rel => exact ⟨i + 1, q, by omega, by go_num, rfl, by omega, by omega, HDS, ⟨_, HM4.out.congr (fun y => by have := HX.out; simp [List.take_add_one, this]; by_cases e : y = x <;> simp [e]) (fun _ => rfl)⟩, (HB3.out.trans (below_map HG4.out HM3.out.lt (Nat.le_refl _)))⟩
        case measure => simp [intOf]; omega
      | true =>
        by_cases hq0 : q < 0
        · rw [if_pos ⟨rfl, hq0⟩] at HDS
          go_wp2_with fail
          refine (fname_any _ x (.slice ba bn bc)).mono ?_
          rintro e w3 ⟨rfl, b3⟩
          have HM3 := Lib.hid (HM2.out.below b3)
          have HB3 := Lib.hid (HB2.out.trans (b3.mono (by have := HM2.out.lt; omega)))
          clear b3
          obtain ⟨th, hth⟩ := HM3.out
          have HTH := Lib.hid hth
          clear hth
          go_wp2_with (at_mapUpdate; refine wpList_storeG (Ky := strK) boolEnc rfl _ _ _ _ rfl und_msb rfl HTH.out (by unfold maxLen; omega) (k := x) rfl HFL.out true rfl ?_; intro w4 hm hg; have HM4 := Lib.hid hm; have HG4 := Lib.hid hg; clear hm hg)
          go_roundw
          case rel => exact ⟨i + 1, (i : Int), by omega, by go_num, rfl, by omega, by omega, HDS, ⟨_, HM4.out.congr (fun y => by have := HX.out; simp [List.take_add_one, this]; by_cases e : y = x <;> simp [e]) (fun _ => rfl)⟩, (HB3.out.trans (below_map HG4.out HM3.out.lt (Nat.le_refl _)))⟩
          case measure => simp [intOf]; omega
        · rw [if_neg (fun h => hq0 h.2)] at HDS
          go_wp2_with fail
          refine (fname_any _ x (.slice ba bn bc)).mono ?_
          rintro e w3 ⟨rfl, b3⟩
          have HM3 := Lib.hid (HM2.out.below b3)
          have HB3 := Lib.hid (HB2.out.trans (b3.mono (by have := HM2.out.lt; omega)))
          clear b3
          obtain ⟨th, hth⟩ := HM3.out
          have HTH := Lib.hid hth
          clear hth
          go_wp2_with (at_mapUpdate; refine wpList_storeG (Ky := strK) boolEnc rfl _ _ _ _ rfl und_msb rfl HTH.out (by unfold maxLen; omega) (k := x) rfl HFL.out true rfl ?_; intro w4 hm hg; have HM4 := Lib.hid hm; have HG4 := Lib.hid hg; clear hm hg)
          go_roundw
          case rel => exact ⟨i + 1, q, by omega, by go_num, rfl, by omega, by omega, HDS, ⟨_, HM4.out.congr (fun y => by have := HX.out; simp [List.take_add_one, this]; by_cases e : y = x <;> simp [e]) (fun _ => rfl)⟩, (HB3.out.trans (below_map HG4.out HM3.out.lt (Nat.le_refl _)))⟩
          case measure => simp [intOf]; omega
set_option maxRecDepth 100000 in
set_option maxHeartbeats 2000000 in
theorem dupB_any (p : List PBlock) (hp : ∀ f ∈ p, f.name.length ≤ 1000) (v : Value) (w : World) (h : BlocksAt w v p) : Calls Tryz.prog 70 #[v, .func (.func 71) #[] #[]] w (DupQ (p.map PBlock.name) w) := by
  obtain ⟨a, c, rfl, hn, hc⟩ := h.cell
  have HC := Lib.hid hc
  have HP := Lib.hid (show ∀ f ∈ p, f.name.length ≤ maxLen from fun f hf => Nat.le_trans (hp f hf) (by unfold maxLen; omega))
  obtain ⟨n, hl⟩ : ∃ n, p.length = n := ⟨_, rfl⟩
  rw [hl] at hn ⊢
  unfold maxLen at hn
  have HL := Lib.hid hl
  obtain ⟨l, hln⟩ : ∃ l, p.map PBlock.name = l := ⟨_, rfl⟩
  have HNM := Lib.hid hln
  have HLL := Lib.hid (show l.length = n by rw [← hln, List.length_map, hl])
  rw [hln]
  obtain ⟨mb, hmb⟩ : ∃ b, w.heap.size = b := ⟨_, rfl⟩
  have HMB := Lib.hid hmb
  obtain ⟨W, hW⟩ : ∃ W, w.alloc (.map #[] 0) = W := ⟨_, rfl⟩
  have HWW := Lib.hid hW
  have HM0 := Lib.hid (show NamesM W mb 0 (l.take 0) by rw [← hW, ← hmb]; exact ⟨_, (MapG.made strK boolEnc w).congr (fun x => by simp [boolEnc]) (fun _ => rfl)⟩)
  have HB0 := Lib.hid (show Below mb w W by rw [← hW, ← hmb]; exact (Below.refl _ _).alloc (Nat.le_refl _) _)
  clear hc h hl hln hp hW
  have hmm := @run_makeMap Tryz.prog
  go_enter Tryz.func70, Tryz.ntmps70
  go_upto_region 2 with (fail)
  rw [show w.alloc (.map #[] 0) = W from HWW.out]
  try rw [hmb]
  clear hmb hmm
  go_wp2
  go_loopw [7, 13] (fun y7 y13 wr => ∃ (i : Nat) (q : Int), i ≤ n ∧ y13 = .int .i64 i ∧ y7 = .int .i64 q ∧ -1 ≤ q ∧ q ≤ n ∧ Hid (DupAt l i q) ∧ Hid (NamesM wr mb i (l.take i)) ∧ Hid (Below mb w wr)) (fun _ y _ => n - (intOf y).toNat)
  case atStart => exact ⟨0, -1, Nat.zero_le _, rfl, rfl, Int.le_refl _, by omega, DupAt.start l, HM0.out, HB0.out⟩
  case round =>
    obtain ⟨i, q, hi, rfl, rfl, hq1, hq2, HD, HM, HB⟩ := hrel
    by_cases hlt : i < n
    rotate_left
    · have hin : i = n := by omega
      have HF := Lib.hid (show dupI l = q from DupAt.fin (by rw [HLL.out, ← hin]; exact HD.out))
      have HM2 := Lib.hid (show NamesM wr mb l.length l by have h1 := HM.out; rw [hin, ← HLL.out, List.take_length] at h1; exact h1)
      clear hin
      go_wp2
      rw [← HF.out]
      exact bodyPost_ret (v := .tuple #[iv (dupI l), .map (some mb)]) (by simp [results, Tryz.results70, go_sem, HF.out]) rfl ⟨mb, rfl, HM2.out, by rw [HMB.out]; exact Nat.le_refl _, by rw [HMB.out]; exact HB.out⟩
    · obtain ⟨f, hf⟩ : ∃ f, p[i]? = some f := ⟨_, List.getElem?_eq_getElem (by rw [HL.out]; exact hlt)⟩
      obtain ⟨fb, off, bv, rfl, hfb, g0, g1, hbl⟩ := HC.out i f hf
      obtain ⟨ba, bc, rfl, -, -⟩ := hbl.cell
      obtain ⟨bn, hbn⟩ : ∃ n, List.length f.stmts = n := ⟨_, rfl⟩
      rw [hbn] at g1
      clear hbl hbn
      have hmw := HMB.out
      have g0 := (HB.out.cell (p := ⟨fb, off + i * 2, none⟩) (by show fb < mb; omega)).trans g0
      have g1 := (HB.out.cell (p := ⟨fb, off + i * 2 + 1, none⟩) (by show fb < mb; omega)).trans g1
      have HX := Lib.hid (show l[i]? = some f.name by rw [← HNM.out, List.getElem?_map, hf]; rfl)
      have HFL := Lib.hid (HP.out f (List.mem_of_getElem? hf))
      obtain ⟨x, hx⟩ : ∃ x, f.name = x := ⟨_, rfl⟩
      rw [hx] at g0 HX HFL
      have hin : (i : Int) < (n : Int) := by omega
      obtain ⟨U, hU⟩ : ∃ U, wr.alloc (.cells #[sv x, .slice ba bn bc] 99) = U := ⟨_, rfl⟩
      have HXB := Lib.hid (show U.heap[wr.heap.size]? = some (.cells #[sv x, .slice ba bn bc] 99 (0, 0)) by rw [← hU]; exact heap_alloc_new _ _)
      have BU := Lib.hid (show Below wr.heap.size wr U by rw [← hU]; exact (Below.refl _ _).alloc (Nat.le_refl _) _)
      have HUU := Lib.hid hU
      have hml : mb < wr.heap.size := HM.out.lt
      obtain ⟨xb, hxb⟩ : ∃ b, wr.heap.size = b := ⟨_, rfl⟩
      rw [hxb] at HXB BU hml
      have HXE := Lib.hid hxb
      clear hf hx hU hmw
      go_upto_region 6 with (fail)
      rw [show wr.alloc (.cells #[sv x, .slice ba bn bc] 99) = U from HUU.out]
      try rw [hxb]
      clear hxb g0 g1
      obtain ⟨x0, x1⟩ := cells2s HXB.out
      have HM1 := Lib.hid (HM.out.below (by rw [HXE.out]; exact BU.out))
      go_wp2_with fail
      refine (bname_any U x (.slice ba bn bc)).mono ?_
      rintro e w1 ⟨rfl, b1⟩
      have HM2 := Lib.hid (HM1.out.below b1)
      have HXB2 := Lib.hid (lies_below HXB.out b1 (lt_heap HXB.out))
      have HB2 := Lib.hid (HB.out.trans ((BU.out.trans (b1.mono (by have := BU.out.size; have := HXE.out; omega))).mono (by omega)))
      clear b1 x0 x1
      obtain ⟨x0, x1⟩ := cells2s HXB2.out
      have lk := HM2.out.look (x := x) HFL.out
      obtain ⟨r, hr⟩ : ∃ r, (l.take i).contains x = r := ⟨_, rfl⟩
      rw [hr] at lk
      have HR := Lib.hid hr
      clear hr
      have HDS := Lib.hid (HD.out.step HX.out)
      rw [HR.out] at HDS
      cases r with
      | false =>
        rw [if_neg (by simp)] at HDS
        go_wp2_with fail
        refine (bname_any _ x (.slice ba bn bc)).mono ?_
        rintro e w3 ⟨rfl, b3⟩
        have HM3 := Lib.hid (HM2.out.below b3)
        have HB3 := Lib.hid (HB2.out.trans (b3.mono (by have := HM2.out.lt; omega)))
        clear b3
        obtain ⟨th, hth⟩ := HM3.out
        have HTH := Lib.hid hth
        clear hth
        go_wp2_with (at_mapUpdate; refine wpList_storeG (Ky := strK) boolEnc rfl _ _ _ _ rfl und_msb rfl HTH.out (by unfold maxLen; omega) (k := x) rfl HFL.out true rfl ?_; intro w4 hm hg; have HM4 := Lib.hid hm; have HG4 := Lib.hid hg; clear hm hg)
        go_roundw
        case rel => exact ⟨i + 1, q, by omega, by go_num, rfl, by omega, by omega, HDS, ⟨_, HM4.out.congr (fun y => by have := HX.out; simp [List.take_add_one, this]; by_cases e : y = x <;> simp [e]) (fun _ => rfl)⟩, (HB3.out.trans (below_map HG4.out HM3.out.lt (Nat.le_refl _)))⟩
        case measure => simp [intOf]; omega
      | true =>
        by_cases hq0 : q < 0
        · rw [if_pos ⟨rfl, hq0⟩] at HDS
          go_wp2_with fail
          refine (bname_any _ x (.slice ba bn bc)).mono ?_
          rintro e w3 ⟨rfl, b3⟩
          have HM3 := Lib.hid (HM2.out.below b3)
          have HB3 := Lib.hid (HB2.out.trans (b3.mono (by have := HM2.out.lt; omega)))
          clear b3
          obtain ⟨th, hth⟩ := HM3.out
          have HTH := Lib.hid hth
          clear hth
          go_wp2_with (at_mapUpdate; refine wpList_storeG (Ky := strK) boolEnc rfl _ _ _ _ rfl und_msb rfl HTH.out (by unfold maxLen; omega) (k := x) rfl HFL.out true rfl ?_; intro w4 hm hg; have HM4 := Lib.hid hm; have HG4 := Lib.hid hg; clear hm hg)
          go_roundw
          case rel => exact ⟨i + 1, (i : Int), by omega, by go_num, rfl, by omega, by omega, HDS, ⟨_, HM4.out.congr (fun y => by have := HX.out; simp [List.take_add_one, this]; by_cases e : y = x <;> simp [e]) (fun _ => rfl)⟩, (HB3.out.trans (below_map HG4.out HM3.out.lt (Nat.le_refl _)))⟩
          case measure => simp [intOf]; omega
        · rw [if_neg (fun h => hq0 h.2)] at HDS
          go_wp2_with fail
          refine (bname_any _ x (.slice ba bn bc)).mono ?_
          rintro e w3 ⟨rfl, b3⟩
          have HM3 := Lib.hid (HM2.out.below b3)
          have HB3 := Lib.hid (HB2.out.trans (b3.mono (by have := HM2.out.lt; omega)))
          clear b3
          obtain ⟨th, hth⟩ := HM3.out
          have HTH := Lib.hid hth
          clear hth
          go_wp2_with (at_mapUpdate; refine wpList_storeG (Ky := strK) boolEnc rfl _ _ _ _ rfl und_msb rfl HTH.out (by unfold maxLen; omega) (k := x) rfl HFL.out true rfl ?_; intro w4 hm hg; have HM4 := Lib.hid hm; have HG4 := Lib.hid hg; clear hm hg)
          go_roundw
          case rel => exact ⟨i + 1, q, by omega, by go_num, rfl, by omega, by omega, HDS, ⟨_, HM4.out.congr (fun y => by have := HX.out; simp [List.take_add_one, this]; by_cases e : y = x <;> simp [e]) (fun _ => rfl)⟩, (HB3.out.trans (below_map HG4.out HM3.out.lt (Nat.le_refl _)))⟩
          case measure => simp [intOf]; omega
end Go.Proofs.YtipnhmdibkkifaaGreatDoor
