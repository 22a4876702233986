/- A part of the proof. -/
import Derived.Test.YtipnhmdibkkifaaGreatDoorRows
import Derived.Test.YtipnhmdibkkifaaGreatDoorNu00
import Derived.Test.YtipnhmdibkkifaaGreatDoorNu01
import Derived.Test.YtipnhmdibkkifaaGreatDoorNu20
import Derived.WalkKit
import Derived.WalkSpells
import Derived.WalkLawsBesides
import Derived.Deep.QuietTactic
import Derived.BigQuiet
import Derived.Lib.Hide
import Derived.WalkMore
import Derived.RegionTactic
import Derived.ChangeAlike
import Derived.Laws.EntriesVeiled
set_option linter.unusedVariables false
set_option linter.unusedSimpArgs false
set_option linter.unusedVariables false
set_option linter.unusedSimpArgs false
set_option linter.unusedSectionVars false
namespace Go.Proofs.YtipnhmdibkkifaaGreatDoor
open Go.RowKit
variable [Base]
theorem infoTok : (Tryz.prog.info? 78).map (fun i => (i.zero, i.size, i.bytes)) = some (some (.agg #[.int .i64 0, .string ⟨#[]⟩, .int .i64 0, .int .i64 0]), 4, 40) := by kernel_rfl
structure Sc (w0 w : World) (B : Nat) (toks : List Tok) (i line start : Int) (op : Bool) : Prop where
  out : ∃ v n, w.heap[B]? = some (.cells #[v] 65 (0, 0)) ∧ w.ownsRow (B + 6) 78 4 v n (toks.map tokCells).flatten
  at_ : w.heap[B + 1]? = some (.cells #[.int .i64 i] 3 (0, 0))
  line : w.heap[B + 2]? = some (.cells #[.int .i64 line] 3 (0, 0))
  start : w.heap[B + 3]? = some (.cells #[.int .i64 start] 3 (0, 0))
  open_ : w.heap[B + 4]? = some (.cells #[.bool op] 4 (0, 0))
  clos : w.heap[B + 5]? = some (.cells #[.func (.func 33) #[] #[.pointer (some ⟨B, 0, none⟩), .pointer (some ⟨B + 2, 0, none⟩), .pointer (some ⟨B + 1, 0, none⟩), .pointer (some ⟨B + 3, 0, none⟩), .pointer (some ⟨B + 4, 0, none⟩)]] 93 (0, 0))
  below : Below B w0 w
def TokenPost (w : World) (B n : Nat) (xs : List Value) (kind line col : Int) (s : ByteArray) (e : Ending) (w' : World) : Prop :=
  e = .returned (.tuple #[]) ∧ ∃ v' w1, w1.ownsRow (B + 6) 78 4 v' (n + 1) (xs ++ [.int .i64 kind, .string s, .int .i64 line, .int .i64 col]) ∧ Below (B + 6) w w1 ∧
    w' = (w1.setCell ⟨B, 0, none⟩ v').setCell ⟨B + 4, 0, none⟩ (.bool (kind != 3))
set_option maxHeartbeats 400000 in
theorem token_walk {w : World} {B : Nat} {v : Value} {n : Nat} {xs : List Value} {kind i line start : Int} {op : Bool} (s : ByteArray)
    (hown : w.ownsRow (B + 6) 78 4 v n xs) (hn : n ≤ 1000000) (hB : B + 6 ≤ w.heap.size)
    (c0 : w.cell? ⟨B, 0, none⟩ = some v) (c1 : w.cell? ⟨B + 1, 0, none⟩ = some (.int .i64 i)) (c2 : w.cell? ⟨B + 2, 0, none⟩ = some (.int .i64 line))
    (c3 : w.cell? ⟨B + 3, 0, none⟩ = some (.int .i64 start)) (c4 : w.cell? ⟨B + 4, 0, none⟩ = some (.bool op))
    (f0 : w.frozen? ⟨B, 0, none⟩ = false) (f4 : w.frozen? ⟨B + 4, 0, none⟩ = false) (h1 : 0 ≤ i - start) (h2 : i - start ≤ 1000000) :
    Calls Tryz.prog 33 #[.int .i64 kind, .string s, .pointer (some ⟨B, 0, none⟩), .pointer (some ⟨B + 2, 0, none⟩), .pointer (some ⟨B + 1, 0, none⟩), .pointer (some ⟨B + 3, 0, none⟩), .pointer (some ⟨B + 4, 0, none⟩)] w
      (TokenPost w B n xs kind line (i - start + 1) s) := by
  go_enter Tryz.func33, Tryz.ntmps33
  go_wp2_with (at_builtin; refine wpList_push [.int .i64 kind, .string s, .int .i64 line, .int .i64 (i - start + 1)] rfl _ _ 65 rfl (B + 6) 78 _ 4 40 Tryz.underlying65 infoTok rfl (by omega) _ _ _ hown rfl rfl rfl rfl ?c3 ?c4 hB ?_)
  case c3 => unfold maxLen; omega
  case c4 => omega
  intro g cap w1 hown' hgrow hg1 hg2
  have hb1 : Below (B + 6) w w1 := Below.of_grown hgrow hown hB
  have d0 : w1.cell? ⟨B, 0, none⟩ = some v := (hb1.cell (by show B < B + 6; omega)).trans c0
  have d4 : w1.cell? ⟨B + 4, 0, none⟩ = some (.bool op) := (hb1.cell (by show B + 4 < B + 6; omega)).trans c4
  have g0 : w1.frozen? ⟨B, 0, none⟩ = false := (hb1.frozen (by show B < B + 6; omega)).trans f0
  have g4 : w1.frozen? ⟨B + 4, 0, none⟩ = false := (hb1.frozen (by show B + 4 < B + 6; omega)).trans f4
  clear c0 c1 c2 c3 c4 f0 f4 hown hgrow
  have HO := Lib.hid hown'
  have HB := Lib.hid hb1
  clear hown' hb1
  go_wp2
  go_end0
  exact ⟨rfl, _, w1, HO.out, HB.out, rfl⟩
theorem cell_blk {w : World} {b : Nat} {v : Value} {t : TypeId} {fr : Nat × Nat} (h : w.heap[b]? = some (.cells #[v] t fr)) : w.cell? ⟨b, 0, none⟩ = some v := by simp [World.cell?, h]
theorem free_blk {w : World} {b : Nat} {c : Array Value} {t : TypeId} {o : Nat} (h : w.heap[b]? = some (.cells c t (0, 0))) : w.frozen? ⟨b, o, none⟩ = false := by simp [World.frozen?, h]
theorem set_blk {w : World} {b : Nat} {v u : Value} {t : TypeId} {fr : Nat × Nat} (h : w.heap[b]? = some (.cells #[v] t fr)) : (w.setCell ⟨b, 0, none⟩ u).heap[b]? = some (.cells #[u] t fr) := by
  simp [World.setCell, Array.getElem?_modify, h]
def ScPost (w0 : World) (B : Nat) (toks : List Tok) (i line start : Int) (op : Bool) (e : Ending) (w' : World) : Prop :=
  e = .returned (.tuple #[]) ∧ Sc w0 w' B toks i line start op
theorem rowcells (toks : List Tok) (t : Tok) : ((toks ++ [t]).map tokCells).flatten = (toks.map tokCells).flatten ++ tokCells t := by simp
theorem Sc.lt {w0 w : World} {B : Nat} {toks : List Tok} {i line start : Int} {op : Bool} (h : Sc w0 w B toks i line start op) : B + 6 ≤ w.heap.size := lt_heap h.clos
theorem token_any {w0 w : World} {B : Nat} {toks : List Tok} {i line start : Int} {op : Bool} (h : Sc w0 w B toks i line start op) (kind : Int) (text : List UInt8)
    (hn : toks.length ≤ 1000000) (h1 : 0 ≤ i - start) (h2 : i - start ≤ 1000000) :
    Calls Tryz.prog 33 #[.int .i64 kind, .string ⟨text.toArray⟩, .pointer (some ⟨B, 0, none⟩), .pointer (some ⟨B + 2, 0, none⟩), .pointer (some ⟨B + 1, 0, none⟩), .pointer (some ⟨B + 3, 0, none⟩), .pointer (some ⟨B + 4, 0, none⟩)] w
      (ScPost w0 B (toks ++ [⟨kind, text, line, i - start + 1⟩]) i line start (kind != 3)) := by
  obtain ⟨v, n, ho, hown⟩ := h.out
  have hlen : n = toks.length := by have := hown.1; rw [toks_len] at this; omega
  refine (token_walk (op := op) ⟨text.toArray⟩ hown (by omega) h.lt (cell_blk ho) (cell_blk h.at_) (cell_blk h.line) (cell_blk h.start) (cell_blk h.open_) (free_blk ho) (free_blk h.open_) h1 h2).mono ?_
  rintro e w' ⟨rfl, v', w1, ho1, hb1, rfl⟩
  refine ⟨rfl, ?_⟩
  have hs (k : Nat) (hk : k < B + 6) (h0 : k ≠ B) (h4 : k ≠ B + 4) : ((w1.setCell ⟨B, 0, none⟩ v').setCell ⟨B + 4, 0, none⟩ (.bool (kind != 3))).heap[k]? = w.heap[k]? := by
    rw [Below.heap_setCell _ _ _ _ (by show k ≠ B + 4; omega), Below.heap_setCell _ _ _ _ (by show k ≠ B; omega)]
    exact hb1.block k hk
  constructor
  · refine ⟨v', n + 1, ?_, ?_⟩
    · rw [Below.heap_setCell _ _ _ _ (by show B ≠ B + 4; omega)]
      exact set_blk ((hb1.block B (by omega)).trans ho)
    · rw [rowcells]
      exact ownsRow_setCell_below (ownsRow_setCell_below ho1 (by show B < B + 6; omega) _) (by show B + 4 < B + 6; omega) _
  · exact (hs _ (by omega) (by omega) (by omega)).trans h.at_
  · exact (hs _ (by omega) (by omega) (by omega)).trans h.line
  · exact (hs _ (by omega) (by omega) (by omega)).trans h.start
  · refine set_blk (v := .bool op) ?_
    rw [Below.heap_setCell _ _ _ _ (by show B + 4 ≠ B; omega)]
    exact (hb1.block (B + 4) (by omega)).trans h.open_
  · exact (hs _ (by omega) (by omega) (by omega)).trans h.clos
  · exact (((h.below.trans (hb1.mono (by omega))).setCell (by show B ≤ B; omega) _).setCell (by show B ≤ B + 4; omega) _)
theorem finish_any {w0 w : World} {B : Nat} {toks : List Tok} {i line start : Int} {op : Bool} (h : Sc w0 w B toks i line start op)
    (hn : toks.length ≤ 1000000) (h1 : 0 ≤ i - start) (h2 : i - start ≤ 1000000) :
    Calls Tryz.prog 34 #[.pointer (some ⟨B + 4, 0, none⟩), .pointer (some ⟨B + 5, 0, none⟩)] w (ScPost w0 B (fin op line (i - start + 1) toks) i line start false) := by
  have c4 := cell_blk h.open_
  have c5 := cell_blk h.clos
  cases op
  · go_enter Tryz.func34, Tryz.ntmps34
    go_wp2
    go_end0
    exact ⟨rfl, h⟩
  · have H := Lib.hid h
    clear h
    go_enter Tryz.func34, Tryz.ntmps34
    go_wp2_with (go_at_call 33; refine (token_any H.out 3 [] hn h1 h2).mono ?_; rintro e w' ⟨rfl, hsc⟩)
    go_end0
    exact ⟨rfl, hsc⟩
end Go.Proofs.YtipnhmdibkkifaaGreatDoor
set_option linter.unusedVariables false
set_option linter.unusedSimpArgs false
set_option linter.unusedSectionVars false
namespace Go.Proofs.YtipnhmdibkkifaaGreatDoor
open Go.RowKit
variable [Base]
def jumps (J : Nat → Act → World → Prop) (Q : Exit → Act → World → Prop) : Exit → Act → World → Prop
  | .goto l, a, w => J l a w
  | e, a, w => Q e a w
section
variable {P : Program} {a : Act} {w : World} {Q : Exit → Act → World → Prop} {J : Nat → Act → World → Prop}
theorem wp_scope_labels {c : Code} (J : Nat → Nat → Act → World → Prop) (m0 : Nat)
    (first : c.wp P (jumps (fun l a w => ∃ m, m < m0 ∧ J l m a w) Q) a w)
    (pass : ∀ l m a w, J l m a w → ∃ r, findLabel c l = some r ∧ r.wp P (jumps (fun l' a w => ∃ m', m' < m ∧ J l' m' a w) Q) a w) : (Code.scope c).wp P Q a w := by
  intro b k cs
  have key : ∀ n l m a w, m < n → J l m a w → ∃ r e a' w', findLabel c l = some r ∧ Q e a' w' ∧ Arrives P (lone (b.at a (.code r :: .inScope c :: k)) cs w) b k cs e a' w' := by
    intro n
    induction n with
    | zero => intro l m a w h; omega
    | succ n ih =>
      intro l m a w hm hJ
      obtain ⟨r, hr, hwp⟩ := pass l m a w hJ
      obtain ⟨e, a₁, w₁, hq, harr⟩ := hwp b (.inScope c :: k) cs
      refine ⟨r, ?_⟩
      cases e with
      | normal => exact ⟨.normal, a₁, w₁, hr, hq, Steps.trans harr (.one step_inScope)⟩
      | exit id => exact ⟨.exit id, a₁, w₁, hr, hq, fun k' hk => harr k' (by simp [exitTo, hk])⟩
      | goto l' =>
        obtain ⟨m', hlt, hJ'⟩ := hq
        obtain ⟨r', e₂, a₂, w₂, hr', hq₂, harr₂⟩ := ih l' m' a₁ w₁ (by omega) hJ'
        exact ⟨e₂, a₂, w₂, hr, hq₂, .of_steps (harr _ (by simp [gotoIn, hr'])) harr₂⟩
      | ret => exact ⟨_, a₁, w₁, hr, hq, harr⟩
      | panic ch => exact ⟨_, a₁, w₁, hr, hq, harr⟩
      | outgrown => exact ⟨_, a₁, w₁, hr, hq, harr⟩
  obtain ⟨e, a₁, w₁, hq, harr⟩ := first b (.inScope c :: k) cs
  cases e with
  | normal => exact ⟨.normal, a₁, w₁, hq, .head step_scope (Steps.trans harr (.one step_inScope))⟩
  | exit id => exact ⟨.exit id, a₁, w₁, hq, fun k' hk => .head step_scope (harr k' (by simp [exitTo, hk]))⟩
  | goto l' =>
    obtain ⟨m', _, hJ'⟩ := hq
    obtain ⟨r', e₂, a₂, w₂, hr', hq₂, harr₂⟩ := key (m' + 1) l' m' a₁ w₁ (by omega) hJ'
    exact ⟨e₂, a₂, w₂, hq₂, .of_steps (.head step_scope (harr _ (by simp [gotoIn, hr']))) harr₂⟩
  | ret => exact ⟨_, a₁, w₁, hq, .of_steps (.one step_scope) harr⟩
  | panic ch => exact ⟨_, a₁, w₁, hq, .of_steps (.one step_scope) harr⟩
  | outgrown => exact ⟨_, a₁, w₁, hq, .of_steps (.one step_scope) harr⟩
end
def firstScope : Code → Option Code
  | .scope c => some c
  | .seq a b => match firstScope a with
    | some c => some c
    | none => firstScope b
  | .cond _ a b => match firstScope a with
    | some c => some c
    | none => firstScope b
  | .block _ c => firstScope c
  | _ => none
def behind (c : Code) (l : Nat) : Code := match findLabel c l with
  | some (.seq _ r) => r
  | some r => r
  | none => .skip
noncomputable def scanBody : Code := (Tryz.f21.body.bind firstScope).getD .skip
def fr (s : ByteArray) (B : Nat) (u : Nat → Value) : Act := { tmps := #[.string s, undef, .slice none 0 0, .int .i64 0, .int .i64 0, .int .i64 0, .pointer (some ⟨B, 0, none⟩), .pointer (some ⟨B + 1, 0, none⟩), .pointer (some ⟨B + 1 + 1, 0, none⟩), .pointer (some ⟨B + 1 + 1 + 1, 0, none⟩), .pointer (some ⟨B + 1 + 1 + 1 + 1, 0, none⟩), .pointer (some ⟨B + 1 + 1 + 1 + 1 + 1, 0, none⟩), .func (.func 34) #[] #[.pointer (some ⟨B + 1 + 1 + 1 + 1, 0, none⟩), .pointer (some ⟨B + 1 + 1 + 1 + 1 + 1, 0, none⟩)], u 13, u 14, u 15, u 16, u 17, u 18, u 19, u 20, u 21, u 22, u 23, u 24, u 25, u 26, u 27, u 28, u 29, u 30, u 31, u 32, u 33, u 34, u 35, u 36, u 37, u 38, u 39, u 40, u 41, u 42, u 43, u 44, u 45, u 46, u 47, u 48, u 49, u 50, u 51, u 52, u 53, u 54, u 55, u 56, u 57, u 58, u 59, u 60, u 61, u 62, u 63, u 64, u 65, u 66, u 67, u 68, u 69, u 70, u 71, u 72, u 73, u 74, u 75, u 76, u 77, u 78, u 79, u 80, u 81, u 82, u 83, u 84, u 85, u 86, u 87, u 88, u 89, u 90, u 91, u 92, u 93, u 94, u 95, u 96, u 97, u 98, u 99, u 100, u 101, u 102, u 103, u 104, u 105, u 106, u 107, u 108, u 109, u 110, u 111, u 112, u 113, u 114, u 115, u 116, u 117, u 118], defers := [] }
section
variable {w0 w : World} {B : Nat} {toks : List Tok} {i line start : Int} {op : Bool}
theorem Sc.drewN (h : Sc w0 w B toks i line start op) (n : Nat) : Sc w0 (w.drewN n) B toks i line start op :=
  ⟨by obtain ⟨v, m, h1, h2⟩ := h.out; exact ⟨v, m, h1, h2⟩, h.at_, h.line, h.start, h.open_, h.clos, h.below.trans ⟨rfl, rfl, rfl, Nat.le_refl _, fun _ _ => rfl⟩⟩
theorem Sc.drew (h : Sc w0 w B toks i line start op) : Sc w0 w.drew B toks i line start op := h.drewN 1
theorem Sc.setAt (h : Sc w0 w B toks i line start op) (j : Int) : Sc w0 (w.setCell ⟨B + 1, 0, none⟩ (.int .i64 j)) B toks j line start op := by
  have hs (k : Nat) (h1 : k ≠ B + 1) : (w.setCell ⟨B + 1, 0, none⟩ (.int .i64 j)).heap[k]? = w.heap[k]? := Below.heap_setCell _ _ _ _ h1
  obtain ⟨v, n, h1, h2⟩ := h.out
  exact ⟨⟨v, n, (hs _ (by omega)).trans h1, ownsRow_setCell_below h2 (by show B + 1 < B + 6; omega) _⟩, set_blk h.at_, (hs _ (by omega)).trans h.line, (hs _ (by omega)).trans h.start,
    (hs _ (by omega)).trans h.open_, (hs _ (by omega)).trans h.clos, h.below.setCell (by show B ≤ B + 1; omega) _⟩
theorem Sc.setLine (h : Sc w0 w B toks i line start op) (j : Int) : Sc w0 (w.setCell ⟨B + 2, 0, none⟩ (.int .i64 j)) B toks i j start op := by
  have hs (k : Nat) (h1 : k ≠ B + 2) : (w.setCell ⟨B + 2, 0, none⟩ (.int .i64 j)).heap[k]? = w.heap[k]? := Below.heap_setCell _ _ _ _ h1
  obtain ⟨v, n, h1, h2⟩ := h.out
  exact ⟨⟨v, n, (hs _ (by omega)).trans h1, ownsRow_setCell_below h2 (by show B + 2 < B + 6; omega) _⟩, (hs _ (by omega)).trans h.at_, set_blk h.line, (hs _ (by omega)).trans h.start,
    (hs _ (by omega)).trans h.open_, (hs _ (by omega)).trans h.clos, h.below.setCell (by show B ≤ B + 2; omega) _⟩
theorem Sc.setStart (h : Sc w0 w B toks i line start op) (j : Int) : Sc w0 (w.setCell ⟨B + 3, 0, none⟩ (.int .i64 j)) B toks i line j op := by
  have hs (k : Nat) (h1 : k ≠ B + 3) : (w.setCell ⟨B + 3, 0, none⟩ (.int .i64 j)).heap[k]? = w.heap[k]? := Below.heap_setCell _ _ _ _ h1
  obtain ⟨v, n, h1, h2⟩ := h.out
  exact ⟨⟨v, n, (hs _ (by omega)).trans h1, ownsRow_setCell_below h2 (by show B + 3 < B + 6; omega) _⟩, (hs _ (by omega)).trans h.at_, (hs _ (by omega)).trans h.line, set_blk h.start,
    (hs _ (by omega)).trans h.open_, (hs _ (by omega)).trans h.clos, h.below.setCell (by show B ≤ B + 3; omega) _⟩
end
def ScanPost (w0 : World) (R : Scanned) (e : Ending) (w' : World) : Prop :=
  ∃ v, e = .returned (.tuple #[v, .int .i64 R.line, .int .i64 R.col, .int .i64 R.err]) ∧ TokensAt w' v R.toks ∧ Below w0.heap.size w0 w'
structure Bd (s : ByteArray) (toks : List Tok) (i line start : Nat) (op : Bool) : Prop where
  size : s.size ≤ 4096
  at_ : i ≤ s.size
  start : start ≤ i
  line : line ≤ i + 1
  toks : toks.length + (if op then 1 else 0) ≤ 2 * i
def more (s : ByteArray) (i : Nat) : Bool := match (s.data.toList.drop i) with | [] => false | c :: _ => c.toNat != 10
def ScJ (s : ByteArray) (w0 : World) (B : Nat) (R : Scanned) (l m : Nat) (a : Act) (w : World) : Prop :=
  a = fr s B (slots a) ∧ ∃ (toks : List Tok) (i line start : Nat) (op : Bool), Sc w0 w B toks i line start op ∧ Bd s toks i line start op ∧
    match l with
    | 0 => lex (s.data.toList.drop i) line ((i : Int) - start + 1) op toks = R ∧ m = 3 * (s.size - i) + 1
    | 1 => op = false ∧ lex ((s.data.toList.drop i).dropWhile fun b => b.toNat != 10) line ((i : Int) - start + 1 + (((s.data.toList.drop i).takeWhile fun b => b.toNat != 10).length : Int)) op toks = R ∧
        m = 3 * (s.size - i) + (if more s i then 0 else 2)
    | 2 => lex (s.data.toList.drop i) line ((i : Int) - start + 1) op toks = R ∧ (∃ c r, s.data.toList.drop i = c :: r ∧ partB c = true) ∧ m = 3 * (s.size - i)
    | _ => False
theorem results_tmp4 {fn : Func} {t u v x : Tmp} (h : fn.results = #[.tmp t, .tmp u, .tmp v, .tmp x]) (tmps : Array Value) (P : Program) (w : World) :
    (results fn tmps).run P w = .ok (.tuple #[tmps.getD t undef, tmps.getD u undef, tmps.getD v undef, tmps.getD x undef]) w := by
  simp [results, h]
end Go.Proofs.YtipnhmdibkkifaaGreatDoor
set_option linter.unusedVariables false
set_option linter.unusedSimpArgs false
set_option linter.unusedSectionVars false
namespace Go.Proofs.YtipnhmdibkkifaaGreatDoor
open Go.RowKit
variable [Base]
theorem clip_any (a : Option Addr) (n c : Nat) (w : World) (hn : n ≤ maxLen) (hc : n ≤ c) :
    Calls Tryz.prog 35 #[.slice a n c] w fun e w' => e = .returned (.slice a n n) ∧ w' = w := by
  unfold maxLen at hn
  go_enter Tryz.func35, Tryz.ntmps35
  go_wp2
  go_outline
  go_ret
  exact ⟨rfl, rfl⟩
def EndPost (w0 : World) (B : Nat) (T : List Tok) (e : Ending) (w' : World) : Prop :=
  e = .returned (.tuple #[]) ∧ ∃ a n c, w'.cell? ⟨B, 0, none⟩ = some (.slice a n c) ∧ n ≤ maxLen ∧ n ≤ c ∧ Hid (TokensAt w' (.slice a n n) T ∧ Below B w0 w')
theorem clip_tokens {w : World} {a : Option Addr} {n c : Nat} {T : List Tok} (h : TokensAt w (.slice a n c) T) : TokensAt w (.slice a n n) T := by
  obtain ⟨n', cap, h1, h2, h3, h4⟩ := h
  rcases h4 with ⟨⟨a', e⟩, rfl⟩ | ⟨b, off, cs, fr, e, e2, e3⟩
  · injection e with e1 e2 e3
    subst e1 e2 e3
    exact ⟨0, 0, h1, Nat.le_refl _, Nat.zero_le _, .inl ⟨⟨_, rfl⟩, rfl⟩⟩
  · injection e with e1 e4 e5
    subst e1 e4 e5
    exact ⟨n, n, h1, Nat.le_refl _, by omega, .inr ⟨b, off, cs, fr, rfl, e2, e3⟩⟩
theorem finish_end {w0 w : World} {B : Nat} {toks : List Tok} {i line start : Int} {op : Bool} (h : Sc w0 w B toks i line start op) (T : List Tok) (hT : fin op line (i - start + 1) toks = T)
    (hn : toks.length ≤ 1000000) (h1 : 0 ≤ i - start) (h2 : i - start ≤ 1000000) :
    Calls Tryz.prog 34 #[.pointer (some ⟨B + 4, 0, none⟩), .pointer (some ⟨B + 5, 0, none⟩)] w (EndPost w0 B T) := by
  refine (finish_any h hn h1 h2).mono ?_
  rintro e w1 ⟨rfl, hsc⟩
  rw [hT] at hsc
  obtain ⟨v, n, ho, hown⟩ := hsc.out
  have htok : TokensAt w1 v T := SliceAt.of_owns hown
  obtain ⟨a, c, rfl, n1, n2, n3, _⟩ := htok.form
  exact ⟨rfl, a, _, c, cell_blk ho, n1, n2, clip_tokens htok, hsc.below⟩
set_option maxHeartbeats 1000000 in
theorem scan_end (s : ByteArray) (w0 : World) (B : Nat) (R : Scanned) (m : Nat) (w : World) (u : Nat → Value) (toks : List Tok) (line start : Nat) (op : Bool) (hB : Hid (w0.heap.size = B))
    (hsc : Sc w0 w B toks s.size line start op) (hbd : Bd s toks s.size line start op) (hR : Hid (R = ⟨fin op line ((s.size : Int) - start + 1) toks, 0, 0, 0⟩)) :
    (behind scanBody 0).wp Tryz.prog (jumps (fun l a w => ∃ m', m' < m ∧ ScJ s w0 B R l m' a w) (bodyPost Tryz.prog Tryz.f21 (ScanPost w0 R))) (fr s B u) w := by
  have c1 := cell_blk hsc.at_
  have b1 := hbd.size
  have b2 := hbd.start
  have b3 := hbd.toks
  have hS := Lib.hid hsc
  clear hsc hbd
  conv => arg 2; whnf
  unfold fr
  go_wp2_with (first | (go_at_call 34; refine (finish_end hS.out _ rfl (by omega) (by omega) (by omega)).mono ?_; rintro e w1 ⟨rfl, a, n, c, d0, n1, n2, hT⟩) | (go_at_call 35; refine (clip_any _ _ _ _ n1 n2).mono ?_; rintro e w1 ⟨rfl, rfl⟩))
  simp only [Exit.then, jumps]
  refine bodyPost_ret (results_tmp4 rfl _ _ _) rfl ?_
  rw [hR.out]
  exact ⟨_, rfl, hT.out.1, by rw [hB.out]; exact hT.out.2⟩
end Go.Proofs.YtipnhmdibkkifaaGreatDoor
