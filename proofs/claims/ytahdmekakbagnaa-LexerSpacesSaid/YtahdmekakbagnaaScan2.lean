/- The scanner of the program: its three labels. Printed by wip/gen_scan.py. -/
import Derived.Test.YtahdmekakbagnaaScan
import Derived.Test.YtahdmekakbagnaaLoop
import Derived.WalkMore
import Derived.RegionTactic
import Derived.ChangeAlike
import Derived.Laws.EntriesVeiled
namespace Go.Proofs.Ytahdmekakbagnaa
open Go.RowKit

/-- As Q; by a goto to label l: J l. -/
def jumps (J : Nat → Act → World → Prop) (Q : Exit → Act → World → Prop) : Exit → Act → World → Prop
  | .goto l, a, w => J l a w
  | e, a, w => Q e a w
section
variable {P : Program} {a : Act} {w : World} {Q : Exit → Act → World → Prop} {J : Nat → Act → World → Prop}
theorem jumps_goto (l : Nat) : jumps J Q (.goto l) a w = J l a w := rfl
theorem jumps_ret : jumps J Q .ret a w = Q .ret a w := rfl

/-- A scope whose labels are jumped to: what holds at each label, with a number that every jump lowers. -/
theorem wp_scope_labels {c : Code} (J : Nat → Nat → Act → World → Prop) (m0 : Nat)
    (first : c.wp P (jumps (fun l a w => ∃ m, m < m0 ∧ J l m a w) Q) a w)
    (pass : ∀ l m a w, J l m a w → ∃ r, findLabel c l = some r ∧ r.wp P (jumps (fun l' a w => ∃ m', m' < m ∧ J l' m' a w) Q) a w) : (Code.scope c).wp P Q a w := by
  intro b k cs
  have key : ∀ n l m a w, m < n → J l m a w → ∃ r e a' w', findLabel c l = some r ∧ Q e a' w' ∧ Arrives P (lone (b.at a (.code r :: .inScope c :: k)) cs w) b k cs e a' w' := by
    intro n
    induction n with
    | zero => intro l m a w h; omega
    | succ n ih =>
      intro l m a w hm hJ
      obtain ⟨r, hr, hwp⟩ := pass l m a w hJ
      obtain ⟨e, a₁, w₁, hq, harr⟩ := hwp b (.inScope c :: k) cs
      refine ⟨r, ?_⟩
      cases e with
      | normal => exact ⟨.normal, a₁, w₁, hr, hq, Steps.trans harr (.one step_inScope)⟩
      | exit id => exact ⟨.exit id, a₁, w₁, hr, hq, fun k' hk => harr k' (by simp [exitTo, hk])⟩
      | goto l' =>
        obtain ⟨m', hlt, hJ'⟩ := hq
        obtain ⟨r', e₂, a₂, w₂, hr', hq₂, harr₂⟩ := ih l' m' a₁ w₁ (by omega) hJ'
        exact ⟨e₂, a₂, w₂, hr, hq₂, .of_steps (harr _ (by simp [gotoIn, hr'])) harr₂⟩
      | ret => exact ⟨_, a₁, w₁, hr, hq, harr⟩
      | panic ch => exact ⟨_, a₁, w₁, hr, hq, harr⟩
      | outgrown => exact ⟨_, a₁, w₁, hr, hq, harr⟩
  obtain ⟨e, a₁, w₁, hq, harr⟩ := first b (.inScope c :: k) cs
  cases e with
  | normal => exact ⟨.normal, a₁, w₁, hq, .head step_scope (Steps.trans harr (.one step_inScope))⟩
  | exit id => exact ⟨.exit id, a₁, w₁, hq, fun k' hk => .head step_scope (harr k' (by simp [exitTo, hk]))⟩
  | goto l' =>
    obtain ⟨m', _, hJ'⟩ := hq
    obtain ⟨r', e₂, a₂, w₂, hr', hq₂, harr₂⟩ := key (m' + 1) l' m' a₁ w₁ (by omega) hJ'
    exact ⟨e₂, a₂, w₂, hq₂, .of_steps (.head step_scope (harr _ (by simp [gotoIn, hr']))) harr₂⟩
  | ret => exact ⟨_, a₁, w₁, hq, .of_steps (.one step_scope) harr⟩
  | panic ch => exact ⟨_, a₁, w₁, hq, .of_steps (.one step_scope) harr⟩
  | outgrown => exact ⟨_, a₁, w₁, hq, .of_steps (.one step_scope) harr⟩
end

/-- The scope of a body, and the code behind a label. -/
def firstScope : Code → Option Code
  | .scope c => some c
  | .seq a b => match firstScope a with
    | some c => some c
    | none => firstScope b
  | .cond _ a b => match firstScope a with
    | some c => some c
    | none => firstScope b
  | .block _ c => firstScope c
  | _ => none
def behind (c : Code) (l : Nat) : Code := match findLabel c l with
  | some (.seq _ r) => r
  | some r => r
  | none => .skip
noncomputable def scanBody : Code := (Try.f12.body.bind firstScope).getD .skip

def fr (s : ByteArray) (B : Nat) (u : Nat → Value) : Act := { tmps := #[.string s, undef, .slice none 0 0, .int .i64 0, .int .i64 0, .int .i64 0, .pointer (some ⟨B, 0, none⟩), .pointer (some ⟨B + 1, 0, none⟩), .pointer (some ⟨B + 1 + 1, 0, none⟩), .pointer (some ⟨B + 1 + 1 + 1, 0, none⟩), .pointer (some ⟨B + 1 + 1 + 1 + 1, 0, none⟩), .pointer (some ⟨B + 1 + 1 + 1 + 1 + 1, 0, none⟩), .func (.func 20) #[] #[.pointer (some ⟨B + 1 + 1 + 1 + 1, 0, none⟩), .pointer (some ⟨B + 1 + 1 + 1 + 1 + 1, 0, none⟩)], u 13, u 14, u 15, u 16, u 17, u 18, u 19, u 20, u 21, u 22, u 23, u 24, u 25, u 26, u 27, u 28, u 29, u 30, u 31, u 32, u 33, u 34, u 35, u 36, u 37, u 38, u 39, u 40, u 41, u 42, u 43, u 44, u 45, u 46, u 47, u 48, u 49, u 50, u 51, u 52, u 53, u 54, u 55, u 56, u 57, u 58, u 59, u 60, u 61, u 62, u 63, u 64, u 65, u 66, u 67, u 68, u 69, u 70, u 71, u 72, u 73, u 74, u 75, u 76, u 77, u 78, u 79, u 80, u 81, u 82, u 83, u 84, u 85, u 86, u 87, u 88, u 89, u 90, u 91, u 92, u 93, u 94, u 95, u 96, u 97, u 98, u 99, u 100, u 101, u 102, u 103, u 104, u 105, u 106, u 107, u 108, u 109, u 110, u 111, u 112, u 113, u 114, u 115, u 116, u 117, u 118], defers := [] }

section
variable {w0 w : World} {B : Nat} {toks : List Tok} {i line start : Int} {op : Bool}
theorem Sc.drewN (h : Sc w0 w B toks i line start op) (n : Nat) : Sc w0 (w.drewN n) B toks i line start op :=
  ⟨by obtain ⟨v, m, h1, h2⟩ := h.out; exact ⟨v, m, h1, h2⟩, h.at_, h.line, h.start, h.open_, h.clos, h.below.trans ⟨rfl, rfl, rfl, Nat.le_refl _, fun _ _ => rfl⟩⟩
theorem Sc.drew (h : Sc w0 w B toks i line start op) : Sc w0 w.drew B toks i line start op := h.drewN 1
theorem Sc.setAt (h : Sc w0 w B toks i line start op) (j : Int) : Sc w0 (w.setCell ⟨B + 1, 0, none⟩ (.int .i64 j)) B toks j line start op := by
  have hs (k : Nat) (h1 : k ≠ B + 1) : (w.setCell ⟨B + 1, 0, none⟩ (.int .i64 j)).heap[k]? = w.heap[k]? := Below.heap_setCell _ _ _ _ h1
  obtain ⟨v, n, h1, h2⟩ := h.out
  exact ⟨⟨v, n, (hs _ (by omega)).trans h1, ownsRow_setCell_below h2 (by show B + 1 < B + 6; omega) _⟩, set_blk h.at_, (hs _ (by omega)).trans h.line, (hs _ (by omega)).trans h.start,
    (hs _ (by omega)).trans h.open_, (hs _ (by omega)).trans h.clos, h.below.setCell (by show B ≤ B + 1; omega) _⟩
theorem Sc.setLine (h : Sc w0 w B toks i line start op) (j : Int) : Sc w0 (w.setCell ⟨B + 2, 0, none⟩ (.int .i64 j)) B toks i j start op := by
  have hs (k : Nat) (h1 : k ≠ B + 2) : (w.setCell ⟨B + 2, 0, none⟩ (.int .i64 j)).heap[k]? = w.heap[k]? := Below.heap_setCell _ _ _ _ h1
  obtain ⟨v, n, h1, h2⟩ := h.out
  exact ⟨⟨v, n, (hs _ (by omega)).trans h1, ownsRow_setCell_below h2 (by show B + 2 < B + 6; omega) _⟩, (hs _ (by omega)).trans h.at_, set_blk h.line, (hs _ (by omega)).trans h.start,
    (hs _ (by omega)).trans h.open_, (hs _ (by omega)).trans h.clos, h.below.setCell (by show B ≤ B + 2; omega) _⟩
theorem Sc.setStart (h : Sc w0 w B toks i line start op) (j : Int) : Sc w0 (w.setCell ⟨B + 3, 0, none⟩ (.int .i64 j)) B toks i line j op := by
  have hs (k : Nat) (h1 : k ≠ B + 3) : (w.setCell ⟨B + 3, 0, none⟩ (.int .i64 j)).heap[k]? = w.heap[k]? := Below.heap_setCell _ _ _ _ h1
  obtain ⟨v, n, h1, h2⟩ := h.out
  exact ⟨⟨v, n, (hs _ (by omega)).trans h1, ownsRow_setCell_below h2 (by show B + 3 < B + 6; omega) _⟩, (hs _ (by omega)).trans h.at_, (hs _ (by omega)).trans h.line, set_blk h.start,
    (hs _ (by omega)).trans h.open_, (hs _ (by omega)).trans h.clos, h.below.setCell (by show B ≤ B + 3; omega) _⟩
end

/-- What a scan comes to. -/
def ScanPost (w0 : World) (R : Scanned) (e : Ending) (w' : World) : Prop :=
  ∃ v, e = .returned (.tuple #[v, .int .i64 R.line, .int .i64 R.col, .int .i64 R.err]) ∧ TokensAt w' v R.toks ∧ Below w0.heap.size w0 w'

/-- Bounds. -/
structure Bd (s : ByteArray) (toks : List Tok) (i line start : Nat) (op : Bool) : Prop where
  size : s.size ≤ 4096
  at_ : i ≤ s.size
  start : start ≤ i
  line : line ≤ i + 1
  toks : toks.length + (if op then 1 else 0) ≤ 2 * i

def more (s : ByteArray) (i : Nat) : Bool := match (s.data.toList.drop i) with | [] => false | c :: _ => c.toNat != 10

def ScJ (s : ByteArray) (w0 : World) (B : Nat) (R : Scanned) (l m : Nat) (a : Act) (w : World) : Prop :=
  a = fr s B (slots a) ∧ ∃ (toks : List Tok) (i line start : Nat) (op : Bool), Sc w0 w B toks i line start op ∧ Bd s toks i line start op ∧
    match l with
    | 0 => lex (s.data.toList.drop i) line ((i : Int) - start + 1) op toks = R ∧ m = 3 * (s.size - i) + 1
    | 1 => op = false ∧ lex ((s.data.toList.drop i).dropWhile fun b => b.toNat != 10) line ((i : Int) - start + 1 + (((s.data.toList.drop i).takeWhile fun b => b.toNat != 10).length : Int)) op toks = R ∧
        m = 3 * (s.size - i) + (if more s i then 0 else 2)
    | 2 => lex (s.data.toList.drop i) line ((i : Int) - start + 1) op toks = R ∧ (∃ c r, s.data.toList.drop i = c :: r ∧ partB c = true) ∧ m = 3 * (s.size - i)
    | _ => False

theorem results_tmp4 {fn : Func} {t u v x : Tmp} (h : fn.results = #[.tmp t, .tmp u, .tmp v, .tmp x]) (tmps : Array Value) (P : Program) (w : World) :
    (results fn tmps).run P w = .ok (.tuple #[tmps.getD t undef, tmps.getD u undef, tmps.getD v undef, tmps.getD x undef]) w := by
  simp [results, h]
end Go.Proofs.Ytahdmekakbagnaa
