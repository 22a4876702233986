/- A part of the proof. -/
import Derived.Test.YtipnhmdibkkifaaGreatDoorNu00
import Derived.Test.YtipnhmdibkkifaaGreatDoorRows
import Derived.WalkKit
import Derived.WalkSpells
import Derived.WalkLawsBesides
import Derived.Deep.QuietTactic
import Derived.BigQuiet
import Derived.Lib.Hide
import Derived.Deep.RegionHeld3
import Derived.Deep.DrawnRows
import Derived.Deep.DeepMust
import Derived.Deep.RegionLaw
set_option linter.unusedVariables false
set_option linter.unusedSimpArgs false
set_option linter.unusedVariables false
set_option linter.unusedSimpArgs false
set_option linter.unusedSectionVars false
namespace Go.Proofs.YtipnhmdibkkifaaGreatDoor
def kws : List (List UInt8) := [[102, 117, 110, 99], [98, 108, 111, 99, 107], [101, 110, 100], [117, 115, 101], [99, 97, 108, 108], [115, 111, 117, 114, 99, 101], [115, 105, 110, 107], [115, 97, 110, 105, 116, 105, 122, 101], [103, 111, 116, 111], [98, 114, 97, 110, 99, 104], [114, 101, 116, 117, 114, 110]]
def firstB : List UInt8 → Bool
  | [] => false
  | c :: _ => isLet (c.toNat : Int)
def hasB (ls : List (List UInt8)) (l : List UInt8) : Bool := ls.contains l
def nameB (l : List UInt8) : Bool := firstB l && decide (l.length ≤ 16) && !(hasB kws l) && l.all partB
theorem name_long {l : List UInt8} (h : 16 < l.length) : nameB l = false := by
  have : decide (l.length ≤ 16) = false := by simp; omega
  simp [nameB, this]
theorem name_first {l : List UInt8} (h : firstB l = false) : nameB l = false := by simp [nameB, h]
theorem name_kw {l : List UInt8} (h : hasB kws l = true) : nameB l = false := by unfold nameB; rw [h]; simp
theorem name_rest {l : List UInt8} (h1 : l.length ≤ 16) (h2 : firstB l = true) (h3 : hasB kws l = false) : nameB l = l.all partB := by
  unfold nameB; rw [h2, h3, decide_eq_true h1]; simp
theorem take_all (p : UInt8 → Bool) (l : List UInt8) : ((l.takeWhile p).length = l.length) ↔ l.all p = true := by
  induction l with
  | nil => simp
  | cons c r ih =>
    rw [List.takeWhile_cons]
    cases h : p c
    · simp [h]
    · simp only [if_true, List.length_cons, Nat.add_right_cancel_iff, List.all_cons, h, Bool.true_and]
      exact ih
end Go.Proofs.YtipnhmdibkkifaaGreatDoor
set_option linter.unusedVariables false
set_option linter.unusedSimpArgs false
set_option linter.unusedSectionVars false
namespace Go.Proofs.YtipnhmdibkkifaaGreatDoor
def namesB (l : List Str) (a b : Int) : Bool := l.all nameB && (decide (a ≤ (l.length : Int)) && decide ((l.length : Int) ≤ b))
def opB (op : Int) (d e : Bool) (u t : Nat) : Bool :=
  if op = 1 then d && decide (t = 0)
  else if op = 2 then e && (decide (1 ≤ u) && decide (t = 0))
  else if op = 5 then e && (decide (u = 1) && decide (t = 0))
  else if op = 3 ∨ op = 7 then e && (decide (u = 0) && decide (t = 1))
  else if op = 4 ∨ op = 6 then d && (decide (u = 0) && decide (t = 0))
  else if op = 8 then e && (decide (u = 1) && decide (t = 2))
  else if op = 9 then e && (decide (u = 0) && decide (t = 0))
  else false
def stmtB (s : PStmt) : Bool := namesB s.uses 0 4 && (namesB s.targets 0 2 && opB s.op (nameB s.dfn) (s.dfn.isEmpty) s.uses.length s.targets.length)
def blockB (b : PBlock) : Bool := nameB b.name && (decide (1 ≤ b.stmts.length) && (decide (b.stmts.length ≤ 32) && b.stmts.all stmtB))
def funcB (f : PFunc) : Bool := nameB f.name && (decide (1 ≤ f.blocks.length) && (decide (f.blocks.length ≤ 16) && f.blocks.all blockB))
def validB (p : List PFunc) : Bool := decide (1 ≤ p.length) && (decide (p.length ≤ 8) && p.all funcB)
def wordsT (l : List Str) : Str := (l.map fun x => 32 :: x).flatten
def lineT (s : PStmt) : Str :=
  if s.op = 1 then s.dfn ++ [32, 61] ++ wordsT s.uses
  else if s.op = 2 then [117, 115, 101] ++ wordsT s.uses
  else if s.op = 3 then [99, 97, 108, 108] ++ wordsT s.targets
  else if s.op = 4 then [115, 111, 117, 114, 99, 101, 32] ++ s.dfn
  else if s.op = 5 then [115, 105, 110, 107] ++ wordsT s.uses
  else if s.op = 6 then [115, 97, 110, 105, 116, 105, 122, 101, 32] ++ s.dfn
  else if s.op = 7 then [103, 111, 116, 111] ++ wordsT s.targets
  else if s.op = 8 then [98, 114, 97, 110, 99, 104] ++ wordsT s.uses ++ wordsT s.targets
  else [114, 101, 116, 117, 114, 110]
def blockLines (b : PBlock) : List Str := ([98, 108, 111, 99, 107, 32] ++ b.name) :: b.stmts.map lineT
def funcLines (f : PFunc) : List Str := ([102, 117, 110, 99, 32] ++ f.name) :: ((f.blocks.map blockLines).flatten ++ [[101, 110, 100]])
def linesT (p : List PFunc) : List Str := (p.map funcLines).flatten
def printT (p : List PFunc) : Str := if validB p then ((linesT p).map fun x => x ++ [10]).flatten else []
end Go.Proofs.YtipnhmdibkkifaaGreatDoor
set_option linter.unusedVariables false
set_option linter.unusedSimpArgs false
set_option linter.unusedSectionVars false
namespace Go.Proofs.YtipnhmdibkkifaaGreatDoor
open Go.RowKit
variable [Base]
theorem size_of (l : List UInt8) : (⟨l.toArray⟩ : ByteArray).size = l.length := by show l.toArray.size = _; simp
theorem ret_bool {a b : Bool} (h : a = b) : Ending.returned (.bool a) = .returned (.bool b) := by rw [h]
def RowAt (w : World) (a : Option Addr) (ls : List (List UInt8)) : Prop := ∀ (k : Nat) s, ls[k]? = some s → ∃ b off, a = some ⟨b, off, none⟩ ∧ w.cell? ⟨b, off + k, none⟩ = some (.string ⟨s.toArray⟩)
theorem contains_step (ls : List (List UInt8)) (k : Nat) (s l : List UInt8) (h : ls[k]? = some s) : hasB (ls.drop k) l = (l == s || hasB (ls.drop (k + 1)) l) := by
  obtain ⟨h1, rfl⟩ := List.getElem?_eq_some_iff.1 h
  unfold hasB
  rw [List.drop_eq_getElem_cons h1, List.contains_cons]
end Go.Proofs.YtipnhmdibkkifaaGreatDoor
set_option linter.unusedVariables false
set_option linter.unusedSimpArgs false
set_option linter.unusedSectionVars false
namespace Go.Proofs.YtipnhmdibkkifaaGreatDoor
open Go.RowKit
theorem ret_int {k : IntKind} {a b : Int} (h : a = b) : Ending.returned (.int k a) = .returned (.int k b) := by rw [h]
theorem digit_any (c : Int) (w : World) :
    Calls Tryz.prog 36 #[.int .u8 c] w fun e w' => e = .returned (.bool (isDig c)) ∧ w' = w := by
  unfold isDig
  by_cases h1 : 48 ≤ c
  · go_enter Tryz.func36, Tryz.ntmps36
    go_wp2
    go_ret
    exact ⟨by simp [h1], rfl⟩
  · have h1' : decide (48 ≤ c) = false := by simp; omega
    go_enter Tryz.func36, Tryz.ntmps36
    go_wp2
    go_ret
    exact ⟨by simp [h1'], rfl⟩
theorem letter_any (c : Int) (w : World) :
    Calls Tryz.prog 18 #[.int .u8 c] w fun e w' => e = .returned (.bool (isLet c)) ∧ w' = w := by
  have hl : ∀ b, isLet c = b → isLet c = b := fun _ h => h
  by_cases h1 : 97 ≤ c
  · by_cases h2 : c ≤ 122
    · have hv : isLet c = true := by simp [isLet, h1, h2]
      rw [hv]
      clear hl hv
      go_enter Tryz.func18, Tryz.ntmps18
      go_wp2
      go_ret
      exact ⟨rfl, rfl⟩
    · have hv : isLet c = false := by simp [isLet]; omega
      have h3 : 65 ≤ c := by omega
      have h2' : decide (c ≤ 122) = false := by simp; omega
      have h4' : decide (c ≤ 90) = false := by simp; omega
      rw [hv]
      clear hl hv
      go_enter Tryz.func18, Tryz.ntmps18
      go_wp2
      go_ret
      exact ⟨rfl, rfl⟩
  · have h1' : decide (97 ≤ c) = false := by simp; omega
    by_cases h3 : 65 ≤ c
    · by_cases h4 : c ≤ 90
      · have hv : isLet c = true := by simp [isLet]; omega
        rw [hv]
        clear hl hv
        go_enter Tryz.func18, Tryz.ntmps18
        go_wp2
        go_ret
        exact ⟨rfl, rfl⟩
      · have hv : isLet c = false := by simp [isLet]; omega
        have h4' : decide (c ≤ 90) = false := by simp; omega
        rw [hv]
        clear hl hv
        go_enter Tryz.func18, Tryz.ntmps18
        go_wp2
        go_ret
        exact ⟨rfl, rfl⟩
    · have hv : isLet c = false := by simp [isLet]; omega
      have h3' : decide (65 ≤ c) = false := by simp; omega
      rw [hv]
      clear hl hv
      go_enter Tryz.func18, Tryz.ntmps18
      go_wp2
      go_ret
      exact ⟨rfl, rfl⟩
theorem part_any (c : Int) (w : World) :
    Calls Tryz.prog 32 #[.int .u8 c] w fun e w' => e = .returned (.bool (isPart c)) ∧ w' = w := by
  unfold isPart
  cases hl : isLet c
  · cases hd : isDig c
    all_goals
      go_enter Tryz.func32, Tryz.ntmps32
      go_wp2_with (first | (go_at_call 18; refine (letter_any _ _).mono ?_; rintro e w' ⟨rfl, rfl⟩) | (go_at_call 36; refine (digit_any _ _).mono ?_; rintro e w' ⟨rfl, rfl⟩))
      go_ret
      exact ⟨rfl, rfl⟩
  · go_enter Tryz.func32, Tryz.ntmps32
    go_wp2_with (first | (go_at_call 18; refine (letter_any _ _).mono ?_; rintro e w' ⟨rfl, rfl⟩) | (go_at_call 36; refine (digit_any _ _).mono ?_; rintro e w' ⟨rfl, rfl⟩))
    go_ret
    exact ⟨rfl, rfl⟩
theorem drop_cons (s : ByteArray) (k : Nat) (h : k < s.size) : s.data.toList.drop k = s[k] :: s.data.toList.drop (k + 1) := by
  rw [List.drop_eq_getElem_cons (by simpa using h)]; rfl
theorem drop_end (s : ByteArray) (k : Nat) (h : s.size ≤ k) : s.data.toList.drop k = [] := by
  rw [List.drop_eq_nil_iff]; simpa using h
def wlen (s : ByteArray) (k : Nat) : Nat := ((s.data.toList.drop k).takeWhile partB).length
theorem wlen_yes (s : ByteArray) (k : Nat) (h : k < s.size) (hp : isPart (s[k].toNat : Int) = true) : wlen s k = 1 + wlen s (k + 1) := by
  unfold wlen
  rw [drop_cons s k h, List.takeWhile_cons, if_pos (show partB s[k] = true from hp), List.length_cons]
  omega
theorem wlen_no (s : ByteArray) (k : Nat) (h : k < s.size) (hp : isPart (s[k].toNat : Int) = false) : wlen s k = 0 := by
  unfold wlen
  rw [drop_cons s k h, List.takeWhile_cons, if_neg (by show ¬ isPart (s[k].toNat : Int) = true; simp [hp])]
  rfl
theorem wlen_end (s : ByteArray) (k : Nat) (h : s.size ≤ k) : wlen s k = 0 := by
  unfold wlen
  rw [drop_end s k h]
  rfl
theorem wordEnd_any (s : ByteArray) (i : Nat) (w : World) (hs : s.size ≤ maxLen) (hi : i ≤ s.size) :
    Calls Tryz.prog 20 #[.string s, .int .i64 i] w fun e w' => e = .returned (.int .i64 ((i + wlen s i : Nat) : Int)) ∧ w' = w := by
  unfold maxLen at hs
  go_enter Tryz.func20, Tryz.ntmps20
  go_wp2
  go_loop [1] (fun v => ∃ k : Nat, k ≤ s.size ∧ v = .int .i64 k ∧ Hid (k + wlen s k = i + wlen s i)) (fun v => s.size - (intOf v).toNat)
  case atStart => exact ⟨i, hi, rfl, rfl⟩
  case round =>
    obtain ⟨k, hk, rfl, hw⟩ := hrel
    by_cases hlt : k < s.size
    · cases hp : isPart (s[k].toNat : Int)
      · have h0 := Lib.hid (wlen_no s k hlt hp)
        go_wp2_with (go_at_call 32; refine (part_any _ _).mono ?_; rintro e w' ⟨rfl, rfl⟩)
        go_ret
        exact ⟨ret_int (by have := hw.out; have := h0.out; omega), rfl⟩
      · have h0 := Lib.hid (wlen_yes s k hlt hp)
        go_wp2_with (go_at_call 32; refine (part_any _ _).mono ?_; rintro e w' ⟨rfl, rfl⟩)
        go_round
        case rel => exact ⟨k + 1, by omega, by go_num, by have := hw.out; have := h0.out; unfold Hid; omega⟩
        case measure => simp [intOf]; omega
    · have h0 := Lib.hid (wlen_end s k (by omega))
      go_wp2
      go_ret
      exact ⟨ret_int (by have := hw.out; have := h0.out; omega), rfl⟩
end Go.Proofs.YtipnhmdibkkifaaGreatDoor
set_option linter.unusedVariables false
set_option linter.unusedSimpArgs false
set_option linter.unusedSectionVars false
namespace Go.Proofs.YtipnhmdibkkifaaGreatDoor
open Go.RowKit
variable [Base]
structure But (bt : Nat) (w w' : World) : Prop where
  os : w'.os = w.os
  tape : w'.tape = w.tape
  output : w'.output = w.output
  size : w.heap.size ≤ w'.heap.size
  block : ∀ k, k < w.heap.size → k ≠ bt → w'.heap[k]? = w.heap[k]?
theorem But.refl (bt : Nat) (w : World) : But bt w w := ⟨rfl, rfl, rfl, Nat.le_refl _, fun _ _ _ => rfl⟩
theorem But.trans {bt : Nat} {a b c : World} (h : But bt a b) (k : But bt b c) : But bt a c :=
  ⟨k.os.trans h.os, k.tape.trans h.tape, k.output.trans h.output, Nat.le_trans h.size k.size,
    fun i hi hn => (k.block i (Nat.lt_of_lt_of_le hi h.size) hn).trans (h.block i hi hn)⟩
theorem But.drewN {bt : Nat} {a w : World} (h : But bt a w) (n : Nat) : But bt a (w.drewN n) := ⟨h.os, h.tape, h.output, h.size, h.block⟩
theorem But.alloc {bt : Nat} {a w : World} (h : But bt a w) (o : Obj) : But bt a (w.alloc o) :=
  h.trans ⟨rfl, rfl, rfl, by simp, fun k hk _ => Below.heap_alloc _ _ _ hk⟩
theorem But.setCell {bt : Nat} {a w : World} (h : But bt a w) (p : Addr) (hp : p.block = bt ∨ a.heap.size ≤ p.block) (u : Value) : But bt a (w.setCell p u) :=
  ⟨h.os, h.tape, h.output, by simpa using h.size, fun k hk hn => by
    rw [Below.heap_setCell _ _ _ _ (by omega)]; exact h.block k hk hn⟩
theorem But.below {bt : Nat} {a w w' : World} (h : But bt a w) (k : Below w.heap.size w w') : But bt a w' :=
  h.trans ⟨k.os, k.tape, k.output, k.size, fun i hi _ => k.block i hi⟩
theorem But.cell {bt : Nat} {w w' : World} (h : But bt w w') : ∀ b o, b < w.heap.size → b ≠ bt → w'.cell? ⟨b, o, none⟩ = w.cell? ⟨b, o, none⟩ :=
  fun b o hb hn => World.cell?_of_block (h.block b hb hn)
theorem But.toBelow {B bt : Nat} {w w' : World} (h : But bt w w') (hB : B ≤ bt) (hw : B ≤ w.heap.size) : Below B w w' :=
  ⟨h.os, h.tape, h.output, h.size, fun k hk => h.block k (by omega) (by omega)⟩
end Go.Proofs.YtipnhmdibkkifaaGreatDoor
set_option linter.unusedVariables false
set_option linter.unusedSimpArgs false
set_option linter.unusedSectionVars false
namespace Go.Proofs.YtipnhmdibkkifaaGreatDoor
open Go.RowKit
variable [Base]
abbrev sv (s : Str) : Value := .string ⟨s.toArray⟩
def StrsAt (w : World) (v : Value) (l : List Str) : Prop := SliceAt w 9 1 v (l.map sv)
def StmtCells (w : World) (cs : List Value) (s : PStmt) : Prop :=
  ∃ u t, cs = [.int .i64 s.op, sv s.dfn, u, t] ∧ StrsAt w u s.uses ∧ StrsAt w t s.targets
end Go.Proofs.YtipnhmdibkkifaaGreatDoor
set_option linter.unusedVariables false
set_option linter.unusedSimpArgs false
set_option linter.unusedSectionVars false
namespace Go.Proofs.YtipnhmdibkkifaaGreatDoor
open Go.RowKit
variable [Base]
theorem But.blk {bt b : Nat} {w w' : World} {o : Obj} (h : But bt w w') (hb : w.heap[b]? = some o) (hne : b ≠ bt) : w'.heap[b]? = some o := (h.block b (lt_heap hb) hne).trans hb
theorem Below.blk {b : Nat} {w w' : World} {o : Obj} (h : Below w.heap.size w w') (hb : w.heap[b]? = some o) : w'.heap[b]? = some o := (h.block b (lt_heap hb)).trans hb
theorem alloc_blk {b : Nat} {w : World} {o : Obj} (x : Obj) (hb : w.heap[b]? = some o) : (w.alloc x).heap[b]? = some o := (Below.heap_alloc w x b (lt_heap hb)).trans hb
theorem blk_cells {w : World} {b : Nat} {c : Array Value} {t : TypeId} (h : w.heap[b]? = some (.cells c t (0, 0))) : (∀ o, w.cell? ⟨b, o, none⟩ = c[o]?) ∧ ∀ o, w.frozen? ⟨b, o, none⟩ = false :=
  ⟨fun o => by simp [World.cell?, h], fun o => by simp [World.frozen?, h]⟩
theorem set4 {w : World} {b : Nat} {a0 a1 a2 a3 : Value} {t : TypeId} {fr : Nat × Nat} (h : w.heap[b]? = some (.cells #[a0, a1, a2, a3] t fr)) (x0 x1 x2 x3 : Value) :
    ((((w.setCell ⟨b, 0, none⟩ x0).setCell ⟨b, 1, none⟩ x1).setCell ⟨b, 2, none⟩ x2).setCell ⟨b, 3, none⟩ x3).heap[b]? = some (.cells #[x0, x1, x2, x3] t fr) := by
  simp [World.setCell, Array.getElem?_modify, h]
theorem SameT.but {T bt : Nat} {w w' : World} (h : But bt w w') (ht : tyAt w bt ≠ some T) (hbs : Base.b ≤ bt := by omega) : SameT T w w' := fun b c fr U hU e =>
  (h.block b (lt_heap e) (fun hb => by
    subst hb
    rcases hU with rfl | hU
    · exact ht (tyAt_of e)
    · omega)).trans e
end Go.Proofs.YtipnhmdibkkifaaGreatDoor
set_option linter.unusedVariables false
set_option linter.unusedSimpArgs false
set_option linter.unusedSectionVars false
namespace Go.Proofs.YtipnhmdibkkifaaGreatDoor
open Go.RowKit
variable [Base]
theorem wpList_pushH {P : Program} {ops : Array Oper} {rest : List Oper} {o : Oper} {a : Act} {Q : Exit → Act → World → Prop} {w : World} (news : List Value) (hgd : o.guard = none) (s x : Operand) (t : TypeId)
    (ho : o.op = .call { callee := .builtin .append, args := #[s, x], argTypes := #[t, t] })
    (base : Nat) (e : TypeId) (z : Value) (size bytes : Nat) (ht : P.underlying t = some (.slice e)) (hi : (P.info? e).map (fun i => (i.zero, i.size, i.bytes)) = some (some z, size, bytes))
    (hzs : z.cells.size = size) (hsz : 0 < size) (v : Value) (n : Nat) (xs : List Value) (hown : w.ownsRow base e size v n xs) (hs : a.eval s = v) (H : Nat)
    (hx : a.eval x = .slice (some ⟨H, 0, none⟩) 1 1) (hH : w.heap.size = H) (hl : news.length = size) (h1 : news.all Value.oneCell' = true)
    (h63 : n + 1 ≤ maxLen) (hbytes : (n + 1) * bytes ≤ 140737488355328) (hbase : base ≤ w.heap.size)
    (h : ∀ g cap w', w'.ownsRow base e size (.slice (some ⟨g, 0, none⟩) (n + 1) cap) (n + 1) (xs ++ news) → w.grownBy w' v.ownBlock → base ≤ g → g < w'.heap.size →
      wpList P ops Q rest (a.put o.dst (.slice (some ⟨g, 0, none⟩) (n + 1) cap)) w') :
    wpList P ops Q (o :: rest) a (w.alloc (.cells news.toArray e)) :=
  wpList_push news hgd s x t ho base e z size bytes ht hi hzs hsz v n xs hown hs (by rw [hH]; exact hx) hl h1 h63 hbytes hbase h
end Go.Proofs.YtipnhmdibkkifaaGreatDoor
set_option linter.unusedVariables false
set_option linter.unusedSimpArgs false
set_option linter.unusedSectionVars false
namespace Go.Proofs.YtipnhmdibkkifaaGreatDoor
def slots (a : Act) : Nat → Value := fun i => a.tmps.getD i undef
end Go.Proofs.YtipnhmdibkkifaaGreatDoor
set_option linter.unusedVariables false
set_option linter.unusedSimpArgs false
set_option linter.unusedSectionVars false
namespace Go.Proofs.YtipnhmdibkkifaaGreatDoor
open Go.RowKit
variable [Base]
theorem infoStmt : (Tryz.prog.info? 118).map (fun i => (i.zero, i.size, i.bytes)) = some (some (.agg #[.int .i64 0, .string ⟨#[]⟩, .slice none 0 0, .slice none 0 0]), 4, 72) := by kernel_rfl
theorem infoBlock : (Tryz.prog.info? 99).map (fun i => (i.zero, i.size, i.bytes)) = some (some (.agg #[.string ⟨#[]⟩, .slice none 0 0]), 2, 40) := by kernel_rfl
theorem infoFunc : (Tryz.prog.info? 74).map (fun i => (i.zero, i.size, i.bytes)) = some (some (.agg #[.string ⟨#[]⟩, .slice none 0 0]), 2, 40) := by kernel_rfl
def StmtsAt (w : World) (v : Value) (l : List PStmt) : Prop := ∃ xss, SliceAt w 118 4 v xss.flatten ∧ All2 (StmtCells w) xss l
def BlockCells (w : World) (cs : List Value) (b : PBlock) : Prop := ∃ v, cs = [sv b.name, v] ∧ StmtsAt w v b.stmts
def BlocksAt (w : World) (v : Value) (l : List PBlock) : Prop := ∃ xss, SliceAt w 99 2 v xss.flatten ∧ All2 (BlockCells w) xss l
def FuncCells (w : World) (cs : List Value) (f : PFunc) : Prop := ∃ v, cs = [sv f.name, v] ∧ BlocksAt w v f.blocks
def FuncsAt (w : World) (v : Value) (l : List PFunc) : Prop := ∃ xss, SliceAt w 74 2 v xss.flatten ∧ All2 (FuncCells w) xss l
theorem StmtCells.keep {w w' : World} (h9 : SameT 9 w w') {cs : List Value} {s : PStmt} (h : StmtCells w cs s) : StmtCells w' cs s := by
  obtain ⟨u, t, e, h1, h2⟩ := h
  exact ⟨u, t, e, h1.same h9, h2.same h9⟩
theorem StmtsAt.keep {w w' : World} (h9 : SameT 9 w w') (h64 : SameT 118 w w') {v : Value} {l : List PStmt} (h : StmtsAt w v l) : StmtsAt w' v l := by
  obtain ⟨xss, h1, h2⟩ := h
  exact ⟨xss, h1.same h64, h2.mono fun _ _ => StmtCells.keep h9⟩
theorem BlockCells.keep {w w' : World} (h9 : SameT 9 w w') (h64 : SameT 118 w w') {cs : List Value} {b : PBlock} (h : BlockCells w cs b) : BlockCells w' cs b := by
  obtain ⟨v, e, h1⟩ := h
  exact ⟨v, e, h1.keep h9 h64⟩
theorem BlocksAt.keep {w w' : World} (h9 : SameT 9 w w') (h64 : SameT 118 w w') (h62 : SameT 99 w w') {v : Value} {l : List PBlock} (h : BlocksAt w v l) : BlocksAt w' v l := by
  obtain ⟨xss, h1, h2⟩ := h
  exact ⟨xss, h1.same h62, h2.mono fun _ _ => BlockCells.keep h9 h64⟩
theorem FuncCells.keep {w w' : World} (h9 : SameT 9 w w') (h64 : SameT 118 w w') (h62 : SameT 99 w w') {cs : List Value} {f : PFunc} (h : FuncCells w cs f) : FuncCells w' cs f := by
  obtain ⟨v, e, h1⟩ := h
  exact ⟨v, e, h1.keep h9 h64 h62⟩
theorem FuncsAt.keep {w w' : World} (h9 : SameT 9 w w') (h64 : SameT 118 w w') (h62 : SameT 99 w w') (h59 : SameT 74 w w') {v : Value} {l : List PFunc} (h : FuncsAt w v l) : FuncsAt w' v l := by
  obtain ⟨xss, h1, h2⟩ := h
  exact ⟨xss, h1.same h59, h2.mono fun _ _ => FuncCells.keep h9 h64 h62⟩
theorem But.belowB {bt B : Nat} {a w w' : World} (h : But bt a w) (k : Below B w w') (hB : a.heap.size ≤ B) : But bt a w' :=
  ⟨k.os.trans h.os, k.tape.trans h.tape, k.output.trans h.output, Nat.le_trans h.size k.size, fun i hi hn => (k.block i (by omega)).trans (h.block i hi hn)⟩
theorem But.undrew {bt n : Nat} {w w' : World} (hb : But bt (w.drewN n) w') : But bt w w' := ⟨hb.os, hb.tape, hb.output, hb.size, hb.block⟩
theorem ownsRow_but {bt base sz n : Nat} {e : TypeId} {v : Value} {xs : List Value} {w w' : World} (h : w.ownsRow base e sz v n xs) (hb : But bt w w') (hlt : bt < base) : w'.ownsRow base e sz v n xs := by
  refine ⟨h.1, ?_⟩
  rcases h.2 with hn | ⟨g, cap, cur, rfl, hg, hh, rest⟩
  · exact .inl hn
  · exact .inr ⟨g, cap, cur, rfl, hg, hb.blk hh (by omega), rest⟩
end Go.Proofs.YtipnhmdibkkifaaGreatDoor
set_option linter.unusedVariables false
set_option linter.unusedSimpArgs false
set_option linter.unusedSectionVars false
namespace Go.Proofs.YtipnhmdibkkifaaGreatDoor
open Go.RowKit
variable [Base]
theorem StrsAt.cell {w : World} {v : Value} {l : List Str} (h : StrsAt w v l) : ∃ a c, v = .slice a l.length c ∧ l.length ≤ maxLen ∧ ∀ k s, l[k]? = some s → ∃ b off, a = some ⟨b, off, none⟩ ∧ b < w.heap.size ∧ w.cell? ⟨b, off + k, none⟩ = some (sv s) := by
  obtain ⟨a, n, c, rfl, h1, h2, h3, h4, h5⟩ := SliceAt.form h
  simp at h1
  subst h1
  refine ⟨a, c, rfl, h2, fun k s hk => ?_⟩
  obtain ⟨hk2, rfl⟩ := List.getElem?_eq_some_iff.1 hk
  obtain ⟨b, off, rfl, hb, ht, hc⟩ := h5 (by omega)
  refine ⟨b, off, rfl, hb, ?_⟩
  rw [hc _ (by simpa using hk2)]
  simp [hk2]
theorem all_drop' {α : Type} (l : List α) (k : Nat) (c : α) (h : l[k]? = some c) (p : α → Bool) : (l.drop k).all p = (p c && (l.drop (k + 1)).all p) := by
  obtain ⟨h1, rfl⟩ := List.getElem?_eq_some_iff.1 h
  rw [List.drop_eq_getElem_cons h1, List.all_cons]
def BoolPost (b : Bool) (w : World) (e : Ending) (w' : World) : Prop := e = .returned (.bool b) ∧ Below w.heap.size w w'
end Go.Proofs.YtipnhmdibkkifaaGreatDoor
set_option linter.unusedVariables false
set_option linter.unusedSimpArgs false
set_option linter.unusedSectionVars false
namespace Go.Proofs.YtipnhmdibkkifaaGreatDoor
open Go.RowKit
variable [Base]
theorem All2.each {α β : Type} {R : α → β → Prop} {p : α → Prop} (hp : ∀ a b, R a b → p a) : ∀ {xs : List α} {ys : List β}, All2 R xs ys → ∀ x ∈ xs, p x
  | [], [], _ => by simp
  | a :: xs, b :: ys, ⟨h1, h2⟩ => by
    intro x hx
    rcases List.mem_cons.1 hx with rfl | hx
    · exact hp _ _ h1
    · exact All2.each hp h2 x hx
theorem All2.sat {α β : Type} {R : α → β → Prop} {xs : List α} {ys : List β} (h : All2 R xs ys) {k : Nat} {b : β} (hb : ys[k]? = some b) : ∃ a, xs[k]? = some a ∧ R a b := by
  obtain ⟨h1, rfl⟩ := List.getElem?_eq_some_iff.1 hb
  have h2 : k < xs.length := by rw [h.length]; exact h1
  exact ⟨xs[k], by simp [h2], h.get k h2 h1⟩
theorem rows_cell {w : World} {T : TypeId} {sz : Nat} {v : Value} {xss : List (List Value)} (h : SliceAt w T sz v xss.flatten) (hl : ∀ x ∈ xss, x.length = sz) (hs : 0 < sz) :
    ∃ a c, v = .slice a xss.length c ∧ xss.length ≤ maxLen ∧ ∀ k x, xss[k]? = some x → ∃ b off, a = some ⟨b, off, none⟩ ∧ b < w.heap.size ∧ ∀ j, j < sz → w.cell? ⟨b, off + k * sz + j, none⟩ = x[j]? := by
  obtain ⟨a, n, c, rfl, h1, h2, h3, h4, h5⟩ := SliceAt.form h
  rw [flatten_len sz xss hl] at h1
  have hn : n = xss.length := (Nat.eq_of_mul_eq_mul_right hs h1).symm
  subst hn
  refine ⟨a, c, rfl, h2, fun k x hk => ?_⟩
  obtain ⟨hk2, rfl⟩ := List.getElem?_eq_some_iff.1 hk
  obtain ⟨b, off, rfl, hb, ht, hc⟩ := h5 (by omega)
  refine ⟨b, off, rfl, hb, fun j hj => ?_⟩
  have hlt : k * sz + j < xss.flatten.length := by
    rw [flatten_len sz xss hl]
    have : (k + 1) * sz ≤ xss.length * sz := Nat.mul_le_mul_right sz hk2
    rw [Nat.succ_mul] at this
    omega
  rw [Nat.add_assoc, hc _ hlt, flatten_get sz xss hl k j hk2 hj]
theorem FuncsAt.cell {w : World} {v : Value} {l : List PFunc} (h : FuncsAt w v l) : ∃ a c, v = .slice a l.length c ∧ l.length ≤ maxLen ∧ ∀ k f, l[k]? = some f → ∃ b off bv, a = some ⟨b, off, none⟩ ∧ b < w.heap.size ∧
    w.cell? ⟨b, off + k * 2, none⟩ = some (sv f.name) ∧ w.cell? ⟨b, off + k * 2 + 1, none⟩ = some bv ∧ BlocksAt w bv f.blocks := by
  obtain ⟨xss, h1, h2⟩ := h
  obtain ⟨a, c, e, hm, hc⟩ := rows_cell h1 (h2.each fun x f ⟨v, e, _⟩ => by rw [e]; rfl) (by omega)
  rw [h2.length] at e hm
  refine ⟨a, c, e, hm, fun k f hk => ?_⟩
  obtain ⟨x, hx, bv, rfl, hb⟩ := h2.sat hk
  obtain ⟨b, off, rfl, hlt, hc2⟩ := hc k _ hx
  exact ⟨b, off, bv, rfl, hlt, hc2 0 (by omega), hc2 1 (by omega), hb⟩
theorem BlocksAt.cell {w : World} {v : Value} {l : List PBlock} (h : BlocksAt w v l) : ∃ a c, v = .slice a l.length c ∧ l.length ≤ maxLen ∧ ∀ k f, l[k]? = some f → ∃ b off bv, a = some ⟨b, off, none⟩ ∧ b < w.heap.size ∧
    w.cell? ⟨b, off + k * 2, none⟩ = some (sv f.name) ∧ w.cell? ⟨b, off + k * 2 + 1, none⟩ = some bv ∧ StmtsAt w bv f.stmts := by
  obtain ⟨xss, h1, h2⟩ := h
  obtain ⟨a, c, e, hm, hc⟩ := rows_cell h1 (h2.each fun x f ⟨v, e, _⟩ => by rw [e]; rfl) (by omega)
  rw [h2.length] at e hm
  refine ⟨a, c, e, hm, fun k f hk => ?_⟩
  obtain ⟨x, hx, bv, rfl, hb⟩ := h2.sat hk
  obtain ⟨b, off, rfl, hlt, hc2⟩ := hc k _ hx
  exact ⟨b, off, bv, rfl, hlt, hc2 0 (by omega), hc2 1 (by omega), hb⟩
theorem StmtsAt.cell {w : World} {v : Value} {l : List PStmt} (h : StmtsAt w v l) : ∃ a c, v = .slice a l.length c ∧ l.length ≤ maxLen ∧ ∀ k s, l[k]? = some s → ∃ b off u t, a = some ⟨b, off, none⟩ ∧ b < w.heap.size ∧
    w.cell? ⟨b, off + k * 4, none⟩ = some (.int .i64 s.op) ∧ w.cell? ⟨b, off + k * 4 + 1, none⟩ = some (sv s.dfn) ∧ w.cell? ⟨b, off + k * 4 + 2, none⟩ = some u ∧ w.cell? ⟨b, off + k * 4 + 3, none⟩ = some t ∧ StrsAt w u s.uses ∧ StrsAt w t s.targets := by
  obtain ⟨xss, h1, h2⟩ := h
  obtain ⟨a, c, e, hm, hc⟩ := rows_cell h1 (h2.each fun x f ⟨u, t, e, _⟩ => by rw [e]; rfl) (by omega)
  rw [h2.length] at e hm
  refine ⟨a, c, e, hm, fun k f hk => ?_⟩
  obtain ⟨x, hx, u, t, rfl, hu, ht⟩ := h2.sat hk
  obtain ⟨b, off, rfl, hlt, hc2⟩ := hc k _ hx
  exact ⟨b, off, u, t, rfl, hlt, hc2 0 (by omega), hc2 1 (by omega), hc2 2 (by omega), hc2 3 (by omega), hu, ht⟩
end Go.Proofs.YtipnhmdibkkifaaGreatDoor
