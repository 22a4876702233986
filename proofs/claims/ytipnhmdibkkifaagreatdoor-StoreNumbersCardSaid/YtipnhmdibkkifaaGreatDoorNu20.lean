/- A part of the proof. -/
import Derived.Test.YtipnhmdibkkifaaGreatDoorNu01
import Derived.Test.YtipnhmdibkkifaaGreatDoorNu00
import Derived.Test.YtipnhmdibkkifaaGreatDoorRows
import Derived.WalkKit
import Derived.Lib.Hide
set_option linter.unusedVariables false
set_option linter.unusedSimpArgs false
set_option linter.unusedVariables false
set_option linter.unusedSimpArgs false
set_option linter.unusedSectionVars false
namespace Go.Proofs.YtipnhmdibkkifaaGreatDoor
theorem nameB_short {l : Str} (h : nameB l = true) : l.length ≤ 16 := by
  unfold nameB at h
  simp only [Bool.and_eq_true, decide_eq_true_eq] at h
  omega
theorem wordsT_bound (m : Nat) : ∀ (l : List Str), (∀ x ∈ l, x.length ≤ m) → (wordsT l).length ≤ l.length * (m + 1)
  | [], _ => by simp [wordsT]
  | x :: l, h => by
    have h1 := wordsT_bound m l fun y hy => h y (List.mem_cons_of_mem _ hy)
    have h2 := h x List.mem_cons_self
    have e : wordsT (x :: l) = (32 :: x) ++ wordsT l := rfl
    rw [e, List.length_append, List.length_cons, List.length_cons, Nat.succ_mul]
    omega
theorem namesB_bound {l : List Str} {a b : Int} {m : Nat} (h : namesB l a b = true) (hb : b = m) : (wordsT l).length ≤ m * 17 := by
  unfold namesB at h
  simp only [Bool.and_eq_true, decide_eq_true_eq, List.all_eq_true] at h
  have h1 := wordsT_bound 16 l fun x hx => nameB_short (h.1 x hx)
  have h2 : l.length ≤ m := by omega
  have := Nat.mul_le_mul_right 17 h2
  omega
theorem opB_def {op : Int} {d e : Bool} {u t : Nat} (h : opB op d e u t = true) : d = true ∨ e = true := by
  cases d
  · cases e
    · unfold opB at h
      simp at h
    · exact .inr rfl
  · exact .inl rfl
theorem stmtB_bound {s : PStmt} (h : stmtB s = true) : s.dfn.length ≤ 16 ∧ (wordsT s.uses).length ≤ 68 ∧ (wordsT s.targets).length ≤ 34 := by
  unfold stmtB at h
  simp only [Bool.and_eq_true] at h
  refine ⟨?_, namesB_bound (m := 4) h.1 rfl, namesB_bound (m := 2) h.2.1 rfl⟩
  rcases opB_def h.2.2 with h1 | h1
  · exact nameB_short h1
  · rw [List.isEmpty_iff.1 h1]; simp
theorem lineT_bound {s : PStmt} (h : stmtB s = true) : (lineT s).length ≤ 200 := by
  obtain ⟨h1, h2, h3⟩ := stmtB_bound h
  unfold lineT
  repeat' split
  all_goals
    simp only [List.length_append, List.length_cons, List.length_nil]
    omega
theorem flat_len {α β : Type} (g : α → List β) (m : Nat) : ∀ (l : List α), (∀ x ∈ l, (g x).length ≤ m) → ((l.map g).flatten).length ≤ l.length * m
  | [], _ => by simp
  | x :: l, h => by
    have h1 := flat_len g m l fun y hy => h y (List.mem_cons_of_mem _ hy)
    have h2 := h x List.mem_cons_self
    rw [List.map_cons, List.flatten_cons, List.length_append, List.length_cons, Nat.succ_mul]
    omega
theorem blockB_parts {b : PBlock} (h : blockB b = true) : nameB b.name = true ∧ 1 ≤ b.stmts.length ∧ b.stmts.length ≤ 32 ∧ ∀ s ∈ b.stmts, stmtB s = true := by
  unfold blockB at h
  simp only [Bool.and_eq_true, decide_eq_true_eq, List.all_eq_true] at h
  exact ⟨h.1, h.2.1, h.2.2.1, h.2.2.2⟩
theorem funcB_parts {f : PFunc} (h : funcB f = true) : nameB f.name = true ∧ 1 ≤ f.blocks.length ∧ f.blocks.length ≤ 16 ∧ ∀ b ∈ f.blocks, blockB b = true := by
  unfold funcB at h
  simp only [Bool.and_eq_true, decide_eq_true_eq, List.all_eq_true] at h
  exact ⟨h.1, h.2.1, h.2.2.1, h.2.2.2⟩
theorem validB_parts {p : List PFunc} (h : validB p = true) : 1 ≤ p.length ∧ p.length ≤ 8 ∧ ∀ f ∈ p, funcB f = true := by
  unfold validB at h
  simp only [Bool.and_eq_true, decide_eq_true_eq, List.all_eq_true] at h
  exact ⟨h.1, h.2.1, h.2.2⟩
theorem blockLines_len {b : PBlock} (h : blockB b = true) : (blockLines b).length ≤ 33 := by
  have := (blockB_parts h).2.2.1
  simp [blockLines]
  omega
theorem funcLines_len {f : PFunc} (h : funcB f = true) : (funcLines f).length ≤ 530 := by
  obtain ⟨_, _, h3, h4⟩ := funcB_parts h
  have h5 := flat_len blockLines 33 f.blocks fun b hb => blockLines_len (h4 b hb)
  have := Nat.mul_le_mul_right 33 h3
  simp only [funcLines, List.length_cons, List.length_append, List.length_nil]
  omega
theorem linesT_len {p : List PFunc} (h : validB p = true) : (linesT p).length ≤ 4240 := by
  obtain ⟨_, h3, h4⟩ := validB_parts h
  have h5 := flat_len funcLines 530 p fun f hf => funcLines_len (h4 f hf)
  have := Nat.mul_le_mul_right 530 h3
  unfold linesT
  omega
theorem linesT_each {p : List PFunc} (h : validB p = true) : ∀ x ∈ linesT p, x.length ≤ 200 := by
  obtain ⟨_, _, h4⟩ := validB_parts h
  intro x hx
  unfold linesT at hx
  obtain ⟨y, hy, hx⟩ := List.mem_flatten.1 hx
  obtain ⟨f, hf, rfl⟩ := List.mem_map.1 hy
  obtain ⟨h5, _, _, h6⟩ := funcB_parts (h4 f hf)
  rcases List.mem_cons.1 hx with rfl | hx
  · have := nameB_short h5
    simp
    omega
  rcases List.mem_append.1 hx with hx | hx
  · obtain ⟨y, hy, hx⟩ := List.mem_flatten.1 hx
    obtain ⟨b, hb, rfl⟩ := List.mem_map.1 hy
    obtain ⟨h7, _, _, h8⟩ := blockB_parts (h6 b hb)
    rcases List.mem_cons.1 hx with rfl | hx
    · have := nameB_short h7
      simp
      omega
    · obtain ⟨s, hs, rfl⟩ := List.mem_map.1 hx
      exact lineT_bound (h8 s hs)
  · simp at hx
    rw [hx]; simp
end Go.Proofs.YtipnhmdibkkifaaGreatDoor
set_option linter.unusedVariables false
set_option linter.unusedSimpArgs false
set_option linter.unusedSectionVars false
namespace Go.Proofs.YtipnhmdibkkifaaGreatDoor
abbrev KT := Int × Str
end Go.Proofs.YtipnhmdibkkifaaGreatDoor
set_option linter.unusedVariables false
set_option linter.unusedSimpArgs false
set_option linter.unusedSectionVars false
namespace Go.Proofs.YtipnhmdibkkifaaGreatDoor
def word (x : Str) : KT := (1, x)
def joinL : List KT → Str
  | [] => []
  | t :: ws => t.2 ++ (ws.map fun t : KT => 32 :: t.2).flatten
def stmtL (s : PStmt) : List KT :=
  if s.op = 1 then word s.dfn :: (2, [61]) :: s.uses.map word
  else if s.op = 2 then word [117, 115, 101] :: s.uses.map word
  else if s.op = 3 then word [99, 97, 108, 108] :: s.targets.map word
  else if s.op = 4 then [word [115, 111, 117, 114, 99, 101], word s.dfn]
  else if s.op = 5 then word [115, 105, 110, 107] :: s.uses.map word
  else if s.op = 6 then [word [115, 97, 110, 105, 116, 105, 122, 101], word s.dfn]
  else if s.op = 7 then word [103, 111, 116, 111] :: s.targets.map word
  else if s.op = 8 then word [98, 114, 97, 110, 99, 104] :: (s.uses.map word ++ s.targets.map word)
  else [word [114, 101, 116, 117, 114, 110]]
theorem words_eq (l : List Str) : wordsT l = ((l.map word).map fun t : KT => 32 :: t.2).flatten := by
  unfold wordsT
  rw [List.map_map]
  rfl
theorem stmtL_join (s : PStmt) : lineT s = joinL (stmtL s) := by
  unfold lineT stmtL
  split
  · simp [joinL, word, words_eq]
  split
  · simp [joinL, word, words_eq]
  split
  · simp [joinL, word, words_eq]
  split
  · simp [joinL, word]
  split
  · simp [joinL, word, words_eq]
  split
  · simp [joinL, word]
  split
  · simp [joinL, word, words_eq]
  split
  · simp [joinL, word, words_eq]
  · simp [joinL, word]
theorem stmtB_fields {s : PStmt} (h : stmtB s = true) : (∀ x ∈ s.uses, nameB x = true) ∧ (∀ x ∈ s.targets, nameB x = true) ∧ opB s.op (nameB s.dfn) s.dfn.isEmpty s.uses.length s.targets.length = true := by
  unfold stmtB namesB at h
  simp only [Bool.and_eq_true, List.all_eq_true] at h
  exact ⟨h.1.1, h.2.1.1, h.2.2⟩
end Go.Proofs.YtipnhmdibkkifaaGreatDoor
set_option linter.unusedVariables false
set_option linter.unusedSimpArgs false
set_option linter.unusedSectionVars false
namespace Go.Proofs.YtipnhmdibkkifaaGreatDoor
structure PS where
  at_ : Nat
  err : Int
def PS.fail (s : PS) (e : Int) : PS := if s.err = 0 then ⟨s.at_, e⟩ else s
def PS.next (T : List Tok) (s : PS) : Tok := if s.err = 0 then (T[s.at_]?).getD ⟨0, [], 0, 0⟩ else ⟨0, [], 0, 0⟩
def PS.step (s : PS) : PS := ⟨s.at_ + 1, s.err⟩
def isW (T : List Tok) (w : Str) (s : PS) : Bool := (s.next T).kind == 1 && (s.next T).text == w
def isN (T : List Tok) (s : PS) : Bool := (s.next T).kind == 1 && nameB (s.next T).text
def isK (T : List Tok) (k : Int) (s : PS) : Bool := (s.next T).kind == k
def takeM (ok : Bool) (s : PS) : PS := if ok then s.step else s.fail 4
def textM (T : List Tok) (ok : Bool) (s : PS) : Str := if ok then (s.next T).text else []
def nameM (T : List Tok) (s : PS) : PS := takeM (isN T s) s
def nameV (T : List Tok) (s : PS) : Str := textM T (isN T s) s
def endM (T : List Tok) (s : PS) : PS := takeM (isK T 3 s) s
def namesM (T : List Tok) : Nat → List Str → PS → List Str × PS
  | 0, acc, s => (acc, if isN T s then s.fail 7 else s)
  | m + 1, acc, s => if isN T s then namesM T m (acc ++ [nameV T s]) s.step else (acc, s)
def opOf (x : Str) : Int :=
  if x = [117, 115, 101] then 2 else if x = [99, 97, 108, 108] then 3 else if x = [115, 111, 117, 114, 99, 101] then 4 else if x = [115, 105, 110, 107] then 5
  else if x = [115, 97, 110, 105, 116, 105, 122, 101] then 6 else if x = [103, 111, 116, 111] then 7 else if x = [98, 114, 97, 110, 99, 104] then 8 else if x = [114, 101, 116, 117, 114, 110] then 9 else 0
def startsB (T : List Tok) (s : PS) : Bool := isN T s || ((s.next T).kind == 1 && opOf (s.next T).text != 0)
def stmtM (T : List Tok) (s : PS) : PStmt × PS :=
  if isN T s then
    let s1 := s.step
    let s2 := takeM (isK T 2 s1) s1
    let r := namesM T 4 [] s2
    (⟨1, nameV T s, r.1, []⟩, endM T r.2)
  else
    let op := opOf (s.next T).text
    let s1 := s.step
    if op = 2 then
      let r := if isN T s1 then namesM T 3 [nameV T s1] s1.step else ([], s1.fail 4)
      (⟨2, [], r.1, []⟩, endM T r.2)
    else if op = 3 ∨ op = 7 then (⟨op, [], [], [nameV T s1]⟩, endM T (nameM T s1))
    else if op = 4 ∨ op = 6 then (⟨op, nameV T s1, [], []⟩, endM T (nameM T s1))
    else if op = 5 then (⟨5, [], [nameV T s1], []⟩, endM T (nameM T s1))
    else if op = 8 then
      let s2 := nameM T s1
      let s3 := nameM T s2
      (⟨8, [], [nameV T s1], [nameV T s2, nameV T s3]⟩, endM T (nameM T s3))
    else (⟨op, [], [], []⟩, endM T s1)
def stmtsM (T : List Tok) : Nat → List PStmt → PS → List PStmt × PS
  | 0, acc, s => (acc, if startsB T s then s.fail 7 else s)
  | m + 1, acc, s => if startsB T s then stmtsM T m (acc ++ [(stmtM T s).1]) (stmtM T s).2 else (acc, s)
def headM (T : List Tok) (w : Str) (s : PS) : PS := endM T (nameM T (takeM (isW T w s) s))
def headV (T : List Tok) (w : Str) (s : PS) : Str := nameV T (takeM (isW T w s) s)
def kBlock : Str := [98, 108, 111, 99, 107]
def kFunc : Str := [102, 117, 110, 99]
def kEnd : Str := [101, 110, 100]
def blockM (T : List Tok) (s : PS) : PBlock × PS :=
  let s1 := headM T kBlock s
  let r := stmtsM T 32 [] (if startsB T s1 then s1 else s1.fail 4)
  (⟨headV T kBlock s, r.1⟩, r.2)
def blocksM (T : List Tok) : Nat → List PBlock → PS → List PBlock × PS
  | 0, acc, s => (acc, if isW T kBlock s then s.fail 7 else s)
  | m + 1, acc, s => if isW T kBlock s then blocksM T m (acc ++ [(blockM T s).1]) (blockM T s).2 else (acc, s)
def funcM (T : List Tok) (s : PS) : PFunc × PS :=
  let s1 := headM T kFunc s
  let r := blocksM T 16 [] (if isW T kBlock s1 then s1 else s1.fail 4)
  (⟨headV T kFunc s, r.1⟩, endM T (takeM (isW T kEnd r.2) r.2))
def funcsM (T : List Tok) : Nat → List PFunc → PS → List PFunc × PS
  | 0, acc, s => (acc, if isW T kFunc s then s.fail 7 else s)
  | m + 1, acc, s => if isW T kFunc s then funcsM T m (acc ++ [(funcM T s).1]) (funcM T s).2 else (acc, s)
def progM (T : List Tok) : List PFunc × PS :=
  let s0 : PS := ⟨0, 0⟩
  let r := funcsM T 8 [] (if isW T kFunc s0 then s0 else s0.fail 4)
  (r.1, if r.2.err = 0 ∧ r.2.at_ < T.length then r.2.fail 4 else r.2)
structure Parsed where
  funcs : List PFunc
  line : Int
  col : Int
  err : Int
def parsed (l : List UInt8) : Parsed :=
  let S := scanned l
  if S.err ≠ 0 then ⟨[], S.line, S.col, S.err⟩ else
  let r := progM S.toks
  if r.2.err = 0 then ⟨r.1, 0, 0, 0⟩ else
  match S.toks[r.2.at_]? with
  | some t => ⟨[], t.line, t.col, r.2.err⟩
  | none => ⟨[], 0, 0, r.2.err⟩
section
variable {T : List Tok} {s : PS}
theorem next_err (h : s.err ≠ 0) : s.next T = ⟨0, [], 0, 0⟩ := by unfold PS.next; rw [if_neg h]
theorem isN_err (h : s.err ≠ 0) : isN T s = false := by unfold isN; rw [next_err h]; rfl
theorem isW_err (h : s.err ≠ 0) (w : Str) : isW T w s = false := by unfold isW; rw [next_err h]; rfl
theorem isK_err (h : s.err ≠ 0) {k : Int} (hk : k ≠ 0) : isK T k s = false := by unfold isK; rw [next_err h]; simp; omega
theorem starts_err (h : s.err ≠ 0) : startsB T s = false := by unfold startsB; rw [isN_err h, next_err h]; rfl
theorem fail_err (h : s.err ≠ 0) (e : Int) : s.fail e = s := by unfold PS.fail; rw [if_neg h]
theorem take_err (h : s.err ≠ 0) : takeM false s = s := by unfold takeM; simp [fail_err h]
theorem next_in (h : (s.next T).kind ≠ 0) : s.err = 0 ∧ ∃ t, T[s.at_]? = some t ∧ s.next T = t := by
  unfold PS.next at h ⊢
  split at h
  · rename_i h0
    refine ⟨h0, ?_⟩
    rw [if_pos h0]
    cases hT : T[s.at_]? with
    | none => rw [hT] at h; exact absurd rfl h
    | some t => exact ⟨t, rfl, rfl⟩
  · exact absurd rfl h
theorem isN_in (h : isN T s = true) : s.err = 0 ∧ ∃ t, T[s.at_]? = some t ∧ t.kind = 1 ∧ nameB t.text = true ∧ nameV T s = t.text := by
  have h2 := h
  unfold isN at h
  simp only [Bool.and_eq_true, beq_iff_eq] at h
  obtain ⟨h0, t, ht, e⟩ := next_in (T := T) (s := s) (by rw [h.1]; decide)
  rw [e] at h
  exact ⟨h0, t, ht, h.1, h.2, by unfold nameV textM; rw [h2, e]; rfl⟩
end
end Go.Proofs.YtipnhmdibkkifaaGreatDoor
set_option linter.unusedVariables false
set_option linter.unusedSimpArgs false
set_option linter.unusedSectionVars false
namespace Go.Proofs.YtipnhmdibkkifaaGreatDoor
section
variable {T : List Tok} {i : Nat} {t : KT} {l : List KT}
end
theorem isEmpty_nil {x : Str} (h : x.isEmpty = true) : x = [] := List.isEmpty_iff.1 h
end Go.Proofs.YtipnhmdibkkifaaGreatDoor
set_option linter.unusedVariables false
set_option linter.unusedSimpArgs false
set_option linter.unusedSectionVars false
namespace Go.Proofs.YtipnhmdibkkifaaGreatDoor
open Go.RowKit
variable [Base]
def tokCells (t : Tok) : List Value := [.int .i64 t.kind, .string ⟨t.text.toArray⟩, .int .i64 t.line, .int .i64 t.col]
def TokensAt (w : World) (v : Value) (l : List Tok) : Prop := SliceAt w 78 4 v (l.map tokCells).flatten
theorem tok_cell (l : List Tok) (k j : Nat) (hk : k < l.length) (hj : j < 4) : (l.map tokCells).flatten[k * 4 + j]? = (tokCells l[k])[j]? := by
  have h := flatten_get 4 (l.map tokCells) (by intro x hx; obtain ⟨t, _, rfl⟩ := List.mem_map.1 hx; rfl) k j (by simpa using hk) hj
  rw [h]; simp
theorem toks_len (l : List Tok) : (l.map tokCells).flatten.length = l.length * 4 := by
  rw [flatten_len 4 _ (by intro x hx; obtain ⟨t, _, rfl⟩ := List.mem_map.1 hx; rfl)]; simp
theorem HeapLike.ty {w : World} {b : Nat} {c : Array Value} {T : TypeId} {fr : Nat × Nat} (h : HeapLike w b c T fr) : ∀ U, tyAt w b = some U → U = T := by
  obtain ⟨V, hV, h⟩ := h
  intro U hU
  unfold tyAt at hU
  rw [h] at hU
  simp only at hU
  split at hU
  · cases hU
  · injection hU with hU
    rcases hV with hV | hV
    · exact hU.symm.trans hV
    · omega
theorem TokensAt.form {w : World} {v : Value} {l : List Tok} (h : TokensAt w v l) :
    ∃ a c, v = .slice a l.length c ∧ l.length ≤ maxLen ∧ l.length ≤ c ∧ c ≤ maxLen ∧ ∀ k t, l[k]? = some t → ∃ b off, a = some ⟨b, off, none⟩ ∧ b < w.heap.size ∧ (∀ U, tyAt w b = some U → U = 78) ∧
      ∀ j, j < 4 → w.cell? ⟨b, off + k * 4 + j, none⟩ = (tokCells t)[j]? := by
  obtain ⟨n, cap, h1, h2, h3, h4⟩ := h
  rw [toks_len] at h1
  obtain rfl : n = l.length := by omega
  rcases h4 with ⟨⟨a, rfl⟩, h0⟩ | ⟨b, off, cs, fr, rfl, e2, e3⟩
  · refine ⟨a, 0, by rw [h0], by omega, by omega, by omega, fun k t hk => ?_⟩
    have := (List.getElem?_eq_some_iff.1 hk).1
    omega
  · refine ⟨_, cap, rfl, by omega, h2, h3, fun k t hk => ?_⟩
    obtain ⟨hk2, rfl⟩ := List.getElem?_eq_some_iff.1 hk
    refine ⟨b, off, rfl, e2.lt, e2.ty, fun j hj => ?_⟩
    rw [e2.cell, Nat.add_assoc, e3 _ (by rw [toks_len]; omega), tok_cell l k j hk2 hj]
end Go.Proofs.YtipnhmdibkkifaaGreatDoor
