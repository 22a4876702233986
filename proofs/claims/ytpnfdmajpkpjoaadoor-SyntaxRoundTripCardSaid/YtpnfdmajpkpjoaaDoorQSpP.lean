/- Spaces, comments and empty lines do not change the tokens, apart from positions: plain Lean, no program in sight. -/
import Derived.Test.YtpnfdmajpkpjoaaDoorQLexP
import Derived.Test.YtpnfdmajpkpjoaaDoorQGenV
set_option linter.unusedVariables false
set_option linter.unusedSimpArgs false
namespace Go.Proofs.YtpnfdmajpkpjoaaDoor

/-- A token without its position. -/
abbrev KT := Int × Str
def strip1 (t : Tok) : KT := (t.kind, t.text)
def blank (ws : Str) : Prop := ∀ c ∈ ws, c.toNat = 32 ∨ c.toNat = 9
/-- What may end a line. -/
def seps : List Str := [[10], [59], [32, 35, 32, 99, 111, 109, 109, 101, 110, 116, 32, 59, 32, 120, 32, 61, 32, 121, 10], [59, 59, 10, 10], [10, 59, 35, 10]]
def goodW (x : Str) : Prop := ∃ c r, x = c :: r ∧ x.all partB = true ∧ isDig (c.toNat : Int) = false ∧ x.length ≤ 16
def goodT (k : Int) (x : Str) : Prop := (k = 1 ∧ goodW x) ∨ (k = 2 ∧ x = [61])
/-- s is a text of the tokens l, where a line is open or not. -/
def Rend : Bool → List KT → Str → Prop
  | op, [], s => op = false ∧ s = []
  | op, (k, x) :: l, s => (k = 3 ∧ x = [] ∧ op = true ∧ ∃ ws sep r, blank ws ∧ sep ∈ seps ∧ s = ws ++ (sep ++ r) ∧ Rend false l r) ∨
    (goodT k x ∧ ∃ ws r, blank ws ∧ (op = true → ws ≠ []) ∧ s = ws ++ (x ++ r) ∧ Rend true l r)

def headOk (s : Str) : Prop := s = [] ∨ ∃ c r, s = c :: r ∧ partB c = false
theorem blank_head {ws r : Str} (h : blank ws) (hne : ws ≠ []) : headOk (ws ++ r) := by
  cases ws with
  | nil => exact absurd rfl hne
  | cons c t =>
    refine .inr ⟨c, t ++ r, rfl, ?_⟩
    cases hp : partB c
    · rfl
    · have h1 := part_other hp
      have h2 := h c List.mem_cons_self
      omega
theorem seps_head : ∀ sep ∈ seps, ∃ c r, sep = c :: r ∧ partB c = false := by
  intro sep h
  simp only [seps, List.mem_cons, List.not_mem_nil, or_false] at h
  rcases h with rfl | rfl | rfl | rfl | rfl <;> exact ⟨_, _, rfl, by decide⟩
theorem Rend.head {l : List KT} {s : Str} (h : Rend true l s) : headOk s := by
  cases l with
  | nil => exact .inl h.2
  | cons t l =>
    obtain ⟨k, x⟩ := t
    rcases h with ⟨_, _, _, ws, sep, r, h1, h2, rfl, _⟩ | ⟨_, ws, r, h1, h2, rfl, _⟩
    · cases ws with
      | nil =>
        obtain ⟨c, t, rfl, hp⟩ := seps_head sep h2
        exact .inr ⟨c, t ++ r, rfl, hp⟩
      | cons c t => exact blank_head h1 (by simp)
    · exact blank_head h1 (h2 rfl)

theorem lex_blank (ws : Str) : ∀ (r : Str) (line col : Int) (op : Bool) (acc : List Tok), blank ws → ∃ col', lex (ws ++ r) line col op acc = lex r line col' op acc := by
  induction ws with
  | nil => intro r line col op acc _; exact ⟨col, rfl⟩
  | cons c t ih =>
    intro r line col op acc h
    obtain ⟨col', e⟩ := ih r line (col + 1) op acc fun x hx => h x (List.mem_cons_of_mem _ hx)
    exact ⟨col', (lex_space (h c List.mem_cons_self)).trans e⟩
theorem take_part (x s : Str) (hx : x.all partB = true) (hs : headOk s) : (x ++ s).takeWhile partB = x ∧ (x ++ s).dropWhile partB = s := by
  induction x with
  | nil =>
    rcases hs with rfl | ⟨c, r, rfl, hp⟩
    · exact ⟨rfl, rfl⟩
    · simp [List.takeWhile_cons, List.dropWhile_cons, hp]
  | cons c t ih =>
    simp only [List.all_cons, Bool.and_eq_true] at hx
    obtain ⟨h1, h2⟩ := ih hx.2
    simp [hx.1, h1, h2]

theorem lex_comment (x r : Str) (hx : ∀ c ∈ x, (c.toNat != 10) = true) (line col : Int) (op : Bool) (acc : List Tok) : ∃ col', lex (35 :: (x ++ 10 :: r)) line col op acc = lex (10 :: r) line col' false (fin op line col acc) := by
  have h := lex_hash (c := 35) (r := x ++ 10 :: r) (line := line) (col := col) (op := op) (acc := acc) rfl
  have e : ∀ y : Str, (∀ c ∈ y, (c.toNat != 10) = true) → (y ++ 10 :: r).dropWhile (fun b => b.toNat != 10) = 10 :: r := by
    intro y
    induction y with
    | nil => intro _; rfl
    | cons c t ih =>
      intro hy
      have := hy c List.mem_cons_self
      rw [List.cons_append, List.dropWhile_cons, if_pos this]
      exact ih fun z hz => hy z (List.mem_cons_of_mem _ hz)
  rw [e x hx] at h
  exact ⟨_, h⟩
theorem lex_sep (sep : Str) (h : sep ∈ seps) (r : Str) (line col : Int) (acc : List Tok) : ∃ line' col' p q, lex (sep ++ r) line col true acc = lex r line' col' false (acc ++ [⟨3, [], p, q⟩]) := by
  have c10 : (10 : UInt8).toNat = 10 := rfl
  have c59 : (59 : UInt8).toNat = 59 := rfl
  have c32 : (32 : UInt8).toNat = 32 := rfl
  simp only [seps, List.mem_cons, List.not_mem_nil, or_false] at h
  rcases h with rfl | rfl | rfl | rfl | rfl
  · exact ⟨_, _, _, _, lex_line c10⟩
  · exact ⟨_, _, _, _, lex_semi c59⟩
  · obtain ⟨col', e2⟩ := lex_comment [32, 99, 111, 109, 109, 101, 110, 116, 32, 59, 32, 120, 32, 61, 32, 121] r (by decide) line (col + 1) true acc
    exact ⟨_, _, _, _, (lex_space (c := 32) (.inl c32)).trans (e2.trans (lex_line c10))⟩
  · exact ⟨_, _, _, _, (lex_semi c59).trans ((lex_semi c59).trans ((lex_line c10).trans (lex_line c10)))⟩
  · obtain ⟨col', e2⟩ := lex_comment [] r (by decide) (line + 1) (1 + 1) false (acc ++ [⟨3, [], line, col⟩])
    exact ⟨_, _, _, _, (lex_line (c := 10) c10).trans ((lex_semi (c := 59) c59).trans (e2.trans (lex_line c10)))⟩

/-- What is scanned of a text of the tokens l. -/
theorem Rend.lex {op : Bool} {l : List KT} {s : Str} (h : Rend op l s) : ∀ (line col : Int) (acc : List Tok), ∃ toks, Go.Proofs.YtpnfdmajpkpjoaaDoor.lex s line col op acc = ⟨toks, 0, 0, 0⟩ ∧ toks.map strip1 = acc.map strip1 ++ l := by
  induction l generalizing op s with
  | nil =>
    obtain ⟨rfl, rfl⟩ := h
    intro line col acc
    exact ⟨acc, rfl, by simp⟩
  | cons t l ih =>
    obtain ⟨k, x⟩ := t
    intro line col acc
    rcases h with ⟨rfl, rfl, rfl, ws, sep, r, h1, h2, rfl, h3⟩ | ⟨hg, ws, r, h1, h2, rfl, h3⟩
    · obtain ⟨col', e1⟩ := lex_blank ws (sep ++ r) line col true acc h1
      obtain ⟨line2, col2, p, q, e2⟩ := lex_sep sep h2 r line col' acc
      obtain ⟨toks, e3, e4⟩ := ih h3 line2 col2 (acc ++ [⟨3, [], p, q⟩])
      exact ⟨toks, e1.trans (e2.trans e3), by rw [e4]; simp [strip1]⟩
    · obtain ⟨col', e1⟩ := lex_blank ws (x ++ r) line col op acc h1
      rcases hg with ⟨rfl, c, t, rfl, ha, hd, hl⟩ | ⟨rfl, rfl⟩
      · obtain ⟨e5, e6⟩ := take_part (c :: t) r ha h3.head
        have hc : partB c = true := by simp only [List.all_cons, Bool.and_eq_true] at ha; exact ha.1
        have e2 := lex_word (c := c) (r := t ++ r) (line := line) (col := col') (op := op) (acc := acc) hc hd (by
          have : (c :: (t ++ r)) = c :: t ++ r := rfl
          rw [this, e5]; omega)
        have e7 : (c :: (t ++ r)) = c :: t ++ r := rfl
        rw [e7, e5, e6] at e2
        obtain ⟨toks, e3, e4⟩ := ih h3 line (col' + ((c :: t).length : Int)) (acc ++ [⟨1, c :: t, line, col'⟩])
        exact ⟨toks, e1.trans (e2.trans e3), by rw [e4]; simp [strip1]⟩
      · have e2 := lex_equal (c := 61) (r := r) (line := line) (col := col') (op := op) (acc := acc) rfl
        obtain ⟨toks, e3, e4⟩ := ih h3 line (col' + 1) (acc ++ [⟨2, [61], line, col'⟩])
        exact ⟨toks, e1.trans (e2.trans e3), by rw [e4]; simp [strip1]⟩

theorem Rend.scanned {l : List KT} {s : Str} (h : Rend false l s) (hs : s.length ≤ 4096) : ∃ toks, Go.Proofs.YtpnfdmajpkpjoaaDoor.scanned s = ⟨toks, 0, 0, 0⟩ ∧ toks.map strip1 = l := by
  obtain ⟨toks, e1, e2⟩ := h.lex 1 1 []
  refine ⟨toks, ?_, by simpa using e2⟩
  unfold Go.Proofs.YtpnfdmajpkpjoaaDoor.scanned
  rw [if_neg (by omega)]
  exact e1

/-- What the law writes for a token. -/
def Piece (t : KT) (s : Str) : Prop := ∃ ws ∈ ([[32], [9, 32], [32, 32]] : List Str), ∃ sep, (t.1 = 3 → sep ∈ seps) ∧ (t.1 ≠ 3 → sep = []) ∧ s = ws ++ (t.2 ++ sep)
theorem blank3 : ∀ ws ∈ ([[32], [9, 32], [32, 32]] : List Str), blank ws ∧ ws ≠ [] ∧ ws.length ≤ 2 := by
  intro ws h
  simp only [List.mem_cons, List.not_mem_nil, or_false] at h
  rcases h with rfl | rfl | rfl <;> exact ⟨by unfold blank; decide, by decide, by decide⟩
/-- Texts of the pieces of tokens that have some text. -/
theorem Rend.pieces {op : Bool} {l : List KT} {s : Str} (h : Rend op l s) : ∀ {ps : List Str}, ps.length = l.length → (∀ (i : Nat) (t : KT) (p : Str), l[i]? = some t → ps[i]? = some p → Piece t p) → Rend op l ps.flatten := by
  induction l generalizing op s with
  | nil =>
    intro ps hl _
    obtain rfl : ps = [] := List.length_eq_zero_iff.1 hl
    exact ⟨h.1, rfl⟩
  | cons t l ih =>
    obtain ⟨k, x⟩ := t
    intro ps hl hp
    cases ps with
    | nil => simp at hl
    | cons p ps =>
      have hp1 := hp 0 (k, x) p rfl rfl
      have hp2 : ∀ (i : Nat) (t : KT) (q : Str), l[i]? = some t → ps[i]? = some q → Piece t q := fun i t q h1 h2 => hp (i + 1) t q h1 h2
      obtain ⟨ws, hws, sep, h5, h6, rfl⟩ := hp1
      obtain ⟨b1, b2, _⟩ := blank3 ws hws
      rcases h with ⟨rfl, rfl, rfl, _, _, _, _, _, _, h3⟩ | ⟨hg, _, _, _, _, _, h3⟩
      · exact .inl ⟨rfl, rfl, rfl, ws, sep, ps.flatten, b1, h5 rfl, by simp, ih h3 (by simpa using hl) hp2⟩
      · have hk : k ≠ 3 := by rcases hg with ⟨rfl, _⟩ | ⟨rfl, _⟩ <;> decide
        rw [h6 hk]
        exact .inr ⟨hg, ws, ps.flatten, b1, fun _ => b2, by simp, ih h3 (by simpa using hl) hp2⟩

def kcost (t : KT) : Nat := 2 + t.2.length + (if t.1 = 3 then 19 else 0)
theorem seps_len : ∀ sep ∈ seps, sep.length ≤ 19 := by decide
theorem piece_len {t : KT} {p : Str} (h : Piece t p) : p.length ≤ kcost t := by
  obtain ⟨ws, hws, sep, h5, h6, rfl⟩ := h
  have := (blank3 ws hws).2.2
  unfold kcost
  rw [List.length_append, List.length_append]
  split
  · have := seps_len sep (h5 ‹_›)
    omega
  · rw [h6 ‹_›]
    simp
    omega
theorem pieces_len {l : List KT} : ∀ {ps : List Str}, ps.length = l.length → (∀ (i : Nat) (t : KT) (p : Str), l[i]? = some t → ps[i]? = some p → Piece t p) → ps.flatten.length ≤ (l.map kcost).sum := by
  induction l with
  | nil =>
    intro ps hl _
    obtain rfl : ps = [] := List.length_eq_zero_iff.1 hl
    simp
  | cons t l ih =>
    intro ps hl hp
    cases ps with
    | nil => simp at hl
    | cons p ps =>
      have h1 := piece_len (hp 0 t p rfl rfl)
      have h2 := ih (ps := ps) (by simpa using hl) fun i t q h1 h2 => hp (i + 1) t q h1 h2
      rw [List.flatten_cons, List.length_append, List.map_cons, List.sum_cons]
      omega
end Go.Proofs.YtpnfdmajpkpjoaaDoor

/- The tokens of printed programs: plain Lean, no program in sight. -/
namespace Go.Proofs.YtpnfdmajpkpjoaaDoor

def word (x : Str) : KT := (1, x)
def joinL : List KT → Str
  | [] => []
  | t :: ws => t.2 ++ (ws.map fun t : KT => 32 :: t.2).flatten
def stmtL (s : PStmt) : List KT :=
  if s.op = 1 then word s.dfn :: (2, [61]) :: s.uses.map word
  else if s.op = 2 then word [117, 115, 101] :: s.uses.map word
  else if s.op = 3 then word [99, 97, 108, 108] :: s.targets.map word
  else if s.op = 4 then [word [115, 111, 117, 114, 99, 101], word s.dfn]
  else if s.op = 5 then word [115, 105, 110, 107] :: s.uses.map word
  else if s.op = 6 then [word [115, 97, 110, 105, 116, 105, 122, 101], word s.dfn]
  else if s.op = 7 then word [103, 111, 116, 111] :: s.targets.map word
  else if s.op = 8 then word [98, 114, 97, 110, 99, 104] :: (s.uses.map word ++ s.targets.map word)
  else [word [114, 101, 116, 117, 114, 110]]
def blockL (b : PBlock) : List (List KT) := [word [98, 108, 111, 99, 107], word b.name] :: b.stmts.map stmtL
def funcL (f : PFunc) : List (List KT) := [word [102, 117, 110, 99], word f.name] :: ((f.blocks.map blockL).flatten ++ [[word [101, 110, 100]]])
def progL (p : List PFunc) : List (List KT) := (p.map funcL).flatten
def endT : KT := (3, [])
def toksT (p : List PFunc) : List KT := ((progL p).map fun l => l ++ [endT]).flatten

theorem words_eq (l : List Str) : wordsT l = ((l.map word).map fun t : KT => 32 :: t.2).flatten := by
  unfold wordsT
  rw [List.map_map]
  rfl
theorem stmtL_join (s : PStmt) : lineT s = joinL (stmtL s) := by
  unfold lineT stmtL
  split
  · simp [joinL, word, words_eq]
  split
  · simp [joinL, word, words_eq]
  split
  · simp [joinL, word, words_eq]
  split
  · simp [joinL, word]
  split
  · simp [joinL, word, words_eq]
  split
  · simp [joinL, word]
  split
  · simp [joinL, word, words_eq]
  split
  · simp [joinL, word, words_eq]
  · simp [joinL, word]
theorem blockL_join (b : PBlock) : blockLines b = (blockL b).map joinL := by
  unfold blockLines blockL
  rw [List.map_cons, List.map_map]
  congr 1
  · simp [joinL, word]
  · exact List.map_congr_left fun s _ => stmtL_join s
theorem flatten_map_map {α β γ : Type} (g : α → List β) (h : β → γ) : ∀ l : List α, ((l.map g).flatten).map h = (l.map fun x => (g x).map h).flatten
  | [] => rfl
  | x :: l => by simp [flatten_map_map g h l]
theorem funcL_join (f : PFunc) : funcLines f = (funcL f).map joinL := by
  unfold funcLines funcL
  rw [List.map_cons, List.map_append, flatten_map_map]
  congr 1
  · simp [joinL, word]
  · congr 1
    exact congrArg List.flatten (List.map_congr_left fun b _ => blockL_join b)
theorem progL_join (p : List PFunc) : linesT p = (progL p).map joinL := by
  unfold linesT progL
  rw [flatten_map_map]
  exact congrArg List.flatten (List.map_congr_left fun f _ => funcL_join f)

/-- A line of good tokens. -/
def goodL (l : List KT) : Prop := l ≠ [] ∧ ∀ t ∈ l, goodT t.1 t.2
theorem name_good {x : Str} (h : nameB x = true) : goodT 1 x := by
  have hl := nameB_short h
  unfold nameB at h
  simp only [Bool.and_eq_true] at h
  obtain ⟨⟨⟨h1, _⟩, _⟩, h2⟩ := h
  cases x with
  | nil => cases h1
  | cons c r =>
    refine .inl ⟨rfl, c, r, rfl, h2, ?_, hl⟩
    have h3 : isLet (c.toNat : Int) = true := h1
    unfold isLet at h3
    unfold isDig
    simp only [Bool.or_eq_true, Bool.and_eq_true, decide_eq_true_eq] at h3
    simp
    omega
theorem key_good : ∀ x ∈ ([[117, 115, 101], [99, 97, 108, 108], [115, 111, 117, 114, 99, 101], [115, 105, 110, 107], [115, 97, 110, 105, 116, 105, 122, 101], [103, 111, 116, 111], [98, 114, 97, 110, 99, 104], [114, 101, 116, 117, 114, 110], [98, 108, 111, 99, 107], [102, 117, 110, 99], [101, 110, 100]] : List Str), goodT 1 x := by
  intro x h
  simp only [List.mem_cons, List.not_mem_nil, or_false] at h
  rcases h with rfl | rfl | rfl | rfl | rfl | rfl | rfl | rfl | rfl | rfl | rfl <;> exact .inl ⟨rfl, _, _, rfl, by decide, by decide, by decide⟩
theorem words_good {l : List Str} (h : ∀ x ∈ l, nameB x = true) : ∀ t ∈ l.map word, goodT t.1 t.2 := by
  intro t ht
  obtain ⟨x, hx, rfl⟩ := List.mem_map.1 ht
  exact name_good (h x hx)
theorem stmtB_fields {s : PStmt} (h : stmtB s = true) : (∀ x ∈ s.uses, nameB x = true) ∧ (∀ x ∈ s.targets, nameB x = true) ∧ opB s.op (nameB s.dfn) s.dfn.isEmpty s.uses.length s.targets.length = true := by
  unfold stmtB namesB at h
  simp only [Bool.and_eq_true, List.all_eq_true] at h
  exact ⟨h.1.1, h.2.1.1, h.2.2⟩
theorem cons_good {t : KT} {l : List KT} (h1 : goodT t.1 t.2) (h2 : ∀ t ∈ l, goodT t.1 t.2) : goodL (t :: l) := by
  refine ⟨by simp, fun x hx => ?_⟩
  rcases List.mem_cons.1 hx with rfl | hx
  · exact h1
  · exact h2 x hx
theorem stmtL_good {s : PStmt} (h : stmtB s = true) : goodL (stmtL s) := by
  obtain ⟨hu, ht, ho⟩ := stmtB_fields h
  unfold stmtL
  split
  · rename_i h1
    have hd : nameB s.dfn = true := by rw [h1] at ho; simp [opB] at ho; exact ho.1
    exact cons_good (name_good hd) (cons_good (l := s.uses.map word) (t := (2, [61])) (.inr ⟨rfl, rfl⟩) (words_good hu)).2
  split
  · exact cons_good (key_good _ (by simp [word])) (words_good hu)
  split
  · exact cons_good (key_good _ (by simp [word])) (words_good ht)
  split
  · rename_i h1
    have hd : nameB s.dfn = true := by rw [h1] at ho; simp [opB] at ho; exact ho.1
    exact cons_good (key_good _ (by simp [word])) (cons_good (name_good hd) (by simp)).2
  split
  · exact cons_good (key_good _ (by simp [word])) (words_good hu)
  split
  · rename_i h1
    have hd : nameB s.dfn = true := by rw [h1] at ho; simp [opB] at ho; exact ho.1
    exact cons_good (key_good _ (by simp [word])) (cons_good (name_good hd) (by simp)).2
  split
  · exact cons_good (key_good _ (by simp [word])) (words_good ht)
  split
  · refine cons_good (key_good _ (by simp [word])) fun t h => ?_
    rcases List.mem_append.1 h with h | h
    · exact words_good hu t h
    · exact words_good ht t h
  · exact cons_good (key_good _ (by simp [word])) (by simp)
theorem progL_good {p : List PFunc} (h : validB p = true) : ∀ l ∈ progL p, goodL l := by
  obtain ⟨_, _, h4⟩ := validB_parts h
  intro x hx
  unfold progL at hx
  obtain ⟨y, hy, hx⟩ := List.mem_flatten.1 hx
  obtain ⟨f, hf, rfl⟩ := List.mem_map.1 hy
  obtain ⟨h5, _, _, h6⟩ := funcB_parts (h4 f hf)
  rcases List.mem_cons.1 hx with rfl | hx
  · exact cons_good (key_good _ (by simp [word])) (cons_good (name_good h5) (by simp)).2
  rcases List.mem_append.1 hx with hx | hx
  · obtain ⟨y, hy, hx⟩ := List.mem_flatten.1 hx
    obtain ⟨b, hb, rfl⟩ := List.mem_map.1 hy
    obtain ⟨h7, _, _, h8⟩ := blockB_parts (h6 b hb)
    rcases List.mem_cons.1 hx with rfl | hx
    · exact cons_good (key_good _ (by simp [word])) (cons_good (name_good h7) (by simp)).2
    · obtain ⟨s, hs, rfl⟩ := List.mem_map.1 hx
      exact stmtL_good (h8 s hs)
  · simp at hx
    rw [hx]
    exact cons_good (key_good _ (by simp [word])) (by simp)

theorem blank_nil : blank [] := by
  intro c h
  cases h
theorem rend_rest (ws : List KT) (h : ∀ t ∈ ws, goodT t.1 t.2) {l : List KT} {r : Str} (hr : Rend false l r) : Rend true (ws ++ endT :: l) ((ws.map fun t : KT => 32 :: t.2).flatten ++ (10 :: r)) := by
  induction ws with
  | nil => exact .inl ⟨rfl, rfl, rfl, [], [10], r, blank_nil, by simp [seps], rfl, hr⟩
  | cons t ws ih =>
    have h1 := h t List.mem_cons_self
    refine .inr ⟨h1, [32], (ws.map fun t : KT => 32 :: t.2).flatten ++ (10 :: r), fun c hc => ?_, fun _ => by simp, by simp, ih fun x hx => h x (List.mem_cons_of_mem _ hx)⟩
    simp at hc
    rw [hc]
    exact .inl rfl
theorem rend_line {line : List KT} (h : goodL line) {l : List KT} {r : Str} (hr : Rend false l r) : Rend false (line ++ endT :: l) (joinL line ++ (10 :: r)) := by
  cases line with
  | nil => exact absurd rfl h.1
  | cons t ws =>
    refine .inr ⟨h.2 t List.mem_cons_self, [], (ws.map fun t : KT => 32 :: t.2).flatten ++ (10 :: r), blank_nil, (fun h => by cases h), by simp [joinL], rend_rest ws (fun x hx => h.2 x (List.mem_cons_of_mem _ hx)) hr⟩
theorem rend_lines : ∀ (L : List (List KT)), (∀ l ∈ L, goodL l) → Rend false (L.map fun l => l ++ [endT]).flatten ((L.map fun l => joinL l ++ [10]).flatten)
  | [], _ => ⟨rfl, rfl⟩
  | x :: L, h => by
    have h1 := rend_line (h x List.mem_cons_self) (rend_lines L fun y hy => h y (List.mem_cons_of_mem _ hy))
    simpa using h1
theorem rend_print {p : List PFunc} (h : validB p = true) : Rend false (toksT p) (printT p) := by
  have h1 := rend_lines (progL p) (progL_good h)
  have e : printT p = ((progL p).map fun l => joinL l ++ [10]).flatten := by
    unfold printT
    rw [h, progL_join, List.map_map]
    rfl
  rw [e]
  exact h1

/-- How much the law may write for a line. -/
def lcost (l : List KT) : Nat := (l.map kcost).sum
theorem lcost_words (l : List Str) (h : ∀ x ∈ l, x.length ≤ 1) : lcost (l.map word) ≤ 3 * l.length := by
  induction l with
  | nil => simp [lcost]
  | cons x l ih =>
    have h1 := h x List.mem_cons_self
    have h2 := ih fun y hy => h y (List.mem_cons_of_mem _ hy)
    unfold lcost at *
    simp only [List.map_cons, List.sum_cons, List.length_cons]
    have h3 : kcost (word x) = 2 + x.length + 0 := rfl
    omega
theorem var_one : ∀ v ∈ varNames, v.length ≤ 1 := by decide
theorem func_one : ∀ v ∈ funcNames, v.length ≤ 1 := by decide
theorem block_one : ∀ v ∈ blockNames, v.length ≤ 1 := by decide
theorem lcost_cons (t : KT) (l : List KT) : lcost (t :: l) = kcost t + lcost l := by simp [lcost]
theorem lcost_app (k l : List KT) : lcost (k ++ l) = lcost k + lcost l := by simp [lcost]
theorem kcost_word (x : Str) : kcost (word x) = 2 + x.length := rfl
theorem body_cost {F : Int} {s : PStmt} (h : GenBody F s) : lcost (stmtL s) ≤ 17 := by
  rcases h with ⟨ho, hd, ⟨h1, h2, h3⟩, ht⟩ | ⟨ho, hd, hu, ht⟩ | ⟨ho, hd, ⟨v, hv, hu⟩, ht⟩ | ⟨ho, hd, hu, r, _, n, hn, ht⟩ | ⟨ho, hd, ⟨h1, h2⟩, ht⟩
  · have h4 := lcost_words s.uses fun x hx => var_one x (h3 x hx)
    have e : stmtL s = word [117, 115, 101] :: s.uses.map word := by unfold stmtL; rw [ho]; rfl
    rw [e, lcost_cons, kcost_word]
    simp
    omega
  · have h4 := var_one _ hd
    rcases ho with ho | ho
    · have e : stmtL s = [word [115, 111, 117, 114, 99, 101], word s.dfn] := by unfold stmtL; rw [ho]; rfl
      rw [e, lcost_cons, lcost_cons, kcost_word, kcost_word]
      simp [lcost]
      omega
    · have e : stmtL s = [word [115, 97, 110, 105, 116, 105, 122, 101], word s.dfn] := by unfold stmtL; rw [ho]; rfl
      rw [e, lcost_cons, lcost_cons, kcost_word, kcost_word]
      simp [lcost]
      omega
  · have h4 := var_one _ hv
    have e : stmtL s = [word [115, 105, 110, 107], word v] := by unfold stmtL; rw [ho, hu]; rfl
    rw [e, lcost_cons, lcost_cons, kcost_word, kcost_word]
    simp [lcost]
    omega
  · have h4 := func_one _ (List.mem_of_getElem? hn)
    have e : stmtL s = [word [99, 97, 108, 108], word n] := by unfold stmtL; rw [ho, ht]; rfl
    rw [e, lcost_cons, lcost_cons, kcost_word, kcost_word]
    simp [lcost]
    omega
  · have h4 := lcost_words s.uses fun x hx => var_one x (h2 x hx)
    have h5 := var_one _ hd
    have e : stmtL s = word s.dfn :: (2, [61]) :: s.uses.map word := by unfold stmtL; rw [ho]; rfl
    have e2 : kcost (2, [61]) = 3 := rfl
    rw [e, lcost_cons, lcost_cons, kcost_word, e2]
    omega
theorem term_cost {K : Int} {s : PStmt} (h : GenTerm K s) : lcost (stmtL s) ≤ 17 := by
  rcases h with ⟨ho, hd, hu, ht⟩ | ⟨ho, hd, hu, r, _, n, hn, ht⟩ | ⟨ho, hd, ⟨v, hv, hu⟩, r, q, _, _, n, m, hn, hm, ht⟩
  · have e : stmtL s = [word [114, 101, 116, 117, 114, 110]] := by unfold stmtL; rw [ho]; rfl
    rw [e, lcost_cons, kcost_word]
    simp [lcost]
  · have h4 := block_one _ (List.mem_of_getElem? hn)
    have e : stmtL s = [word [103, 111, 116, 111], word n] := by unfold stmtL; rw [ho, ht]; rfl
    rw [e, lcost_cons, lcost_cons, kcost_word, kcost_word]
    simp [lcost]
    omega
  · have h4 := block_one _ (List.mem_of_getElem? hn)
    have h5 := block_one _ (List.mem_of_getElem? hm)
    have h6 := var_one _ hv
    have e : stmtL s = [word [98, 114, 97, 110, 99, 104], word v, word n, word m] := by unfold stmtL; rw [ho, hu, ht]; rfl
    rw [e, lcost_cons, lcost_cons, lcost_cons, lcost_cons, kcost_word, kcost_word, kcost_word, kcost_word]
    simp [lcost]
    omega
theorem block_lines {F K : Int} {k : Nat} {b : PBlock} (h : GenBlock F K k b) : (blockL b).length ≤ 5 ∧ ∀ l ∈ blockL b, lcost l ≤ 17 := by
  obtain ⟨hn, l, t, e, hl, h1, h2⟩ := h
  have h4 := block_one _ (List.mem_of_getElem? hn)
  refine ⟨by simp [blockL, e]; omega, fun x hx => ?_⟩
  rcases List.mem_cons.1 hx with rfl | hx
  · rw [lcost_cons, lcost_cons, kcost_word, kcost_word]
    simp [lcost]
    omega
  · rw [e] at hx
    obtain ⟨s, hs, rfl⟩ := List.mem_map.1 hx
    rcases List.mem_append.1 hs with hs | hs
    · exact body_cost (h1 s hs)
    · simp at hs; rw [hs]; exact term_cost h2
theorem func_lines {F : Int} {i : Nat} {f : PFunc} (h : GenFunc F i f) : (funcL f).length ≤ 17 ∧ ∀ l ∈ funcL f, lcost l ≤ 17 := by
  obtain ⟨hn, h1, h2, h3⟩ := h
  have h4 := func_one _ (List.mem_of_getElem? hn)
  have h5 := flat_len blockL 5 f.blocks fun b hb => by obtain ⟨k, hk⟩ := List.mem_iff_getElem?.1 hb; exact (block_lines (h3 k b hk)).1
  refine ⟨by simp only [funcL, List.length_cons, List.length_append, List.length_nil]; omega, fun x hx => ?_⟩
  rcases List.mem_cons.1 hx with rfl | hx
  · rw [lcost_cons, lcost_cons, kcost_word, kcost_word]
    simp [lcost]
    omega
  rcases List.mem_append.1 hx with hx | hx
  · obtain ⟨y, hy, hx⟩ := List.mem_flatten.1 hx
    obtain ⟨b, hb, rfl⟩ := List.mem_map.1 hy
    obtain ⟨k, hk⟩ := List.mem_iff_getElem?.1 hb
    exact (block_lines (h3 k b hk)).2 x hx
  · simp at hx
    rw [hx, lcost_cons, kcost_word]
    simp [lcost]
theorem prog_lines {p : List PFunc} (h : GenProg p) : (progL p).length ≤ 51 ∧ ∀ l ∈ progL p, lcost l ≤ 17 := by
  obtain ⟨h1, h2, h3⟩ := h
  have h5 := flat_len funcL 17 p fun b hb => by obtain ⟨k, hk⟩ := List.mem_iff_getElem?.1 hb; exact (func_lines (h3 k b hk)).1
  refine ⟨by unfold progL; omega, fun x hx => ?_⟩
  unfold progL at hx
  obtain ⟨y, hy, hx⟩ := List.mem_flatten.1 hx
  obtain ⟨b, hb, rfl⟩ := List.mem_map.1 hy
  obtain ⟨k, hk⟩ := List.mem_iff_getElem?.1 hb
  exact (func_lines (h3 k b hk)).2 x hx
theorem lines_cost : ∀ (L : List (List KT)), (∀ l ∈ L, lcost l ≤ 17) → lcost (L.map fun l => l ++ [endT]).flatten ≤ L.length * 38
  | [], _ => by simp [lcost]
  | x :: L, h => by
    have h1 := h x List.mem_cons_self
    have h2 := lines_cost L fun y hy => h y (List.mem_cons_of_mem _ hy)
    have e : lcost [endT] = 21 := rfl
    rw [List.map_cons, List.flatten_cons, lcost_app, lcost_app, List.length_cons, Nat.succ_mul, e]
    omega
theorem toks_cost {p : List PFunc} (h : GenProg p) : lcost (toksT p) ≤ 1938 := by
  obtain ⟨h1, h2⟩ := prog_lines h
  have h3 := lines_cost (progL p) h2
  have := Nat.mul_le_mul_right 38 h1
  unfold toksT
  omega
theorem rest_len (ws : List KT) : ((ws.map fun t : KT => 32 :: t.2).flatten).length ≤ lcost ws := by
  induction ws with
  | nil => simp
  | cons t ws ih =>
    have h1 : 1 + t.2.length ≤ kcost t := by unfold kcost; omega
    rw [lcost_cons, List.map_cons, List.flatten_cons, List.length_append, List.length_cons]
    omega
theorem join_len (l : List KT) : (joinL l).length ≤ lcost l := by
  cases l with
  | nil => simp [joinL]
  | cons t ws =>
    have h1 : t.2.length ≤ kcost t := by unfold kcost; omega
    have h2 := rest_len ws
    rw [lcost_cons]
    unfold joinL
    rw [List.length_append]
    omega
theorem print_len {p : List PFunc} (h : GenProg p) : (printT p).length ≤ 4096 := by
  obtain ⟨h1, h2⟩ := prog_lines h
  have e : printT p = ((progL p).map fun l => joinL l ++ [10]).flatten := by
    unfold printT
    rw [gen_valid h, progL_join, List.map_map]
    rfl
  rw [e]
  have h3 := flat_len (fun l : List KT => joinL l ++ [10]) 18 (progL p) fun l hl => by
    have h4 := join_len l
    have h5 := h2 l hl
    simp
    omega
  have := Nat.mul_le_mul_right 18 h1
  omega
theorem toks_pos {p : List PFunc} (h : validB p = true) : 0 < (toksT p).length := by
  obtain ⟨h1, _, _⟩ := validB_parts h
  cases p with
  | nil => simp at h1
  | cons f p => simp [toksT, progL, funcL]
end Go.Proofs.YtpnfdmajpkpjoaaDoor

/- The texts of a valid program are read back: plain Lean, no program in sight. -/
namespace Go.Proofs.YtpnfdmajpkpjoaaDoor

/-- From token i on, the tokens read as l. -/
def AtT (T : List Tok) (i : Nat) (l : List KT) : Prop := (T.map strip1).drop i = l
section
variable {T : List Tok} {i : Nat} {t : KT} {l : List KT}
theorem AtT.step (h : AtT T i (t :: l)) : AtT T (i + 1) l := by
  unfold AtT at *
  have h2 := congrArg (List.drop 1) h
  rw [List.drop_drop] at h2
  simpa using h2
theorem AtT.get (h : AtT T i (t :: l)) : ∃ u, T[i]? = some u ∧ u.kind = t.1 ∧ u.text = t.2 := by
  unfold AtT at h
  have h2 : ((T.map strip1).drop i)[0]? = some t := by rw [h]; rfl
  rw [List.getElem?_drop, List.getElem?_map] at h2
  cases hT : T[i]? with
  | none => simp [hT] at h2
  | some u =>
    simp [hT] at h2
    exact ⟨u, rfl, by rw [← h2]; rfl, by rw [← h2]; rfl⟩
theorem AtT.next (h : AtT T i (t :: l)) : (PS.next T ⟨i, 0⟩).kind = t.1 ∧ (PS.next T ⟨i, 0⟩).text = t.2 := by
  obtain ⟨u, h1, h2, h3⟩ := h.get
  unfold PS.next
  rw [if_pos rfl, h1]
  exact ⟨h2, h3⟩
theorem AtT.nil (h : AtT T i []) : T.length ≤ i := by
  unfold AtT at h
  have := congrArg List.length h
  simp at this
  omega
theorem AtT.next_nil (h : AtT T i []) : PS.next T ⟨i, 0⟩ = ⟨0, [], 0, 0⟩ := by
  unfold PS.next
  rw [if_pos rfl, List.getElem?_eq_none h.nil]
  rfl
theorem AtT.isN (h : AtT T i (t :: l)) : isN T ⟨i, 0⟩ = (t.1 == 1 && nameB t.2) := by unfold Go.Proofs.YtpnfdmajpkpjoaaDoor.isN; rw [h.next.1, h.next.2]
theorem AtT.isW (h : AtT T i (t :: l)) (w : Str) : isW T w ⟨i, 0⟩ = (t.1 == 1 && t.2 == w) := by unfold Go.Proofs.YtpnfdmajpkpjoaaDoor.isW; rw [h.next.1, h.next.2]
theorem AtT.isK (h : AtT T i (t :: l)) (k : Int) : isK T k ⟨i, 0⟩ = (t.1 == k) := by unfold Go.Proofs.YtpnfdmajpkpjoaaDoor.isK; rw [h.next.1]
theorem AtT.starts (h : AtT T i (t :: l)) : startsB T ⟨i, 0⟩ = ((t.1 == 1 && nameB t.2) || (t.1 == 1 && opOf t.2 != 0)) := by unfold startsB; rw [h.isN, h.next.1, h.next.2]
theorem AtT.name {x : Str} (h : AtT T i (word x :: l)) (hx : nameB x = true) : Go.Proofs.YtpnfdmajpkpjoaaDoor.isN T ⟨i, 0⟩ = true ∧ nameM T ⟨i, 0⟩ = ⟨i + 1, 0⟩ ∧ nameV T ⟨i, 0⟩ = x := by
  have h1 : Go.Proofs.YtpnfdmajpkpjoaaDoor.isN T ⟨i, 0⟩ = true := by rw [h.isN]; simp [word, hx]
  refine ⟨h1, ?_, ?_⟩
  · unfold nameM takeM; rw [h1]; rfl
  · unfold nameV textM; rw [h1]; exact h.next.2
theorem AtT.wordM {x : Str} (h : AtT T i (word x :: l)) : takeM (Go.Proofs.YtpnfdmajpkpjoaaDoor.isW T x ⟨i, 0⟩) ⟨i, 0⟩ = ⟨i + 1, 0⟩ := by
  rw [h.isW]; simp [word, takeM, PS.step]
theorem AtT.endM (h : AtT T i (endT :: l)) : Go.Proofs.YtpnfdmajpkpjoaaDoor.endM T ⟨i, 0⟩ = ⟨i + 1, 0⟩ := by
  unfold Go.Proofs.YtpnfdmajpkpjoaaDoor.endM
  rw [h.isK]; simp [endT, takeM, PS.step]
end

theorem names_at {T : List Tok} {l : List KT} : ∀ (ws : List Str) (m : Nat) (acc : List Str) (i : Nat), AtT T i (ws.map word ++ endT :: l) → (∀ x ∈ ws, nameB x = true) → ws.length ≤ m →
    ∃ j, namesM T m acc ⟨i, 0⟩ = (acc ++ ws, ⟨j, 0⟩) ∧ AtT T j (endT :: l)
  | [], m, acc, i, h, _, _ => by
    have h1 : isN T ⟨i, 0⟩ = false := by rw [AtT.isN (t := endT) h]; rfl
    refine ⟨i, ?_, h⟩
    cases m <;> simp [namesM, h1]
  | x :: ws, 0, acc, i, _, _, hl => by simp at hl
  | x :: ws, m + 1, acc, i, h, hx, hl => by
    have h0 : AtT T i (word x :: (ws.map word ++ endT :: l)) := h
    obtain ⟨h1, _, h2⟩ := h0.name (hx x List.mem_cons_self)
    obtain ⟨j, e, hj⟩ := names_at ws m (acc ++ [x]) (i + 1) h0.step (fun y hy => hx y (List.mem_cons_of_mem _ hy)) (by simp at hl; omega)
    refine ⟨j, ?_, hj⟩
    rw [namesM, if_pos h1, h2]
    show namesM T m (acc ++ [x]) ⟨i + 1, 0⟩ = _
    rw [e]
    simp

theorem isEmpty_nil {x : Str} (h : x.isEmpty = true) : x = [] := List.isEmpty_iff.1 h
theorem one_of_length {α : Type} {l : List α} (h : l.length = 1) : ∃ x, l = [x] := by
  match l, h with
  | [x], _ => exact ⟨x, rfl⟩
theorem two_of_length {α : Type} {l : List α} (h : l.length = 2) : ∃ x y, l = [x, y] := by
  match l, h with
  | [x, y], _ => exact ⟨x, y, rfl⟩

/-- A statement that begins with a keyword. -/
theorem key_at {T : List Tok} {i : Nat} {x : Str} {l : List KT} (h : AtT T i (word x :: l)) (hx : nameB x = false) (ho : (opOf x != 0) = true) : startsB T ⟨i, 0⟩ = true ∧ isN T ⟨i, 0⟩ = false ∧ opOf (PS.next T ⟨i, 0⟩).text = opOf x := by
  refine ⟨by rw [h.starts]; simp [word, hx]; simpa using ho, by rw [h.isN]; simp [word, hx], by rw [h.next.2]; rfl⟩

theorem stmt_at {T : List Tok} {i : Nat} {s : PStmt} {l : List KT} (hs : stmtB s = true) (h : AtT T i (stmtL s ++ endT :: l)) :
    startsB T ⟨i, 0⟩ = true ∧ ∃ j, stmtM T ⟨i, 0⟩ = (s, ⟨j, 0⟩) ∧ AtT T j l := by
  obtain ⟨hu, ht, ho⟩ := stmtB_fields hs
  have hul : s.uses.length ≤ 4 := by
    unfold stmtB namesB at hs
    simp only [Bool.and_eq_true, decide_eq_true_eq] at hs
    omega
  obtain ⟨op, d, us, ts⟩ := s
  simp only at hu ht ho hul
  by_cases h1 : op = 1
  · subst h1
    have h2 : nameB d = true ∧ ts.length = 0 := by simpa [opB] using ho
    obtain rfl : ts = [] := List.length_eq_zero_iff.1 h2.2
    have h0 : AtT T i (word d :: (2, [61]) :: (us.map word ++ endT :: l)) := by simpa [stmtL] using h
    obtain ⟨n1, _, n3⟩ := h0.name h2.1
    have k2 : isK T 2 ⟨i + 1, 0⟩ = true := by rw [h0.step.isK]; rfl
    obtain ⟨j, e, hj⟩ := names_at us 4 [] (i + 2) h0.step.step hu hul
    refine ⟨by unfold startsB; rw [n1]; rfl, j + 1, ?_, hj.step⟩
    unfold stmtM
    rw [if_pos n1, n3]
    show (PStmt.mk 1 d (namesM T 4 [] (takeM (isK T 2 ⟨i + 1, 0⟩) ⟨i + 1, 0⟩)).1 [], endM T (namesM T 4 [] (takeM (isK T 2 ⟨i + 1, 0⟩) ⟨i + 1, 0⟩)).2) = _
    rw [k2]
    show (PStmt.mk 1 d (namesM T 4 [] ⟨i + 2, 0⟩).1 [], endM T (namesM T 4 [] ⟨i + 2, 0⟩).2) = _
    rw [e]
    simp only [List.nil_append]
    rw [hj.endM]
  by_cases h1 : op = 2
  · subst h1
    have h2 : d.isEmpty = true ∧ 1 ≤ us.length ∧ ts.length = 0 := by simpa [opB, Nat.succ_le_iff] using ho
    obtain rfl : d = [] := isEmpty_nil h2.1
    obtain rfl : ts = [] := List.length_eq_zero_iff.1 h2.2.2
    cases us with
    | nil => simp at h2
    | cons x us =>
      have h0 : AtT T i (word [117, 115, 101] :: word x :: (us.map word ++ endT :: l)) := by simpa [stmtL] using h
      obtain ⟨k1, k2, k3⟩ := key_at h0 (by decide) (by decide)
      obtain ⟨n1, n2, n3⟩ := h0.step.name (hu x List.mem_cons_self)
      obtain ⟨j, e, hj⟩ := names_at us 3 [x] (i + 2) h0.step.step (fun y hy => hu y (List.mem_cons_of_mem _ hy)) (by simp at hul; omega)
      refine ⟨k1, j + 1, ?_, hj.step⟩
      unfold stmtM
      rw [if_neg (by rw [k2]; decide), k3]
      dsimp only
      rw [if_pos (show opOf [117, 115, 101] = 2 by decide)]
      show (PStmt.mk 2 [] (if isN T ⟨i + 1, 0⟩ = true then namesM T 3 [nameV T ⟨i + 1, 0⟩] ⟨i + 2, 0⟩ else ([], PS.fail ⟨i + 1, 0⟩ 4)).1 [], endM T (if isN T ⟨i + 1, 0⟩ = true then namesM T 3 [nameV T ⟨i + 1, 0⟩] ⟨i + 2, 0⟩ else ([], PS.fail ⟨i + 1, 0⟩ 4)).2) = _
      rw [if_pos n1, n3, e]
      dsimp only
      rw [hj.endM]
      rfl
  by_cases h1 : op = 5
  · subst h1
    have h2 : d.isEmpty = true ∧ us.length = 1 ∧ ts.length = 0 := by simpa [opB] using ho
    obtain rfl : d = [] := isEmpty_nil h2.1
    obtain rfl : ts = [] := List.length_eq_zero_iff.1 h2.2.2
    obtain ⟨x, rfl⟩ := one_of_length h2.2.1
    have h0 : AtT T i (word [115, 105, 110, 107] :: word x :: endT :: l) := by simpa [stmtL] using h
    obtain ⟨k1, k2, k3⟩ := key_at h0 (by decide) (by decide)
    obtain ⟨n1, n2, n3⟩ := h0.step.name (hu x (by simp))
    refine ⟨k1, i + 3, ?_, h0.step.step.step⟩
    unfold stmtM
    rw [if_neg (by rw [k2]; decide), k3]
    dsimp only
    rw [if_neg (show ¬ opOf [115, 105, 110, 107] = 2 by decide), if_neg (show ¬ (opOf [115, 105, 110, 107] = 3 ∨ opOf [115, 105, 110, 107] = 7) by decide), if_neg (show ¬ (opOf [115, 105, 110, 107] = 4 ∨ opOf [115, 105, 110, 107] = 6) by decide), if_pos (show opOf [115, 105, 110, 107] = 5 by decide)]
    show (PStmt.mk 5 [] [nameV T ⟨i + 1, 0⟩] [], endM T (nameM T ⟨i + 1, 0⟩)) = _
    rw [n2, n3, h0.step.step.endM]
  by_cases h1 : op = 3 ∨ op = 7
  · have h2 : d.isEmpty = true ∧ us.length = 0 ∧ ts.length = 1 := by rcases h1 with rfl | rfl <;> simpa [opB] using ho
    obtain rfl : d = [] := isEmpty_nil h2.1
    obtain rfl : us = [] := List.length_eq_zero_iff.1 h2.2.1
    obtain ⟨x, rfl⟩ := one_of_length h2.2.2
    obtain ⟨y, h0, hy, hn⟩ : ∃ y, AtT T i (word y :: word x :: endT :: l) ∧ opOf y = op ∧ nameB y = false := by
      rcases h1 with rfl | rfl
      · exact ⟨[99, 97, 108, 108], by simpa [stmtL] using h, by decide, by decide⟩
      · exact ⟨[103, 111, 116, 111], by simpa [stmtL] using h, by decide, by decide⟩
    obtain ⟨k1, k2, k3⟩ := key_at h0 hn (by rw [hy]; rcases h1 with rfl | rfl <;> decide)
    obtain ⟨n1, n2, n3⟩ := h0.step.name (ht x (by simp))
    refine ⟨k1, i + 3, ?_, h0.step.step.step⟩
    unfold stmtM
    rw [if_neg (by rw [k2]; decide), k3, hy]
    dsimp only
    rw [if_neg (by omega), if_pos h1]
    show (PStmt.mk op [] [] [nameV T ⟨i + 1, 0⟩], endM T (nameM T ⟨i + 1, 0⟩)) = _
    rw [n2, n3, h0.step.step.endM]
  by_cases h1 : op = 4 ∨ op = 6
  · have h2 : nameB d = true ∧ us.length = 0 ∧ ts.length = 0 := by rcases h1 with rfl | rfl <;> simpa [opB] using ho
    obtain rfl : us = [] := List.length_eq_zero_iff.1 h2.2.1
    obtain rfl : ts = [] := List.length_eq_zero_iff.1 h2.2.2
    obtain ⟨y, h0, hy, hn⟩ : ∃ y, AtT T i (word y :: word d :: endT :: l) ∧ opOf y = op ∧ nameB y = false := by
      rcases h1 with rfl | rfl
      · exact ⟨[115, 111, 117, 114, 99, 101], by simpa [stmtL] using h, by decide, by decide⟩
      · exact ⟨[115, 97, 110, 105, 116, 105, 122, 101], by simpa [stmtL] using h, by decide, by decide⟩
    obtain ⟨k1, k2, k3⟩ := key_at h0 hn (by rw [hy]; rcases h1 with rfl | rfl <;> decide)
    obtain ⟨n1, n2, n3⟩ := h0.step.name h2.1
    refine ⟨k1, i + 3, ?_, h0.step.step.step⟩
    unfold stmtM
    rw [if_neg (by rw [k2]; decide), k3, hy]
    dsimp only
    rw [if_neg (by omega), if_neg (by omega), if_pos h1]
    show (PStmt.mk op (nameV T ⟨i + 1, 0⟩) [] [], endM T (nameM T ⟨i + 1, 0⟩)) = _
    rw [n2, n3, h0.step.step.endM]
  by_cases h1 : op = 8
  · subst h1
    have h2 : d.isEmpty = true ∧ us.length = 1 ∧ ts.length = 2 := by simpa [opB] using ho
    obtain rfl : d = [] := isEmpty_nil h2.1
    obtain ⟨x, rfl⟩ := one_of_length h2.2.1
    obtain ⟨y, z, rfl⟩ := two_of_length h2.2.2
    have h0 : AtT T i (word [98, 114, 97, 110, 99, 104] :: word x :: word y :: word z :: endT :: l) := by simpa [stmtL] using h
    obtain ⟨k1, k2, k3⟩ := key_at h0 (by decide) (by decide)
    obtain ⟨n1, n2, n3⟩ := h0.step.name (hu x (by simp))
    obtain ⟨m1, m2, m3⟩ := h0.step.step.name (ht y (by simp))
    obtain ⟨o1, o2, o3⟩ := h0.step.step.step.name (ht z (by simp))
    refine ⟨k1, i + 5, ?_, h0.step.step.step.step.step⟩
    unfold stmtM
    rw [if_neg (by rw [k2]; decide), k3]
    dsimp only
    rw [if_neg (by decide), if_neg (by decide), if_neg (by decide), if_neg (by decide), if_pos (by decide)]
    show (PStmt.mk 8 [] [nameV T ⟨i + 1, 0⟩] [nameV T (nameM T ⟨i + 1, 0⟩), nameV T (nameM T (nameM T ⟨i + 1, 0⟩))], endM T (nameM T (nameM T (nameM T ⟨i + 1, 0⟩)))) = _
    rw [n2, m2, o2, n3, m3, o3, h0.step.step.step.step.endM]
  by_cases h1 : op = 9
  · subst h1
    have h2 : d.isEmpty = true ∧ us.length = 0 ∧ ts.length = 0 := by simpa [opB] using ho
    obtain rfl : d = [] := isEmpty_nil h2.1
    obtain rfl : us = [] := List.length_eq_zero_iff.1 h2.2.1
    obtain rfl : ts = [] := List.length_eq_zero_iff.1 h2.2.2
    have h0 : AtT T i (word [114, 101, 116, 117, 114, 110] :: endT :: l) := by simpa [stmtL] using h
    obtain ⟨k1, k2, k3⟩ := key_at h0 (by decide) (by decide)
    refine ⟨k1, i + 2, ?_, h0.step.step⟩
    unfold stmtM
    rw [if_neg (by rw [k2]; decide), k3]
    dsimp only
    rw [if_neg (by decide), if_neg (by decide), if_neg (by decide), if_neg (by decide), if_neg (by decide)]
    show (PStmt.mk (opOf [114, 101, 116, 117, 114, 110]) [] [] [], endM T ⟨i + 1, 0⟩) = _
    rw [h0.step.endM]
    rfl
  · unfold opB at ho
    rw [if_neg (by assumption), if_neg (by assumption), if_neg (by assumption), if_neg (by assumption), if_neg (by assumption), if_neg (by assumption), if_neg (by assumption)] at ho
    cases ho

def tokS (s : PStmt) : List KT := stmtL s ++ [endT]
def tokB (b : PBlock) : List KT := [word kBlock, word b.name, endT] ++ (b.stmts.map tokS).flatten
def tokF (f : PFunc) : List KT := [word kFunc, word f.name, endT] ++ ((f.blocks.map tokB).flatten ++ [word kEnd, endT])
/-- What may stand behind statements: nothing, or one of three keywords. -/
def KeyIn (ks : List Str) (l : List KT) : Prop := l = [] ∨ ∃ x r, x ∈ ks ∧ l = word x :: r
theorem stop_starts {T : List Tok} {j : Nat} {l : List KT} (h : KeyIn [kBlock, kEnd, kFunc] l) (hj : AtT T j l) : startsB T ⟨j, 0⟩ = false := by
  rcases h with rfl | ⟨x, r, hx, rfl⟩
  · unfold startsB isN; rw [hj.next_nil]; rfl
  · rw [hj.starts]
    simp only [List.mem_cons, List.not_mem_nil, or_false] at hx
    rcases hx with rfl | rfl | rfl <;> decide
theorem stop_word {T : List Tok} {j : Nat} {l : List KT} {ks : List Str} {w : Str} (h : KeyIn ks l) (hw : w ∉ ks) (hj : AtT T j l) : isW T w ⟨j, 0⟩ = false := by
  rcases h with rfl | ⟨x, r, hx, rfl⟩
  · unfold isW; rw [hj.next_nil]; rfl
  · rw [hj.isW]
    have : x ≠ w := fun e => hw (e ▸ hx)
    simp [word, this]
theorem stmts_at {T : List Tok} {l : List KT} (hl : KeyIn [kBlock, kEnd, kFunc] l) : ∀ (ss : List PStmt) (m : Nat) (acc : List PStmt) (i : Nat), AtT T i ((ss.map tokS).flatten ++ l) → (∀ s ∈ ss, stmtB s = true) → ss.length ≤ m →
    ∃ j, stmtsM T m acc ⟨i, 0⟩ = (acc ++ ss, ⟨j, 0⟩) ∧ AtT T j l
  | [], m, acc, i, h, _, _ => by
    have h1 := stop_starts hl h
    refine ⟨i, ?_, h⟩
    cases m <;> simp [stmtsM, h1]
  | s :: ss, 0, acc, i, _, _, hm => by simp at hm
  | s :: ss, m + 1, acc, i, h, hs, hm => by
    have h0 : AtT T i (stmtL s ++ endT :: ((ss.map tokS).flatten ++ l)) := by simpa [tokS] using h
    obtain ⟨k1, j, e, hj⟩ := stmt_at (hs s List.mem_cons_self) h0
    obtain ⟨j2, e2, hj2⟩ := stmts_at hl ss m (acc ++ [s]) j hj (fun y hy => hs y (List.mem_cons_of_mem _ hy)) (by simp at hm; omega)
    refine ⟨j2, ?_, hj2⟩
    rw [stmtsM, if_pos k1, e]
    show stmtsM T m (acc ++ [s]) ⟨j, 0⟩ = _
    rw [e2]
    simp
theorem head_at {T : List Tok} {i : Nat} {w x : Str} {l : List KT} (h : AtT T i (word w :: word x :: endT :: l)) (hx : nameB x = true) : headM T w ⟨i, 0⟩ = ⟨i + 3, 0⟩ ∧ headV T w ⟨i, 0⟩ = x ∧ AtT T (i + 3) l := by
  obtain ⟨n1, n2, n3⟩ := h.step.name hx
  unfold headM headV
  rw [h.wordM, n2, n3]
  exact ⟨h.step.step.endM, rfl, h.step.step.step⟩
theorem block_at {T : List Tok} {i : Nat} {b : PBlock} {l : List KT} (hl : KeyIn [kBlock, kEnd, kFunc] l) (hb : blockB b = true) (h : AtT T i (tokB b ++ l)) :
    ∃ j, blockM T ⟨i, 0⟩ = (b, ⟨j, 0⟩) ∧ AtT T j l := by
  obtain ⟨hn, h1, h32, hs⟩ := blockB_parts hb
  have h0 : AtT T i (word kBlock :: word b.name :: endT :: ((b.stmts.map tokS).flatten ++ l)) := by simpa [tokB] using h
  obtain ⟨e1, e2, h2⟩ := head_at h0 hn
  obtain ⟨j, e3, hj⟩ := stmts_at hl b.stmts 32 [] (i + 3) h2 hs h32
  refine ⟨j, ?_, hj⟩
  have k1 : startsB T ⟨i + 3, 0⟩ = true := by
    cases hb2 : b.stmts with
    | nil => rw [hb2] at h1; simp at h1
    | cons s ss =>
      rw [hb2] at h2
      have h4 : AtT T (i + 3) (stmtL s ++ endT :: ((ss.map tokS).flatten ++ l)) := by simpa [tokS] using h2
      exact (stmt_at (hs s (by rw [hb2]; exact List.mem_cons_self)) h4).1
  unfold blockM
  rw [e1, e2]
  dsimp only
  rw [if_pos k1, e3]
  rfl
theorem blocks_at {T : List Tok} {l : List KT} (hl : KeyIn [kEnd, kFunc] l) : ∀ (bs : List PBlock) (m : Nat) (acc : List PBlock) (i : Nat), AtT T i ((bs.map tokB).flatten ++ l) → (∀ b ∈ bs, blockB b = true) → bs.length ≤ m →
    ∃ j, blocksM T m acc ⟨i, 0⟩ = (acc ++ bs, ⟨j, 0⟩) ∧ AtT T j l
  | [], m, acc, i, h, _, _ => by
    have h1 := stop_word (w := kBlock) hl (by decide) h
    refine ⟨i, ?_, h⟩
    cases m <;> simp [blocksM, h1]
  | b :: bs, 0, acc, i, _, _, hm => by simp at hm
  | b :: bs, m + 1, acc, i, h, hs, hm => by
    have h0 : AtT T i (tokB b ++ ((bs.map tokB).flatten ++ l)) := by simpa using h
    have hk : KeyIn [kBlock, kEnd, kFunc] ((bs.map tokB).flatten ++ l) := by
      cases bs with
      | nil =>
        rcases hl with rfl | ⟨x, r, hx, rfl⟩
        · exact .inl rfl
        · exact .inr ⟨x, r, List.mem_cons_of_mem _ hx, rfl⟩
      | cons c cs => exact .inr ⟨kBlock, _, List.mem_cons_self, rfl⟩
    obtain ⟨j, e, hj⟩ := block_at hk (hs b List.mem_cons_self) h0
    have k1 : isW T kBlock ⟨i, 0⟩ = true := by rw [AtT.isW (t := word kBlock) h0]; rfl
    obtain ⟨j2, e2, hj2⟩ := blocks_at hl bs m (acc ++ [b]) j hj (fun y hy => hs y (List.mem_cons_of_mem _ hy)) (by simp at hm; omega)
    refine ⟨j2, ?_, hj2⟩
    rw [blocksM, if_pos k1, e]
    show blocksM T m (acc ++ [b]) ⟨j, 0⟩ = _
    rw [e2]
    simp
theorem func_at {T : List Tok} {i : Nat} {f : PFunc} {l : List KT} (hf : funcB f = true) (h : AtT T i (tokF f ++ l)) :
    ∃ j, funcM T ⟨i, 0⟩ = (f, ⟨j, 0⟩) ∧ AtT T j l := by
  obtain ⟨hn, h1, h16, hs⟩ := funcB_parts hf
  have h0 : AtT T i (word kFunc :: word f.name :: endT :: ((f.blocks.map tokB).flatten ++ (word kEnd :: endT :: l))) := by simpa [tokF] using h
  obtain ⟨e1, e2, h2⟩ := head_at h0 hn
  obtain ⟨j, e3, hj⟩ := blocks_at (.inr ⟨kEnd, _, by simp, rfl⟩) f.blocks 16 [] (i + 3) h2 hs h16
  refine ⟨j + 2, ?_, hj.step.step⟩
  have k1 : isW T kBlock ⟨i + 3, 0⟩ = true := by
    cases hb2 : f.blocks with
    | nil => rw [hb2] at h1; simp at h1
    | cons s ss =>
      rw [hb2] at h2
      rw [AtT.isW (t := word kBlock) h2]; rfl
  unfold funcM
  rw [e1, e2]
  dsimp only
  rw [if_pos k1, e3]
  dsimp only
  rw [hj.wordM, hj.step.endM]
  rfl
theorem funcs_at {T : List Tok} : ∀ (fs : List PFunc) (m : Nat) (acc : List PFunc) (i : Nat), AtT T i (fs.map tokF).flatten → (∀ f ∈ fs, funcB f = true) → fs.length ≤ m →
    ∃ j, funcsM T m acc ⟨i, 0⟩ = (acc ++ fs, ⟨j, 0⟩) ∧ AtT T j []
  | [], m, acc, i, h, _, _ => by
    have h1 := stop_word (w := kFunc) (ks := []) (l := []) (.inl rfl) (by decide) h
    refine ⟨i, ?_, h⟩
    cases m <;> simp [funcsM, h1]
  | f :: fs, 0, acc, i, _, _, hm => by simp at hm
  | f :: fs, m + 1, acc, i, h, hs, hm => by
    have h0 : AtT T i (tokF f ++ (fs.map tokF).flatten) := by simpa using h
    obtain ⟨j, e, hj⟩ := func_at (hs f List.mem_cons_self) h0
    have k1 : isW T kFunc ⟨i, 0⟩ = true := by rw [AtT.isW (t := word kFunc) h0]; rfl
    obtain ⟨j2, e2, hj2⟩ := funcs_at fs m (acc ++ [f]) j hj (fun y hy => hs y (List.mem_cons_of_mem _ hy)) (by simp at hm; omega)
    refine ⟨j2, ?_, hj2⟩
    rw [funcsM, if_pos k1, e]
    show funcsM T m (acc ++ [f]) ⟨j, 0⟩ = _
    rw [e2]
    simp
theorem toksB_eq (b : PBlock) : ((blockL b).map fun l => l ++ [endT]).flatten = tokB b := by
  unfold blockL tokB tokS
  simp [kBlock, Function.comp_def]
theorem flat_flat {α β γ : Type} (g : α → List β) (h : β → List γ) : ∀ l : List α, (((l.map g).flatten).map h).flatten = (l.map fun x => ((g x).map h).flatten).flatten
  | [] => rfl
  | x :: l => by rw [List.map_cons, List.flatten_cons, List.map_append, List.flatten_append, flat_flat g h l]; rfl
theorem toksF_eq (f : PFunc) : ((funcL f).map fun l => l ++ [endT]).flatten = tokF f := by
  unfold funcL tokF
  rw [List.map_cons, List.flatten_cons, List.map_append, List.flatten_append, flat_flat]
  simp [kFunc, kEnd, toksB_eq]
theorem toksT_eq (p : List PFunc) : toksT p = (p.map tokF).flatten := by
  unfold toksT progL
  rw [flat_flat]
  exact congrArg List.flatten (List.map_congr_left fun f _ => toksF_eq f)
theorem progM_toks {T : List Tok} {p : List PFunc} (hv : validB p = true) (hT : T.map strip1 = toksT p) : ∃ j, progM T = (p, ⟨j, 0⟩) := by
  obtain ⟨h1, h8, hs⟩ := validB_parts hv
  have h0 : AtT T 0 (p.map tokF).flatten := by unfold AtT; rw [hT, toksT_eq]; rfl
  obtain ⟨j, e, hj⟩ := funcs_at p 8 [] 0 h0 hs h8
  have k1 : isW T kFunc ⟨0, 0⟩ = true := by
    cases p with
    | nil => simp at h1
    | cons f fs => rw [AtT.isW (t := word kFunc) h0]; rfl
  refine ⟨j, ?_⟩
  unfold progM
  dsimp only
  rw [if_pos k1, e]
  dsimp only
  rw [if_neg (by have := hj.nil; omega)]
  rfl
theorem parsed_toks {s : List UInt8} {T : List Tok} {p : List PFunc} (hv : validB p = true) (hs : scanned s = ⟨T, 0, 0, 0⟩) (hT : T.map strip1 = toksT p) : parsed s = ⟨p, 0, 0, 0⟩ := by
  obtain ⟨j, e⟩ := progM_toks hv hT
  unfold parsed
  rw [hs]
  dsimp only
  rw [e, if_neg (by decide)]
  rfl
/-- What is printed is read back. -/
theorem parsed_print {p : List PFunc} (h : GenProg p) : parsed (printT p) = ⟨p, 0, 0, 0⟩ := by
  have hv := gen_valid h
  obtain ⟨T, e1, e2⟩ := (rend_print hv).scanned (print_len h)
  exact parsed_toks hv e1 e2

/-- A line feed at the end adds nothing. -/
theorem drop_line (r : Str) : (r ++ [10]).dropWhile (fun b => b.toNat != 10) = r.dropWhile (fun b => b.toNat != 10) ++ [10] ∧ (r ++ [10]).takeWhile (fun b => b.toNat != 10) = r.takeWhile (fun b => b.toNat != 10) := by
  induction r with
  | nil => exact ⟨rfl, rfl⟩
  | cons c r ih =>
    rw [List.cons_append, List.dropWhile_cons, List.takeWhile_cons, List.dropWhile_cons, List.takeWhile_cons]
    split
    · exact ⟨ih.1, by rw [ih.2]⟩
    · exact ⟨rfl, rfl⟩
theorem drop_part (r : Str) : (r ++ [10]).dropWhile partB = r.dropWhile partB ++ [10] ∧ (r ++ [10]).takeWhile partB = r.takeWhile partB := by
  induction r with
  | nil => exact ⟨rfl, rfl⟩
  | cons c r ih =>
    rw [List.cons_append, List.dropWhile_cons, List.takeWhile_cons, List.dropWhile_cons, List.takeWhile_cons]
    split
    · exact ⟨ih.1, by rw [ih.2]⟩
    · exact ⟨rfl, rfl⟩
theorem lex_tail : ∀ (n : Nat) (l : List UInt8), l.length < n → ∀ (line col : Int) (op : Bool) (acc : List Tok), lex (l ++ [10]) line col op acc = lex l line col op acc
  | 0, _, h => absurd h (Nat.not_lt_zero _)
  | n + 1, [], _ => fun line col op acc => by
    rw [List.nil_append, lex_line (c := 10) rfl]
    rfl
  | n + 1, c :: r, h => fun line col op acc => by
    have hr : r.length < n := by simp at h; omega
    rw [List.cons_append]
    by_cases h1 : c.toNat = 32 ∨ c.toNat = 9
    · rw [lex_space h1, lex_space h1]; exact lex_tail n r hr _ _ _ _
    by_cases h2 : c.toNat = 59
    · rw [lex_semi h2, lex_semi h2]; exact lex_tail n r hr _ _ _ _
    by_cases h3 : c.toNat = 35
    · rw [lex_hash h3, lex_hash h3, (drop_line r).1, (drop_line r).2]
      have := length_dropWhile_le (fun b : UInt8 => b.toNat != 10) r
      exact lex_tail n _ (by omega) _ _ _ _
    by_cases h4 : c.toNat = 10
    · rw [lex_line h4, lex_line h4]; exact lex_tail n r hr _ _ _ _
    by_cases h5 : c.toNat = 61
    · rw [lex_equal h5, lex_equal h5]; exact lex_tail n r hr _ _ _ _
    cases hp : partB c
    · rw [lex_other (by omega) (by omega) h2 h3 h4 h5 hp, lex_other (by omega) (by omega) h2 h3 h4 h5 hp]
    · have e := drop_part (c :: r)
      rw [List.cons_append] at e
      cases hd : isDig (c.toNat : Int)
      · by_cases hl : 16 < ((c :: r).takeWhile partB).length
        · rw [lex_long hp hd (by rw [e.2]; exact hl), lex_long hp hd hl]
        · rw [lex_word hp hd (by rw [e.2]; exact hl), lex_word hp hd hl, e.1, e.2]
          have hlt : ((c :: r).dropWhile partB).length < n := by
            rw [List.dropWhile_cons, if_pos hp]
            have := length_dropWhile_le partB r
            omega
          exact lex_tail n _ hlt _ _ _ _
      · rw [lex_digit hp hd, lex_digit hp hd]
theorem scanned_tail {s : Str} (h : s.length < 4096) : scanned (s ++ [10]) = scanned s := by
  unfold scanned
  rw [if_neg (by simp; omega), if_neg (by omega)]
  exact lex_tail _ s (Nat.lt_succ_self _) _ _ _ _
theorem rend_rest' (sep : Str) (hsep : sep ∈ seps) (ws : List KT) (h : ∀ t ∈ ws, goodT t.1 t.2) {l : List KT} {r : Str} (hr : Rend false l r) : Rend true (ws ++ endT :: l) ((ws.map fun t : KT => 32 :: t.2).flatten ++ (sep ++ r)) := by
  induction ws with
  | nil => exact .inl ⟨rfl, rfl, rfl, [], sep, r, blank_nil, hsep, rfl, hr⟩
  | cons t ws ih =>
    have h1 := h t List.mem_cons_self
    refine .inr ⟨h1, [32], (ws.map fun t : KT => 32 :: t.2).flatten ++ (sep ++ r), fun c hc => ?_, fun _ => by simp, by simp, ih fun x hx => h x (List.mem_cons_of_mem _ hx)⟩
    simp at hc
    rw [hc]
    exact .inl rfl
theorem rend_line' (lead sep : Str) (hlead : blank lead) (hsep : sep ∈ seps) {line : List KT} (h : goodL line) {l : List KT} {r : Str} (hr : Rend false l r) : Rend false (line ++ endT :: l) (lead ++ (joinL line ++ (sep ++ r))) := by
  cases line with
  | nil => exact absurd rfl h.1
  | cons t ws =>
    refine .inr ⟨h.2 t List.mem_cons_self, lead, (ws.map fun t : KT => 32 :: t.2).flatten ++ (sep ++ r), hlead, (fun h => by cases h), by simp [joinL], rend_rest' sep hsep ws (fun x hx => h.2 x (List.mem_cons_of_mem _ hx)) hr⟩
theorem rend_joined : ∀ (L : List (List KT)) (x : List KT) (lead : Str), blank lead → (∀ l ∈ x :: L, goodL l) →
    Rend false (((x :: L).map fun l => l ++ [endT]).flatten) (lead ++ (joinL x ++ ((L.map fun y => [59, 32] ++ joinL y).flatten ++ [10])))
  | [], x, lead, hb, h => by
    have h1 := rend_line' lead [10] hb (by simp [seps]) (h x List.mem_cons_self) (l := []) (r := []) ⟨rfl, rfl⟩
    simpa using h1
  | y :: L, x, lead, hb, h => by
    have h2 := rend_joined L y [32] (by intro c hc; simp at hc; rw [hc]; exact .inl rfl) fun l hl => h l (List.mem_cons_of_mem _ hl)
    have h1 := rend_line' lead [59] hb (by simp [seps]) (h x List.mem_cons_self) h2
    simpa using h1
theorem rend_inline {p : List PFunc} (h : validB p = true) : Rend false (toksT p) (inlineT p ++ [10]) := by
  have hg := progL_good h
  have e : inlineT p = joinT ((progL p).map joinL) := by
    unfold inlineT
    rw [h, progL_join]
    rfl
  rw [e]
  unfold toksT
  cases hp : progL p with
  | nil =>
    have h1 := toks_pos h
    unfold toksT at h1
    rw [hp] at h1
    simp at h1
  | cons x L =>
    rw [hp] at hg
    have h2 := rend_joined L x [] blank_nil hg
    simpa [joinT, Function.comp_def] using h2
theorem inline_len {p : List PFunc} (h : GenProg p) : (inlineT p).length < 4096 := by
  obtain ⟨h1, h2⟩ := prog_lines h
  have e : inlineT p = joinT ((progL p).map joinL) := by
    unfold inlineT
    rw [gen_valid h, progL_join]
    rfl
  rw [e]
  cases hp : progL p with
  | nil => simp [joinT]
  | cons x L =>
    rw [hp] at h1 h2
    have h3 := flat_len (fun l : List KT => [59, 32] ++ joinL l) 19 L fun l hl => by
      have h4 := join_len l
      have h5 := h2 l (List.mem_cons_of_mem _ hl)
      simp
      omega
    have h6 := join_len x
    have h7 := h2 x List.mem_cons_self
    have h8 : L.length ≤ 50 := by simp at h1; omega
    have := Nat.mul_le_mul_right 19 h8
    simp only [List.map_cons, joinT, List.map_map, List.length_append]
    have h9 : (List.map ((fun y => [59, 32] ++ y) ∘ joinL) L).flatten.length ≤ L.length * 19 := h3
    omega
theorem parsed_inline {p : List PFunc} (h : GenProg p) : parsed (inlineT p) = ⟨p, 0, 0, 0⟩ := by
  have hv := gen_valid h
  have hl := inline_len h
  obtain ⟨T, e1, e2⟩ := (rend_inline hv).scanned (by simp; omega)
  rw [scanned_tail hl] at e1
  exact parsed_toks hv e1 e2
end Go.Proofs.YtpnfdmajpkpjoaaDoor

