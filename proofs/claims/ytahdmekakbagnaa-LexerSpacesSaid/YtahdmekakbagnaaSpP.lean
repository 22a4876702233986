/- Spaces, comments and empty lines do not change the tokens, apart from positions: plain Lean, no program in sight. -/
import Derived.Test.YtahdmekakbagnaaLexP
import Derived.Test.YtahdmekakbagnaaGenV
namespace Go.Proofs.Ytahdmekakbagnaa

/-- A token without its position. -/
abbrev KT := Int × Str
def strip1 (t : Tok) : KT := (t.kind, t.text)
def blank (ws : Str) : Prop := ∀ c ∈ ws, c.toNat = 32 ∨ c.toNat = 9
/-- What may end a line. -/
def seps : List Str := [[10], [59], [32, 35, 32, 99, 111, 109, 109, 101, 110, 116, 32, 59, 32, 120, 32, 61, 32, 121, 10], [59, 59, 10, 10], [10, 59, 35, 10]]
def goodW (x : Str) : Prop := ∃ c r, x = c :: r ∧ x.all partB = true ∧ isDig (c.toNat : Int) = false ∧ x.length ≤ 16
def goodT (k : Int) (x : Str) : Prop := (k = 1 ∧ goodW x) ∨ (k = 2 ∧ x = [61])
/-- s is a text of the tokens l, where a line is open or not. -/
def Rend : Bool → List KT → Str → Prop
  | op, [], s => op = false ∧ s = []
  | op, (k, x) :: l, s => (k = 3 ∧ x = [] ∧ op = true ∧ ∃ ws sep r, blank ws ∧ sep ∈ seps ∧ s = ws ++ (sep ++ r) ∧ Rend false l r) ∨
    (goodT k x ∧ ∃ ws r, blank ws ∧ (op = true → ws ≠ []) ∧ s = ws ++ (x ++ r) ∧ Rend true l r)

def headOk (s : Str) : Prop := s = [] ∨ ∃ c r, s = c :: r ∧ partB c = false
theorem blank_head {ws r : Str} (h : blank ws) (hne : ws ≠ []) : headOk (ws ++ r) := by
  cases ws with
  | nil => exact absurd rfl hne
  | cons c t =>
    refine .inr ⟨c, t ++ r, rfl, ?_⟩
    cases hp : partB c
    · rfl
    · have h1 := part_other hp
      have h2 := h c List.mem_cons_self
      omega
theorem seps_head : ∀ sep ∈ seps, ∃ c r, sep = c :: r ∧ partB c = false := by
  intro sep h
  simp only [seps, List.mem_cons, List.not_mem_nil, or_false] at h
  rcases h with rfl | rfl | rfl | rfl | rfl <;> exact ⟨_, _, rfl, by decide⟩
theorem Rend.head {l : List KT} {s : Str} (h : Rend true l s) : headOk s := by
  cases l with
  | nil => exact .inl h.2
  | cons t l =>
    obtain ⟨k, x⟩ := t
    rcases h with ⟨_, _, _, ws, sep, r, h1, h2, rfl, _⟩ | ⟨_, ws, r, h1, h2, rfl, _⟩
    · cases ws with
      | nil =>
        obtain ⟨c, t, rfl, hp⟩ := seps_head sep h2
        exact .inr ⟨c, t ++ r, rfl, hp⟩
      | cons c t => exact blank_head h1 (by simp)
    · exact blank_head h1 (h2 rfl)

theorem lex_blank (ws : Str) : ∀ (r : Str) (line col : Int) (op : Bool) (acc : List Tok), blank ws → ∃ col', lex (ws ++ r) line col op acc = lex r line col' op acc := by
  induction ws with
  | nil => intro r line col op acc _; exact ⟨col, rfl⟩
  | cons c t ih =>
    intro r line col op acc h
    obtain ⟨col', e⟩ := ih r line (col + 1) op acc fun x hx => h x (List.mem_cons_of_mem _ hx)
    exact ⟨col', (lex_space (h c List.mem_cons_self)).trans e⟩
theorem take_part (x s : Str) (hx : x.all partB = true) (hs : headOk s) : (x ++ s).takeWhile partB = x ∧ (x ++ s).dropWhile partB = s := by
  induction x with
  | nil =>
    rcases hs with rfl | ⟨c, r, rfl, hp⟩
    · exact ⟨rfl, rfl⟩
    · simp [List.takeWhile_cons, List.dropWhile_cons, hp]
  | cons c t ih =>
    simp only [List.all_cons, Bool.and_eq_true] at hx
    obtain ⟨h1, h2⟩ := ih hx.2
    simp [hx.1, h1, h2]

theorem lex_comment (x r : Str) (hx : ∀ c ∈ x, (c.toNat != 10) = true) (line col : Int) (op : Bool) (acc : List Tok) : ∃ col', lex (35 :: (x ++ 10 :: r)) line col op acc = lex (10 :: r) line col' false (fin op line col acc) := by
  have h := lex_hash (c := 35) (r := x ++ 10 :: r) (line := line) (col := col) (op := op) (acc := acc) rfl
  have e : ∀ y : Str, (∀ c ∈ y, (c.toNat != 10) = true) → (y ++ 10 :: r).dropWhile (fun b => b.toNat != 10) = 10 :: r := by
    intro y
    induction y with
    | nil => intro _; rfl
    | cons c t ih =>
      intro hy
      have := hy c List.mem_cons_self
      rw [List.cons_append, List.dropWhile_cons, if_pos this]
      exact ih fun z hz => hy z (List.mem_cons_of_mem _ hz)
  rw [e x hx] at h
  exact ⟨_, h⟩
theorem lex_sep (sep : Str) (h : sep ∈ seps) (r : Str) (line col : Int) (acc : List Tok) : ∃ line' col' p q, lex (sep ++ r) line col true acc = lex r line' col' false (acc ++ [⟨3, [], p, q⟩]) := by
  have c10 : (10 : UInt8).toNat = 10 := rfl
  have c59 : (59 : UInt8).toNat = 59 := rfl
  have c32 : (32 : UInt8).toNat = 32 := rfl
  simp only [seps, List.mem_cons, List.not_mem_nil, or_false] at h
  rcases h with rfl | rfl | rfl | rfl | rfl
  · exact ⟨_, _, _, _, lex_line c10⟩
  · exact ⟨_, _, _, _, lex_semi c59⟩
  · obtain ⟨col', e2⟩ := lex_comment [32, 99, 111, 109, 109, 101, 110, 116, 32, 59, 32, 120, 32, 61, 32, 121] r (by decide) line (col + 1) true acc
    exact ⟨_, _, _, _, (lex_space (c := 32) (.inl c32)).trans (e2.trans (lex_line c10))⟩
  · exact ⟨_, _, _, _, (lex_semi c59).trans ((lex_semi c59).trans ((lex_line c10).trans (lex_line c10)))⟩
  · obtain ⟨col', e2⟩ := lex_comment [] r (by decide) (line + 1) (1 + 1) false (acc ++ [⟨3, [], line, col⟩])
    exact ⟨_, _, _, _, (lex_line (c := 10) c10).trans ((lex_semi (c := 59) c59).trans (e2.trans (lex_line c10)))⟩

/-- What is scanned of a text of the tokens l. -/
theorem Rend.lex {op : Bool} {l : List KT} {s : Str} (h : Rend op l s) : ∀ (line col : Int) (acc : List Tok), ∃ toks, Go.Proofs.Ytahdmekakbagnaa.lex s line col op acc = ⟨toks, 0, 0, 0⟩ ∧ toks.map strip1 = acc.map strip1 ++ l := by
  induction l generalizing op s with
  | nil =>
    obtain ⟨rfl, rfl⟩ := h
    intro line col acc
    exact ⟨acc, rfl, by simp⟩
  | cons t l ih =>
    obtain ⟨k, x⟩ := t
    intro line col acc
    rcases h with ⟨rfl, rfl, rfl, ws, sep, r, h1, h2, rfl, h3⟩ | ⟨hg, ws, r, h1, h2, rfl, h3⟩
    · obtain ⟨col', e1⟩ := lex_blank ws (sep ++ r) line col true acc h1
      obtain ⟨line2, col2, p, q, e2⟩ := lex_sep sep h2 r line col' acc
      obtain ⟨toks, e3, e4⟩ := ih h3 line2 col2 (acc ++ [⟨3, [], p, q⟩])
      exact ⟨toks, e1.trans (e2.trans e3), by rw [e4]; simp [strip1]⟩
    · obtain ⟨col', e1⟩ := lex_blank ws (x ++ r) line col op acc h1
      rcases hg with ⟨rfl, c, t, rfl, ha, hd, hl⟩ | ⟨rfl, rfl⟩
      · obtain ⟨e5, e6⟩ := take_part (c :: t) r ha h3.head
        have hc : partB c = true := by simp only [List.all_cons, Bool.and_eq_true] at ha; exact ha.1
        have e2 := lex_word (c := c) (r := t ++ r) (line := line) (col := col') (op := op) (acc := acc) hc hd (by
          have : (c :: (t ++ r)) = c :: t ++ r := rfl
          rw [this, e5]; omega)
        have e7 : (c :: (t ++ r)) = c :: t ++ r := rfl
        rw [e7, e5, e6] at e2
        obtain ⟨toks, e3, e4⟩ := ih h3 line (col' + ((c :: t).length : Int)) (acc ++ [⟨1, c :: t, line, col'⟩])
        exact ⟨toks, e1.trans (e2.trans e3), by rw [e4]; simp [strip1]⟩
      · have e2 := lex_equal (c := 61) (r := r) (line := line) (col := col') (op := op) (acc := acc) rfl
        obtain ⟨toks, e3, e4⟩ := ih h3 line (col' + 1) (acc ++ [⟨2, [61], line, col'⟩])
        exact ⟨toks, e1.trans (e2.trans e3), by rw [e4]; simp [strip1]⟩

theorem Rend.scanned {l : List KT} {s : Str} (h : Rend false l s) (hs : s.length ≤ 4096) : ∃ toks, Go.Proofs.Ytahdmekakbagnaa.scanned s = ⟨toks, 0, 0, 0⟩ ∧ toks.map strip1 = l := by
  obtain ⟨toks, e1, e2⟩ := h.lex 1 1 []
  refine ⟨toks, ?_, by simpa using e2⟩
  unfold Go.Proofs.Ytahdmekakbagnaa.scanned
  rw [if_neg (by omega)]
  exact e1

/-- What the law writes for a token. -/
def Piece (t : KT) (s : Str) : Prop := ∃ ws ∈ ([[32], [9, 32], [32, 32]] : List Str), ∃ sep, (t.1 = 3 → sep ∈ seps) ∧ (t.1 ≠ 3 → sep = []) ∧ s = ws ++ (t.2 ++ sep)
theorem blank3 : ∀ ws ∈ ([[32], [9, 32], [32, 32]] : List Str), blank ws ∧ ws ≠ [] ∧ ws.length ≤ 2 := by
  intro ws h
  simp only [List.mem_cons, List.not_mem_nil, or_false] at h
  rcases h with rfl | rfl | rfl <;> exact ⟨by unfold blank; decide, by decide, by decide⟩
/-- Texts of the pieces of tokens that have some text. -/
theorem Rend.pieces {op : Bool} {l : List KT} {s : Str} (h : Rend op l s) : ∀ {ps : List Str}, ps.length = l.length → (∀ (i : Nat) (t : KT) (p : Str), l[i]? = some t → ps[i]? = some p → Piece t p) → Rend op l ps.flatten := by
  induction l generalizing op s with
  | nil =>
    intro ps hl _
    obtain rfl : ps = [] := List.length_eq_zero_iff.1 hl
    exact ⟨h.1, rfl⟩
  | cons t l ih =>
    obtain ⟨k, x⟩ := t
    intro ps hl hp
    cases ps with
    | nil => simp at hl
    | cons p ps =>
      have hp1 := hp 0 (k, x) p rfl rfl
      have hp2 : ∀ (i : Nat) (t : KT) (q : Str), l[i]? = some t → ps[i]? = some q → Piece t q := fun i t q h1 h2 => hp (i + 1) t q h1 h2
      obtain ⟨ws, hws, sep, h5, h6, rfl⟩ := hp1
      obtain ⟨b1, b2, _⟩ := blank3 ws hws
      rcases h with ⟨rfl, rfl, rfl, _, _, _, _, _, _, h3⟩ | ⟨hg, _, _, _, _, _, h3⟩
      · exact .inl ⟨rfl, rfl, rfl, ws, sep, ps.flatten, b1, h5 rfl, by simp, ih h3 (by simpa using hl) hp2⟩
      · have hk : k ≠ 3 := by rcases hg with ⟨rfl, _⟩ | ⟨rfl, _⟩ <;> decide
        rw [h6 hk]
        exact .inr ⟨hg, ws, ps.flatten, b1, fun _ => b2, by simp, ih h3 (by simpa using hl) hp2⟩

def kcost (t : KT) : Nat := 2 + t.2.length + (if t.1 = 3 then 19 else 0)
theorem seps_len : ∀ sep ∈ seps, sep.length ≤ 19 := by decide
theorem piece_len {t : KT} {p : Str} (h : Piece t p) : p.length ≤ kcost t := by
  obtain ⟨ws, hws, sep, h5, h6, rfl⟩ := h
  have := (blank3 ws hws).2.2
  unfold kcost
  rw [List.length_append, List.length_append]
  split
  · have := seps_len sep (h5 ‹_›)
    omega
  · rw [h6 ‹_›]
    simp
    omega
theorem pieces_len {l : List KT} : ∀ {ps : List Str}, ps.length = l.length → (∀ (i : Nat) (t : KT) (p : Str), l[i]? = some t → ps[i]? = some p → Piece t p) → ps.flatten.length ≤ (l.map kcost).sum := by
  induction l with
  | nil =>
    intro ps hl _
    obtain rfl : ps = [] := List.length_eq_zero_iff.1 hl
    simp
  | cons t l ih =>
    intro ps hl hp
    cases ps with
    | nil => simp at hl
    | cons p ps =>
      have h1 := piece_len (hp 0 t p rfl rfl)
      have h2 := ih (ps := ps) (by simpa using hl) fun i t q h1 h2 => hp (i + 1) t q h1 h2
      rw [List.flatten_cons, List.length_append, List.map_cons, List.sum_cons]
      omega
end Go.Proofs.Ytahdmekakbagnaa
