/- The tokens of printed programs: plain Lean, no program in sight. -/
import Derived.Test.YtahdmekakbagnaaSpP
namespace Go.Proofs.Ytahdmekakbagnaa

def word (x : Str) : KT := (1, x)
def joinL : List KT → Str
  | [] => []
  | t :: ws => t.2 ++ (ws.map fun t : KT => 32 :: t.2).flatten
def stmtL (s : PStmt) : List KT :=
  if s.op = 1 then word s.dfn :: (2, [61]) :: s.uses.map word
  else if s.op = 2 then word [117, 115, 101] :: s.uses.map word
  else if s.op = 3 then word [99, 97, 108, 108] :: s.targets.map word
  else if s.op = 4 then [word [115, 111, 117, 114, 99, 101], word s.dfn]
  else if s.op = 5 then word [115, 105, 110, 107] :: s.uses.map word
  else if s.op = 6 then [word [115, 97, 110, 105, 116, 105, 122, 101], word s.dfn]
  else if s.op = 7 then word [103, 111, 116, 111] :: s.targets.map word
  else if s.op = 8 then word [98, 114, 97, 110, 99, 104] :: (s.uses.map word ++ s.targets.map word)
  else [word [114, 101, 116, 117, 114, 110]]
def blockL (b : PBlock) : List (List KT) := [word [98, 108, 111, 99, 107], word b.name] :: b.stmts.map stmtL
def funcL (f : PFunc) : List (List KT) := [word [102, 117, 110, 99], word f.name] :: ((f.blocks.map blockL).flatten ++ [[word [101, 110, 100]]])
def progL (p : List PFunc) : List (List KT) := (p.map funcL).flatten
def endT : KT := (3, [])
def toksT (p : List PFunc) : List KT := ((progL p).map fun l => l ++ [endT]).flatten

theorem words_eq (l : List Str) : wordsT l = ((l.map word).map fun t : KT => 32 :: t.2).flatten := by
  unfold wordsT
  rw [List.map_map]
  rfl
theorem stmtL_join (s : PStmt) : lineT s = joinL (stmtL s) := by
  unfold lineT stmtL
  split
  · simp [joinL, word, words_eq]
  split
  · simp [joinL, word, words_eq]
  split
  · simp [joinL, word, words_eq]
  split
  · simp [joinL, word]
  split
  · simp [joinL, word, words_eq]
  split
  · simp [joinL, word]
  split
  · simp [joinL, word, words_eq]
  split
  · simp [joinL, word, words_eq]
  · simp [joinL, word]
theorem blockL_join (b : PBlock) : blockLines b = (blockL b).map joinL := by
  unfold blockLines blockL
  rw [List.map_cons, List.map_map]
  congr 1
  · simp [joinL, word]
  · exact List.map_congr_left fun s _ => stmtL_join s
theorem flatten_map_map {α β γ : Type} (g : α → List β) (h : β → γ) : ∀ l : List α, ((l.map g).flatten).map h = (l.map fun x => (g x).map h).flatten
  | [] => rfl
  | x :: l => by simp [flatten_map_map g h l]
theorem funcL_join (f : PFunc) : funcLines f = (funcL f).map joinL := by
  unfold funcLines funcL
  rw [List.map_cons, List.map_append, flatten_map_map]
  congr 1
  · simp [joinL, word]
  · congr 1
    exact congrArg List.flatten (List.map_congr_left fun b _ => blockL_join b)
theorem progL_join (p : List PFunc) : linesT p = (progL p).map joinL := by
  unfold linesT progL
  rw [flatten_map_map]
  exact congrArg List.flatten (List.map_congr_left fun f _ => funcL_join f)

/-- A line of good tokens. -/
def goodL (l : List KT) : Prop := l ≠ [] ∧ ∀ t ∈ l, goodT t.1 t.2
theorem name_good {x : Str} (h : nameB x = true) : goodT 1 x := by
  have hl := nameB_short h
  unfold nameB at h
  simp only [Bool.and_eq_true] at h
  obtain ⟨⟨⟨h1, _⟩, _⟩, h2⟩ := h
  cases x with
  | nil => cases h1
  | cons c r =>
    refine .inl ⟨rfl, c, r, rfl, h2, ?_, hl⟩
    have h3 : isLet (c.toNat : Int) = true := h1
    unfold isLet at h3
    unfold isDig
    simp only [Bool.or_eq_true, Bool.and_eq_true, decide_eq_true_eq] at h3
    simp
    omega
theorem key_good : ∀ x ∈ ([[117, 115, 101], [99, 97, 108, 108], [115, 111, 117, 114, 99, 101], [115, 105, 110, 107], [115, 97, 110, 105, 116, 105, 122, 101], [103, 111, 116, 111], [98, 114, 97, 110, 99, 104], [114, 101, 116, 117, 114, 110], [98, 108, 111, 99, 107], [102, 117, 110, 99], [101, 110, 100]] : List Str), goodT 1 x := by
  intro x h
  simp only [List.mem_cons, List.not_mem_nil, or_false] at h
  rcases h with rfl | rfl | rfl | rfl | rfl | rfl | rfl | rfl | rfl | rfl | rfl <;> exact .inl ⟨rfl, _, _, rfl, by decide, by decide, by decide⟩
theorem words_good {l : List Str} (h : ∀ x ∈ l, nameB x = true) : ∀ t ∈ l.map word, goodT t.1 t.2 := by
  intro t ht
  obtain ⟨x, hx, rfl⟩ := List.mem_map.1 ht
  exact name_good (h x hx)
theorem stmtB_fields {s : PStmt} (h : stmtB s = true) : (∀ x ∈ s.uses, nameB x = true) ∧ (∀ x ∈ s.targets, nameB x = true) ∧ opB s.op (nameB s.dfn) s.dfn.isEmpty s.uses.length s.targets.length = true := by
  unfold stmtB namesB at h
  simp only [Bool.and_eq_true, List.all_eq_true] at h
  exact ⟨h.1.1, h.2.1.1, h.2.2⟩
theorem cons_good {t : KT} {l : List KT} (h1 : goodT t.1 t.2) (h2 : ∀ t ∈ l, goodT t.1 t.2) : goodL (t :: l) := by
  refine ⟨by simp, fun x hx => ?_⟩
  rcases List.mem_cons.1 hx with rfl | hx
  · exact h1
  · exact h2 x hx
theorem stmtL_good {s : PStmt} (h : stmtB s = true) : goodL (stmtL s) := by
  obtain ⟨hu, ht, ho⟩ := stmtB_fields h
  unfold stmtL
  split
  · rename_i h1
    have hd : nameB s.dfn = true := by rw [h1] at ho; simp [opB] at ho; exact ho.1
    exact cons_good (name_good hd) (cons_good (l := s.uses.map word) (t := (2, [61])) (.inr ⟨rfl, rfl⟩) (words_good hu)).2
  split
  · exact cons_good (key_good _ (by simp [word])) (words_good hu)
  split
  · exact cons_good (key_good _ (by simp [word])) (words_good ht)
  split
  · rename_i h1
    have hd : nameB s.dfn = true := by rw [h1] at ho; simp [opB] at ho; exact ho.1
    exact cons_good (key_good _ (by simp [word])) (cons_good (name_good hd) (by simp)).2
  split
  · exact cons_good (key_good _ (by simp [word])) (words_good hu)
  split
  · rename_i h1
    have hd : nameB s.dfn = true := by rw [h1] at ho; simp [opB] at ho; exact ho.1
    exact cons_good (key_good _ (by simp [word])) (cons_good (name_good hd) (by simp)).2
  split
  · exact cons_good (key_good _ (by simp [word])) (words_good ht)
  split
  · refine cons_good (key_good _ (by simp [word])) fun t h => ?_
    rcases List.mem_append.1 h with h | h
    · exact words_good hu t h
    · exact words_good ht t h
  · exact cons_good (key_good _ (by simp [word])) (by simp)
theorem progL_good {p : List PFunc} (h : validB p = true) : ∀ l ∈ progL p, goodL l := by
  obtain ⟨_, _, h4⟩ := validB_parts h
  intro x hx
  unfold progL at hx
  obtain ⟨y, hy, hx⟩ := List.mem_flatten.1 hx
  obtain ⟨f, hf, rfl⟩ := List.mem_map.1 hy
  obtain ⟨h5, _, _, h6⟩ := funcB_parts (h4 f hf)
  rcases List.mem_cons.1 hx with rfl | hx
  · exact cons_good (key_good _ (by simp [word])) (cons_good (name_good h5) (by simp)).2
  rcases List.mem_append.1 hx with hx | hx
  · obtain ⟨y, hy, hx⟩ := List.mem_flatten.1 hx
    obtain ⟨b, hb, rfl⟩ := List.mem_map.1 hy
    obtain ⟨h7, _, _, h8⟩ := blockB_parts (h6 b hb)
    rcases List.mem_cons.1 hx with rfl | hx
    · exact cons_good (key_good _ (by simp [word])) (cons_good (name_good h7) (by simp)).2
    · obtain ⟨s, hs, rfl⟩ := List.mem_map.1 hx
      exact stmtL_good (h8 s hs)
  · simp at hx
    rw [hx]
    exact cons_good (key_good _ (by simp [word])) (by simp)

theorem blank_nil : blank [] := by
  intro c h
  cases h
theorem rend_rest (ws : List KT) (h : ∀ t ∈ ws, goodT t.1 t.2) {l : List KT} {r : Str} (hr : Rend false l r) : Rend true (ws ++ endT :: l) ((ws.map fun t : KT => 32 :: t.2).flatten ++ (10 :: r)) := by
  induction ws with
  | nil => exact .inl ⟨rfl, rfl, rfl, [], [10], r, blank_nil, by simp [seps], rfl, hr⟩
  | cons t ws ih =>
    have h1 := h t List.mem_cons_self
    refine .inr ⟨h1, [32], (ws.map fun t : KT => 32 :: t.2).flatten ++ (10 :: r), fun c hc => ?_, fun _ => by simp, by simp, ih fun x hx => h x (List.mem_cons_of_mem _ hx)⟩
    simp at hc
    rw [hc]
    exact .inl rfl
theorem rend_line {line : List KT} (h : goodL line) {l : List KT} {r : Str} (hr : Rend false l r) : Rend false (line ++ endT :: l) (joinL line ++ (10 :: r)) := by
  cases line with
  | nil => exact absurd rfl h.1
  | cons t ws =>
    refine .inr ⟨h.2 t List.mem_cons_self, [], (ws.map fun t : KT => 32 :: t.2).flatten ++ (10 :: r), blank_nil, (fun h => by cases h), by simp [joinL], rend_rest ws (fun x hx => h.2 x (List.mem_cons_of_mem _ hx)) hr⟩
theorem rend_lines : ∀ (L : List (List KT)), (∀ l ∈ L, goodL l) → Rend false (L.map fun l => l ++ [endT]).flatten ((L.map fun l => joinL l ++ [10]).flatten)
  | [], _ => ⟨rfl, rfl⟩
  | x :: L, h => by
    have h1 := rend_line (h x List.mem_cons_self) (rend_lines L fun y hy => h y (List.mem_cons_of_mem _ hy))
    simpa using h1
theorem rend_print {p : List PFunc} (h : validB p = true) : Rend false (toksT p) (printT p) := by
  have h1 := rend_lines (progL p) (progL_good h)
  have e : printT p = ((progL p).map fun l => joinL l ++ [10]).flatten := by
    unfold printT
    rw [h, progL_join, List.map_map]
    rfl
  rw [e]
  exact h1

/-- How much the law may write for a line. -/
def lcost (l : List KT) : Nat := (l.map kcost).sum
theorem lcost_words (l : List Str) (h : ∀ x ∈ l, x.length ≤ 1) : lcost (l.map word) ≤ 3 * l.length := by
  induction l with
  | nil => simp [lcost]
  | cons x l ih =>
    have h1 := h x List.mem_cons_self
    have h2 := ih fun y hy => h y (List.mem_cons_of_mem _ hy)
    unfold lcost at *
    simp only [List.map_cons, List.sum_cons, List.length_cons]
    have h3 : kcost (word x) = 2 + x.length + 0 := rfl
    omega
theorem var_one : ∀ v ∈ varNames, v.length ≤ 1 := by decide
theorem func_one : ∀ v ∈ funcNames, v.length ≤ 1 := by decide
theorem block_one : ∀ v ∈ blockNames, v.length ≤ 1 := by decide
theorem lcost_cons (t : KT) (l : List KT) : lcost (t :: l) = kcost t + lcost l := by simp [lcost]
theorem lcost_app (k l : List KT) : lcost (k ++ l) = lcost k + lcost l := by simp [lcost]
theorem kcost_word (x : Str) : kcost (word x) = 2 + x.length := rfl
theorem body_cost {F : Int} {s : PStmt} (h : GenBody F s) : lcost (stmtL s) ≤ 17 := by
  rcases h with ⟨ho, hd, ⟨h1, h2, h3⟩, ht⟩ | ⟨ho, hd, hu, ht⟩ | ⟨ho, hd, ⟨v, hv, hu⟩, ht⟩ | ⟨ho, hd, hu, r, _, n, hn, ht⟩ | ⟨ho, hd, ⟨h1, h2⟩, ht⟩
  · have h4 := lcost_words s.uses fun x hx => var_one x (h3 x hx)
    have e : stmtL s = word [117, 115, 101] :: s.uses.map word := by unfold stmtL; rw [ho]; rfl
    rw [e, lcost_cons, kcost_word]
    simp
    omega
  · have h4 := var_one _ hd
    rcases ho with ho | ho
    · have e : stmtL s = [word [115, 111, 117, 114, 99, 101], word s.dfn] := by unfold stmtL; rw [ho]; rfl
      rw [e, lcost_cons, lcost_cons, kcost_word, kcost_word]
      simp [lcost]
      omega
    · have e : stmtL s = [word [115, 97, 110, 105, 116, 105, 122, 101], word s.dfn] := by unfold stmtL; rw [ho]; rfl
      rw [e, lcost_cons, lcost_cons, kcost_word, kcost_word]
      simp [lcost]
      omega
  · have h4 := var_one _ hv
    have e : stmtL s = [word [115, 105, 110, 107], word v] := by unfold stmtL; rw [ho, hu]; rfl
    rw [e, lcost_cons, lcost_cons, kcost_word, kcost_word]
    simp [lcost]
    omega
  · have h4 := func_one _ (List.mem_of_getElem? hn)
    have e : stmtL s = [word [99, 97, 108, 108], word n] := by unfold stmtL; rw [ho, ht]; rfl
    rw [e, lcost_cons, lcost_cons, kcost_word, kcost_word]
    simp [lcost]
    omega
  · have h4 := lcost_words s.uses fun x hx => var_one x (h2 x hx)
    have h5 := var_one _ hd
    have e : stmtL s = word s.dfn :: (2, [61]) :: s.uses.map word := by unfold stmtL; rw [ho]; rfl
    have e2 : kcost (2, [61]) = 3 := rfl
    rw [e, lcost_cons, lcost_cons, kcost_word, e2]
    omega
theorem term_cost {K : Int} {s : PStmt} (h : GenTerm K s) : lcost (stmtL s) ≤ 17 := by
  rcases h with ⟨ho, hd, hu, ht⟩ | ⟨ho, hd, hu, r, _, n, hn, ht⟩ | ⟨ho, hd, ⟨v, hv, hu⟩, r, q, _, _, n, m, hn, hm, ht⟩
  · have e : stmtL s = [word [114, 101, 116, 117, 114, 110]] := by unfold stmtL; rw [ho]; rfl
    rw [e, lcost_cons, kcost_word]
    simp [lcost]
  · have h4 := block_one _ (List.mem_of_getElem? hn)
    have e : stmtL s = [word [103, 111, 116, 111], word n] := by unfold stmtL; rw [ho, ht]; rfl
    rw [e, lcost_cons, lcost_cons, kcost_word, kcost_word]
    simp [lcost]
    omega
  · have h4 := block_one _ (List.mem_of_getElem? hn)
    have h5 := block_one _ (List.mem_of_getElem? hm)
    have h6 := var_one _ hv
    have e : stmtL s = [word [98, 114, 97, 110, 99, 104], word v, word n, word m] := by unfold stmtL; rw [ho, hu, ht]; rfl
    rw [e, lcost_cons, lcost_cons, lcost_cons, lcost_cons, kcost_word, kcost_word, kcost_word, kcost_word]
    simp [lcost]
    omega
theorem block_lines {F K : Int} {k : Nat} {b : PBlock} (h : GenBlock F K k b) : (blockL b).length ≤ 5 ∧ ∀ l ∈ blockL b, lcost l ≤ 17 := by
  obtain ⟨hn, l, t, e, hl, h1, h2⟩ := h
  have h4 := block_one _ (List.mem_of_getElem? hn)
  refine ⟨by simp [blockL, e]; omega, fun x hx => ?_⟩
  rcases List.mem_cons.1 hx with rfl | hx
  · rw [lcost_cons, lcost_cons, kcost_word, kcost_word]
    simp [lcost]
    omega
  · rw [e] at hx
    obtain ⟨s, hs, rfl⟩ := List.mem_map.1 hx
    rcases List.mem_append.1 hs with hs | hs
    · exact body_cost (h1 s hs)
    · simp at hs; rw [hs]; exact term_cost h2
theorem func_lines {F : Int} {i : Nat} {f : PFunc} (h : GenFunc F i f) : (funcL f).length ≤ 17 ∧ ∀ l ∈ funcL f, lcost l ≤ 17 := by
  obtain ⟨hn, h1, h2, h3⟩ := h
  have h4 := func_one _ (List.mem_of_getElem? hn)
  have h5 := flat_len blockL 5 f.blocks fun b hb => by obtain ⟨k, hk⟩ := List.mem_iff_getElem?.1 hb; exact (block_lines (h3 k b hk)).1
  refine ⟨by simp only [funcL, List.length_cons, List.length_append, List.length_nil]; omega, fun x hx => ?_⟩
  rcases List.mem_cons.1 hx with rfl | hx
  · rw [lcost_cons, lcost_cons, kcost_word, kcost_word]
    simp [lcost]
    omega
  rcases List.mem_append.1 hx with hx | hx
  · obtain ⟨y, hy, hx⟩ := List.mem_flatten.1 hx
    obtain ⟨b, hb, rfl⟩ := List.mem_map.1 hy
    obtain ⟨k, hk⟩ := List.mem_iff_getElem?.1 hb
    exact (block_lines (h3 k b hk)).2 x hx
  · simp at hx
    rw [hx, lcost_cons, kcost_word]
    simp [lcost]
theorem prog_lines {p : List PFunc} (h : GenProg p) : (progL p).length ≤ 51 ∧ ∀ l ∈ progL p, lcost l ≤ 17 := by
  obtain ⟨h1, h2, h3⟩ := h
  have h5 := flat_len funcL 17 p fun b hb => by obtain ⟨k, hk⟩ := List.mem_iff_getElem?.1 hb; exact (func_lines (h3 k b hk)).1
  refine ⟨by unfold progL; omega, fun x hx => ?_⟩
  unfold progL at hx
  obtain ⟨y, hy, hx⟩ := List.mem_flatten.1 hx
  obtain ⟨b, hb, rfl⟩ := List.mem_map.1 hy
  obtain ⟨k, hk⟩ := List.mem_iff_getElem?.1 hb
  exact (func_lines (h3 k b hk)).2 x hx
theorem lines_cost : ∀ (L : List (List KT)), (∀ l ∈ L, lcost l ≤ 17) → lcost (L.map fun l => l ++ [endT]).flatten ≤ L.length * 38
  | [], _ => by simp [lcost]
  | x :: L, h => by
    have h1 := h x List.mem_cons_self
    have h2 := lines_cost L fun y hy => h y (List.mem_cons_of_mem _ hy)
    have e : lcost [endT] = 21 := rfl
    rw [List.map_cons, List.flatten_cons, lcost_app, lcost_app, List.length_cons, Nat.succ_mul, e]
    omega
theorem toks_cost {p : List PFunc} (h : GenProg p) : lcost (toksT p) ≤ 1938 := by
  obtain ⟨h1, h2⟩ := prog_lines h
  have h3 := lines_cost (progL p) h2
  have := Nat.mul_le_mul_right 38 h1
  unfold toksT
  omega
theorem rest_len (ws : List KT) : ((ws.map fun t : KT => 32 :: t.2).flatten).length ≤ lcost ws := by
  induction ws with
  | nil => simp
  | cons t ws ih =>
    have h1 : 1 + t.2.length ≤ kcost t := by unfold kcost; omega
    rw [lcost_cons, List.map_cons, List.flatten_cons, List.length_append, List.length_cons]
    omega
theorem join_len (l : List KT) : (joinL l).length ≤ lcost l := by
  cases l with
  | nil => simp [joinL]
  | cons t ws =>
    have h1 : t.2.length ≤ kcost t := by unfold kcost; omega
    have h2 := rest_len ws
    rw [lcost_cons]
    unfold joinL
    rw [List.length_append]
    omega
theorem print_len {p : List PFunc} (h : GenProg p) : (printT p).length ≤ 4096 := by
  obtain ⟨h1, h2⟩ := prog_lines h
  have e : printT p = ((progL p).map fun l => joinL l ++ [10]).flatten := by
    unfold printT
    rw [gen_valid h, progL_join, List.map_map]
    rfl
  rw [e]
  have h3 := flat_len (fun l : List KT => joinL l ++ [10]) 18 (progL p) fun l hl => by
    have h4 := join_len l
    have h5 := h2 l hl
    simp
    omega
  have := Nat.mul_le_mul_right 18 h1
  omega
theorem toks_pos {p : List PFunc} (h : validB p = true) : 0 < (toksT p).length := by
  obtain ⟨h1, _, _⟩ := validB_parts h
  cases p with
  | nil => simp at h1
  | cons f p => simp [toksT, progL, funcL]
end Go.Proofs.Ytahdmekakbagnaa
