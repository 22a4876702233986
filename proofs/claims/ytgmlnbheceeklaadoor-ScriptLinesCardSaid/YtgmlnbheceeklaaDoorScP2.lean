/- Operations as lines: plain Lean, no program in sight. -/
import Derived.Test.YtgmlnbheceeklaaDoorNameP
import Derived.Test.YtgmlnbheceeklaaDoorDecN
set_option linter.unusedVariables false
set_option linter.unusedSimpArgs false
set_option linter.unusedSectionVars false
namespace Go.Proofs.YtgmlnbheceeklaaDoor

/-- An operation. -/
structure POp where
  kind : Int
  id : Str
  text : Str
  ana : Int
  node : Int
  n : Int
deriving DecidableEq
def zeroO : POp := ⟨0, [], [], 0, 0, 0⟩
/-- The words of the kinds, of the analyses. -/
def verbsL : List Str := [[], [108, 111, 97, 100], [117, 110, 108, 111, 97, 100], [115, 117, 98, 109, 105, 116], [99, 97, 110, 99, 101, 108], [103, 114, 97, 110, 116], [112, 111, 108, 108], [102, 111, 114, 103, 101, 116], [101, 118, 105, 99, 116], [115, 116, 97, 116, 115]]
def anasL : List Str := [[], [114, 101, 97, 99, 104], [108, 105, 118, 101], [116, 97, 105, 110, 116], [117, 110, 105, 110, 105, 116]]
def anas4 : List Str := [[114, 101, 97, 99, 104], [108, 105, 118, 101], [116, 97, 105, 110, 116], [117, 110, 105, 110, 105, 116]]
/-- A text that a line can hold. -/
def textB (s : Str) : Bool := decide (s ≠ []) && decide (s.length ≤ 4096) && decide (s.head? ≠ some 32) && decide (s.getLast? ≠ some 32) && decide ((10 : UInt8) ∉ s)
def onlyB (o : POp) (id text sub n : Bool) : Bool := (id || decide (o.id = [])) && (text || decide (o.text = [])) && (sub || (decide (o.ana = 0) && decide (o.node = 0))) && (n || decide (o.n = 0))
def rangeB (n a b : Int) : Bool := decide (a ≤ n) && decide (n ≤ b)
/-- Which operations are valid. -/
def opB (o : POp) : Bool :=
  if o.kind = 1 then nameB o.id && textB o.text && onlyB o true true false false
  else if o.kind = 2 ∨ o.kind = 4 ∨ o.kind = 6 ∨ o.kind = 7 then nameB o.id && onlyB o true false false false
  else if o.kind = 3 then nameB o.id && nameB o.text && rangeB o.ana 1 4 && rangeB o.node 0 255 && rangeB o.n 0 3
  else if o.kind = 5 then rangeB o.n 0 1048576 && onlyB o false false false true
  else if o.kind = 8 then rangeB o.n 0 512 && onlyB o false false false true
  else if o.kind = 9 then onlyB o false false false false
  else false
def verbT (k : Int) : Str := (verbsL[k.toNat]?).getD []
def anaT (k : Int) : Str := (anasL[k.toNat]?).getD []
/-- Their lines. -/
def opT (o : POp) : Str :=
  if opB o = true then
    if o.kind = 1 then verbT o.kind ++ [32] ++ o.id ++ [32] ++ o.text
    else if o.kind = 3 then verbT o.kind ++ [32] ++ o.id ++ [32] ++ o.text ++ [32] ++ anaT o.ana ++ [32] ++ dec10 o.node.toNat ++ [32] ++ dec10 o.n.toNat
    else if o.kind = 5 ∨ o.kind = 8 then verbT o.kind ++ [32] ++ dec10 o.n.toNat
    else if o.kind = 9 then verbT o.kind
    else verbT o.kind ++ [32] ++ o.id
  else []
/-- The first word of a line, and what follows the space. -/
def wordS : Str → Str × Str
  | [] => ([], [])
  | c :: r => if c = 32 then ([], r) else (c :: (wordS r).1, (wordS r).2)
def posS : Nat → List Str → Str → Option Nat
  | _, [], _ => none
  | i, x :: r, s => if x = s then some i else posS (i + 1) r s
def atoiVal (r : Str) : Int := match Lib.atoiAll r with | .ok v => v | .range => Lib.atoiSat r | _ => 0
/-- A number that is all of a string, or -1. -/
def numO (r : Str) : Int := match numS r with | some (n, k) => if k = r.length then (n : Int) else -1 | none => -1
def kindOf (l : Str) : Nat := (posS 0 verbsL (wordS l).1).getD 0
/-- What the program's Parse tries. -/
def candP (l : Str) : POp :=
  let r := (wordS l).2
  if kindOf l = 1 then ⟨1, (wordS r).1, (wordS r).2, 0, 0, 0⟩
  else if kindOf l = 3 then
    let r1 := (wordS r).2
    let r2 := (wordS r1).2
    let r3 := (wordS r2).2
    ⟨3, (wordS r).1, (wordS r1).1, ((posS 0 anasL (wordS r2).1).getD 0 : Nat), atoiVal (wordS r3).1, atoiVal (wordS r3).2⟩
  else if kindOf l = 5 ∨ kindOf l = 8 then ⟨kindOf l, [], [], 0, 0, atoiVal r⟩
  else if kindOf l = 9 then ⟨9, [], [], 0, 0, 0⟩
  else ⟨kindOf l, r, [], 0, 0, 0⟩
/-- What the reference's ParseOp tries. -/
def candR (l : Str) : POp :=
  let r := (wordS l).2
  if kindOf l = 1 then ⟨1, (wordS r).1, (wordS r).2, 0, 0, 0⟩
  else if kindOf l = 3 then
    let r1 := (wordS r).2
    let r2 := (wordS r1).2
    let r3 := (wordS r2).2
    ⟨3, (wordS r).1, (wordS r1).1, (match posS 0 anas4 (wordS r2).1 with | some i => (i : Int) + 1 | none => 0), numO (wordS r3).1, numO (wordS r3).2⟩
  else if kindOf l = 5 ∨ kindOf l = 8 then ⟨kindOf l, [], [], 0, 0, numO r⟩
  else if kindOf l = 2 ∨ kindOf l = 4 ∨ kindOf l = 6 ∨ kindOf l = 7 then ⟨kindOf l, r, [], 0, 0, 0⟩
  else ⟨kindOf l, [], [], 0, 0, 0⟩
def takeO (l : Str) (c : POp) : POp × Int := if opB c = true ∧ opT c = l then (c, 0) else (zeroO, 4)

theorem wordS_app : ∀ (w r : Str), (32 : UInt8) ∉ w → wordS (w ++ 32 :: r) = (w, r)
  | [], r, _ => by simp [wordS]
  | c :: w, r, h => by
    have hc : c ≠ 32 := fun e => h (e ▸ List.mem_cons_self)
    show wordS (c :: (w ++ 32 :: r)) = _
    rw [wordS, if_neg hc, wordS_app w r (fun k => h (List.mem_cons_of_mem _ k))]
theorem wordS_all : ∀ (w : Str), (32 : UInt8) ∉ w → wordS w = (w, [])
  | [], _ => rfl
  | c :: w, h => by
    have hc : c ≠ 32 := fun e => h (e ▸ List.mem_cons_self)
    rw [wordS, if_neg hc, wordS_all w (fun k => h (List.mem_cons_of_mem _ k))]
theorem name_no {l : Str} (h : nameB l = true) {c : UInt8} (hc : partB c = false) : c ∉ l := fun k => by
  unfold nameB at h
  simp only [Bool.and_eq_true] at h
  have := List.all_eq_true.1 h.2 c k
  rw [hc] at this; cases this
theorem dec_sp (n : Nat) : (32 : UInt8) ∉ dec10 n := dec10_no (by decide)
theorem numO_dec {n : Nat} (h : n < 1000000000) : numO (dec10 n) = n := by
  have := numS_dec9 h (r := []) rfl
  rw [List.append_nil] at this
  unfold numO
  rw [this]
  simp
theorem atoiVal_dec {n : Nat} (h : n < 1000000000) : atoiVal (dec10 n) = n := by
  unfold atoiVal
  rw [atoi_dec (by omega)]
theorem range_in {n a b : Int} (h : rangeB n a b = true) : a ≤ n ∧ n ≤ b := by unfold rangeB at h; simpa using h
theorem only_in {o : POp} {a b c d : Bool} (h : onlyB o a b c d = true) : (a = false → o.id = []) ∧ (b = false → o.text = []) ∧ (c = false → o.ana = 0 ∧ o.node = 0) ∧ (d = false → o.n = 0) := by
  unfold onlyB at h
  simp only [Bool.and_eq_true, Bool.or_eq_true, decide_eq_true_eq] at h
  obtain ⟨⟨⟨h1, h2⟩, h3⟩, h4⟩ := h
  refine ⟨fun e => ?_, fun e => ?_, fun e => ?_, fun e => ?_⟩
  · rcases h1 with h1 | h1
    · rw [e] at h1; cases h1
    · exact h1
  · rcases h2 with h2 | h2
    · rw [e] at h2; cases h2
    · exact h2
  · rcases h3 with h3 | h3
    · rw [e] at h3; cases h3
    · exact h3
  · rcases h4 with h4 | h4
    · rw [e] at h4; cases h4
    · exact h4
theorem verb_sp : ∀ k, k < 10 → (32 : UInt8) ∉ (verbsL[k]?).getD [] := by decide
theorem verb_pos : ∀ k, k < 10 → posS 0 verbsL ((verbsL[k]?).getD []) = some k := by decide
theorem ana_sp : ∀ k, k < 5 → (32 : UInt8) ∉ (anasL[k]?).getD [] := by decide
theorem ana_pos : ∀ k, k < 5 → posS 0 anasL ((anasL[k]?).getD []) = some k := by decide
theorem ana_pos4 : ∀ k, k < 4 → posS 0 anas4 ((anasL[k + 1]?).getD []) = some k := by decide
theorem kind_app {k : Nat} (hk : k < 10) (r : Str) : kindOf ((verbsL[k]?).getD [] ++ 32 :: r) = k ∧ (wordS ((verbsL[k]?).getD [] ++ 32 :: r)).2 = r := by
  unfold kindOf
  rw [wordS_app _ _ (verb_sp k hk), verb_pos k hk]
  exact ⟨rfl, rfl⟩
theorem kind_all {k : Nat} (hk : k < 10) : kindOf ((verbsL[k]?).getD []) = k := by
  unfold kindOf
  rw [wordS_all _ (verb_sp k hk), verb_pos k hk]
  rfl
/-- A valid operation, kind by kind. -/
theorem op_cases {o : POp} (h : opB o = true) :
    (∃ id text, o = ⟨1, id, text, 0, 0, 0⟩ ∧ nameB id = true ∧ textB text = true) ∨ (∃ k id, (k = 2 ∨ k = 4 ∨ k = 6 ∨ k = 7) ∧ o = ⟨k, id, [], 0, 0, 0⟩ ∧ nameB id = true) ∨
    (∃ (id text : Str) (a b c : Nat), o = ⟨3, id, text, (a : Int) + 1, b, c⟩ ∧ nameB id = true ∧ nameB text = true ∧ a < 4 ∧ b < 256 ∧ c < 4) ∨ (∃ (k : Int) (n : Nat), (k = 5 ∨ k = 8) ∧ o = ⟨k, [], [], 0, 0, n⟩ ∧ n ≤ 1048576) ∨ o = ⟨9, [], [], 0, 0, 0⟩ := by
  obtain ⟨k, id, text, ana, node, n⟩ := o
  unfold opB at h
  dsimp only at h
  split at h
  · rename_i hk
    simp only [Bool.and_eq_true] at h
    obtain ⟨_, _, h3, h4⟩ := only_in h.2
    obtain ⟨h5, h6⟩ := h3 rfl
    have h7 := h4 rfl
    dsimp only at h5 h6 h7
    subst hk h5 h6 h7
    exact .inl ⟨id, text, rfl, h.1.1, h.1.2⟩
  · split at h
    · rename_i hk
      simp only [Bool.and_eq_true] at h
      obtain ⟨_, h2, h3, h4⟩ := only_in h.2
      obtain ⟨h5, h6⟩ := h3 rfl
      have h7 := h4 rfl
      have h8 := h2 rfl
      dsimp only at h5 h6 h7 h8
      subst h5 h6 h7 h8
      exact .inr (.inl ⟨k, id, hk, rfl, h.1⟩)
    · split at h
      · rename_i hk
        simp only [Bool.and_eq_true] at h
        obtain ⟨⟨⟨⟨h1, h2⟩, h3⟩, h4⟩, h5⟩ := h
        have h3 := range_in h3
        have h4 := range_in h4
        have h5 := range_in h5
        subst hk
        refine .inr (.inr (.inl ⟨id, text, (ana - 1).toNat, node.toNat, n.toNat, ?_, h1, h2, by omega, by omega, by omega⟩))
        simp only [POp.mk.injEq, true_and]
        omega
      · split at h
        · rename_i hk
          simp only [Bool.and_eq_true] at h
          obtain ⟨h1, h2, h3, _⟩ := only_in h.2
          obtain ⟨h5, h6⟩ := h3 rfl
          have h7 := h1 rfl
          have h8 := h2 rfl
          have h9 := range_in h.1
          dsimp only at h5 h6 h7 h8
          subst hk h5 h6 h7 h8
          refine .inr (.inr (.inr (.inl ⟨5, n.toNat, .inl rfl, ?_, by omega⟩)))
          simp only [POp.mk.injEq, true_and]
          omega
        · split at h
          · rename_i hk
            simp only [Bool.and_eq_true] at h
            obtain ⟨h1, h2, h3, _⟩ := only_in h.2
            obtain ⟨h5, h6⟩ := h3 rfl
            have h7 := h1 rfl
            have h8 := h2 rfl
            have h9 := range_in h.1
            dsimp only at h5 h6 h7 h8
            subst hk h5 h6 h7 h8
            refine .inr (.inr (.inr (.inl ⟨8, n.toNat, .inr rfl, ?_, by omega⟩)))
            simp only [POp.mk.injEq, true_and]
            omega
          · split at h
            · rename_i hk
              obtain ⟨h1, h2, h3, h4⟩ := only_in h
              obtain ⟨h5, h6⟩ := h3 rfl
              have h7 := h1 rfl
              have h8 := h2 rfl
              have h9 := h4 rfl
              dsimp only at h5 h6 h7 h8 h9
              subst hk h5 h6 h7 h8 h9
              exact .inr (.inr (.inr (.inr rfl)))
            · cases h
theorem cand_text {o : POp} (h : opB o = true) : candP (opT o) = o ∧ candR (opT o) = o := by
  have hT : opT o = if o.kind = 1 then verbT o.kind ++ [32] ++ o.id ++ [32] ++ o.text
      else if o.kind = 3 then verbT o.kind ++ [32] ++ o.id ++ [32] ++ o.text ++ [32] ++ anaT o.ana ++ [32] ++ dec10 o.node.toNat ++ [32] ++ dec10 o.n.toNat
      else if o.kind = 5 ∨ o.kind = 8 then verbT o.kind ++ [32] ++ dec10 o.n.toNat
      else if o.kind = 9 then verbT o.kind
      else verbT o.kind ++ [32] ++ o.id := if_pos h
  rw [hT]
  have hsp : partB 32 = false := by decide
  rcases op_cases h with ⟨id, text, rfl, h1, h2⟩ | ⟨k, id, hk, rfl, h1⟩ | ⟨id, text, a, b, c, rfl, h1, h2, ha, hb, hc⟩ | ⟨k, n, hk, rfl, hn⟩ | rfl
  · dsimp only
    rw [if_pos rfl]
    have e : verbT 1 ++ [32] ++ id ++ [32] ++ text = (verbsL[1]?).getD [] ++ 32 :: (id ++ 32 :: text) := by simp [verbT]
    obtain ⟨k1, k2⟩ := kind_app (k := 1) (by decide) (id ++ 32 :: text)
    rw [e]
    unfold candP candR
    rw [k1, k2]
    simp [wordS_app _ _ (name_no h1 hsp)]
  · have hk4 : ∃ m : Nat, k = m ∧ (m = 2 ∨ m = 4 ∨ m = 6 ∨ m = 7) := by
      rcases hk with rfl | rfl | rfl | rfl
      · exact ⟨2, rfl, by simp⟩
      · exact ⟨4, rfl, by simp⟩
      · exact ⟨6, rfl, by simp⟩
      · exact ⟨7, rfl, by simp⟩
    obtain ⟨m, rfl, hm⟩ := hk4
    dsimp only
    rw [if_neg (by omega), if_neg (by omega), if_neg (by omega), if_neg (by omega)]
    have e : verbT m ++ [32] ++ id = (verbsL[m]?).getD [] ++ 32 :: id := by simp [verbT]
    obtain ⟨k1, k2⟩ := kind_app (k := m) (by omega) id
    rw [e]
    unfold candP candR
    rw [k1, k2]
    dsimp only
    rw [if_neg (by omega), if_neg (by omega), if_neg (by omega), if_neg (by omega), if_neg (by omega), if_neg (by omega), if_neg (by omega), if_pos (by omega)]
    exact ⟨rfl, rfl⟩
  · dsimp only
    rw [if_neg (by decide), if_pos rfl]
    have e : verbT 3 ++ [32] ++ id ++ [32] ++ text ++ [32] ++ anaT ((a : Int) + 1) ++ [32] ++ dec10 (b : Int).toNat ++ [32] ++ dec10 (c : Int).toNat
        = (verbsL[3]?).getD [] ++ 32 :: (id ++ 32 :: (text ++ 32 :: ((anasL[a + 1]?).getD [] ++ 32 :: (dec10 b ++ 32 :: dec10 c)))) := by
      have : ((a : Int) + 1).toNat = a + 1 := by omega
      simp [verbT, anaT, this]
    obtain ⟨k1, k2⟩ := kind_app (k := 3) (by decide) (id ++ 32 :: (text ++ 32 :: ((anasL[a + 1]?).getD [] ++ 32 :: (dec10 b ++ 32 :: dec10 c))))
    rw [e]
    unfold candP candR
    rw [k1, k2]
    dsimp only
    rw [if_neg (by decide), if_pos rfl, if_neg (by decide), if_pos rfl]
    simp only [wordS_app _ _ (name_no h1 hsp), wordS_app _ _ (name_no h2 hsp), wordS_app _ _ (ana_sp (a + 1) (by omega)), wordS_app _ _ (dec_sp b), ana_pos (a + 1) (by omega), ana_pos4 a ha, atoiVal_dec (show b < 1000000000 by omega), atoiVal_dec (show c < 1000000000 by omega), numO_dec (show b < 1000000000 by omega), numO_dec (show c < 1000000000 by omega)]
    simp
  · have hk4 : ∃ m : Nat, k = m ∧ (m = 5 ∨ m = 8) := by
      rcases hk with rfl | rfl
      · exact ⟨5, rfl, by simp⟩
      · exact ⟨8, rfl, by simp⟩
    obtain ⟨m, rfl, hm⟩ := hk4
    dsimp only
    rw [if_neg (by omega), if_neg (by omega), if_pos (by omega)]
    have e : verbT m ++ [32] ++ dec10 (n : Int).toNat = (verbsL[m]?).getD [] ++ 32 :: dec10 n := by simp [verbT]
    obtain ⟨k1, k2⟩ := kind_app (k := m) (by omega) (dec10 n)
    rw [e]
    unfold candP candR
    rw [k1, k2]
    dsimp only
    rw [if_neg (by omega), if_neg (by omega), if_pos (by omega), if_neg (by omega), if_neg (by omega), if_pos (by omega), atoiVal_dec (by omega), numO_dec (by omega)]
    exact ⟨rfl, rfl⟩
  · dsimp only
    rw [if_neg (by decide), if_neg (by decide), if_neg (by decide), if_pos rfl]
    have k1 := kind_all (k := 9) (by decide)
    have k2 : wordS ((verbsL[9]?).getD []) = ((verbsL[9]?).getD [], []) := wordS_all _ (verb_sp 9 (by decide))
    rw [show verbT 9 = (verbsL[9]?).getD [] from rfl]
    unfold candP candR
    rw [k1, k2]
    exact ⟨rfl, rfl⟩
/-- The two sides agree on every line. -/
theorem take_eq (l : Str) : takeO l (candP l) = takeO l (candR l) := by
  by_cases h : ∃ o, opB o = true ∧ opT o = l
  · obtain ⟨o, h1, rfl⟩ := h
    rw [(cand_text h1).1, (cand_text h1).2]
  · unfold takeO
    rw [if_neg (fun k => h ⟨_, k⟩), if_neg (fun k => h ⟨_, k⟩)]
theorem take_text {o : POp} (h : opB o = true) : takeO (opT o) (candP (opT o)) = (o, 0) := by
  rw [(cand_text h).1]
  exact if_pos ⟨h, rfl⟩
theorem take_fail {l : Str} (h : (takeO l (candP l)).2 = 0) : opB (takeO l (candP l)).1 = true ∧ opT (takeO l (candP l)).1 = l := by
  unfold takeO at h ⊢
  split at h
  · rename_i k
    rw [if_pos k]
    exact k
  · cases h
/-- No operation has no line. -/
theorem op_nil {o : POp} (h : opB o = true) : opT o ≠ [] := by
  intro e
  have h1 := (cand_text h).1
  rw [e] at h1
  have h2 : candP [] = zeroO := by decide
  rw [h2] at h1
  subst h1
  revert h
  decide
theorem parse_nil : takeO [] (candP []) = (zeroO, 4) := by decide
end Go.Proofs.YtgmlnbheceeklaaDoor
