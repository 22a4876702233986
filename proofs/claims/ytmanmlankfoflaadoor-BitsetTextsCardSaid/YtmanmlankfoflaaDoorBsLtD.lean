/- 'flqlaw2.BitsetTexts' returns true at every input. The library's tables hold what the program's text lays (the given tie). No condition beyond the statement's own. (nobase) Printed by wip/gen_bscard.py. -/
import Derived.Test.YtmanmlankfoflaaDoorBsG3
import Derived.Test.YtmanmlankfoflaaDoorBsE
import Derived.Test.YtmanmlankfoflaaDoorBsS
import Derived.Test.YtmanmlankfoflaaDoorPgmP
import Derived.Test.YtmanmlankfoflaaDoorProg
import Derived.Test.YtmanmlankfoflaaDoorRows
import Derived.WalkKit
import Derived.WalkSpells
import Derived.Lib.Hide
import Derived.Test.YtmanmlankfoflaaDoorBsTx
import Derived.Test.YtmanmlankfoflaaDoorBsAp
import Derived.Lib.Split
import Derived.Lib.SplitLaws
import Derived.Lib.AtoiAll
import Derived.Test.YtmanmlankfoflaaDoorShT
import Derived.Test.YtmanmlankfoflaaDoorBsO2
import Derived.Test.YtmanmlankfoflaaDoorBsRF
import Derived.Test.YtmanmlankfoflaaDoorBsTr
import Derived.Test.YtmanmlankfoflaaDoorTape
import Derived.Deep.RegionHeld3
import Derived.Test.YtmanmlankfoflaaDoorMem2
import Derived.Deep.Light
import Derived.RegionTactic
import Derived.Lib.JoinLaws
import Derived.Lib.ConvBytes
import Derived.Laws.BytesArg
import Derived.Test.YtmanmlankfoflaaDoorBsSa
import Derived.Test.YtmanmlankfoflaaDoorBsOp
import Derived.Test.YtmanmlankfoflaaDoorBsCK
import Derived.HandedShaped
import Derived.Shelf.Vars
import Derived.LaidLaws
import Derived.Lay
set_option linter.unusedVariables false
set_option linter.unusedSimpArgs false
set_option linter.unusedSectionVars false
/- Small facts that the law BitsetTexts leans on. -/
namespace Go.Proofs.YtmanmlankfoflaaDoor
open Go.RowKit
variable [Base]

/-- A set and an error's number. -/
def WordsE (r : QSet × Int) (w : World) (e : Ending) (w' : World) : Prop := ∃ u, e = .returned (.tuple #[setV r.1 u, .int .i64 r.2]) ∧ WordsAt w' u r.1.words ∧ Below w.heap.size w w'
theorem ZeroE.words {n : Int} {w w' : World} {e : Ending} (h : ZeroE n w e w') : WordsE (zeroS, n) w e w' := ⟨.slice none 0 0, h.1, WordsAt.nil, h.2⟩
theorem wide_at {B bt : Nat} (w : World) (ht : TapeOk B w bt) : Calls Tryd.prog 10 #[.pointer (some ⟨bt, 0, none⟩)] w (fun e w' => ∃ (s : QSet) (u : Value), e = .returned (.agg #[.int .i64 s.width, u]) ∧ (FormS s ∧ setB s = true) ∧ WordsAt w' u s.words ∧ TapeOk B w' bt ∧ But bt w w') :=
  (wide_any w ht).mono fun e w' ⟨s, u, h1, h2, h3, h4⟩ => ⟨s, u, h1, ⟨h2, h3⟩, h4⟩
theorem same_w {d : Int} {t : QSet} (hd : t.width = d) (u1 u2 : Value) (w : World) (h1 : WordsAt w u1 t.words) (h2 : WordsAt w u2 t.words) : Calls Tryd.prog 25 #[.agg #[.int .i64 d, u1], .agg #[.int .i64 d, u2]] w (BoolQ true w) := by
  subst hd
  exact rsame_any t u1 u2 w h1 h2
end Go.Proofs.YtmanmlankfoflaaDoor

/- Decimal numbers as the references read them: plain Lean, no program in sight. -/
namespace Go.Proofs.YtmanmlankfoflaaDoor
variable [Base]

def isD (c : UInt8) : Bool := decide (48 ≤ c.toNat) && decide (c.toNat ≤ 57)
/-- The digits that t begins with, f of them at most. -/
def digRun : Nat → Str → Str
  | 0, _ => []
  | _ + 1, [] => []
  | f + 1, c :: r => if isD c = true then c :: digRun f r else []
def numVal (d : Str) : Nat := d.foldl (fun n c => 10 * n + (c.toNat - 48)) 0
/-- The number that t begins with, and its length. -/
def numS (t : Str) : Option (Nat × Nat) :=
  if digRun 9 t = [] ∨ (t.head? = some 48 ∧ 1 < (digRun 9 t).length) ∨ (t.drop (digRun 9 t).length).head?.any isD = true then none else some (numVal (digRun 9 t), (digRun 9 t).length)
/-- What 'Number' answers. -/
def numR (l : Str) (a : Nat) : Nat × Nat × Bool := match numS (l.drop a) with | none => (0, a, false) | some (n, k) => (n, a + k, true)

theorem digRun_len : ∀ (f : Nat) (t : Str), (digRun f t).length ≤ f ∧ (digRun f t).length ≤ t.length
  | 0, t => by simp [digRun]
  | f + 1, [] => by simp [digRun]
  | f + 1, c :: r => by
    unfold digRun
    split
    · have := digRun_len f r; simp; omega
    · simp
theorem digRun_at : ∀ (f : Nat) (t : Str) (j : Nat), j < (digRun f t).length → ∃ c, t[j]? = some c ∧ isD c = true ∧ (digRun f t)[j]? = some c
  | 0, t, j, h => by simp [digRun] at h
  | f + 1, [], j, h => by simp [digRun] at h
  | f + 1, c :: r, j, h => by
    unfold digRun at h ⊢
    split at h
    · rename_i hc
      rw [if_pos hc]
      rcases j with _ | j
      · exact ⟨c, rfl, hc, rfl⟩
      · obtain ⟨c', h1, h2, h3⟩ := digRun_at f r j (by simpa using h)
        exact ⟨c', by simpa using h1, h2, by simpa using h3⟩
    · simp at h
/-- Behind j digits there is one more. -/
theorem digRun_more : ∀ (f : Nat) (t : Str) (j : Nat) (c : UInt8), j ≤ (digRun f t).length → j < f → t[j]? = some c → isD c = true → j < (digRun f t).length
  | 0, t, j, c, _, h, _, _ => by omega
  | f + 1, [], j, c, _, _, h, _ => by simp at h
  | f + 1, d :: r, j, c, h1, h2, h3, h4 => by
    unfold digRun at h1 ⊢
    split at h1
    · rename_i hd
      rw [if_pos hd]
      rcases j with _ | j
      · simp
      · have := digRun_more f r j c (by simpa using h1) (by omega) (by simpa using h3) h4
        simpa using this
    · rename_i hd
      have : j = 0 := by simpa using h1
      subst this
      simp at h3
      subst h3
      exact absurd h4 hd
theorem numVal_snoc (d : Str) (c : UInt8) : numVal (d ++ [c]) = 10 * numVal d + (c.toNat - 48) := by unfold numVal; rw [List.foldl_append]; rfl
theorem numVal_nil : numVal [] = 0 := rfl
theorem numVal_take_lt : ∀ (d : Str) (j : Nat), (∀ c ∈ d, isD c = true) → j ≤ d.length → numVal (d.take j) < 10 ^ j
  | d, 0, _, _ => by simp [numVal]
  | d, j + 1, h, hj => by
    have hlt : j < d.length := by omega
    rw [List.take_add_one, List.getElem?_eq_getElem hlt, Option.toList_some, numVal_snoc, Nat.pow_succ]
    have := numVal_take_lt d j h (by omega)
    have hd := h d[j] (List.getElem_mem hlt)
    unfold isD at hd
    simp only [Bool.and_eq_true, decide_eq_true_eq] at hd
    omega
theorem digRun_all (f : Nat) (t : Str) : ∀ c ∈ digRun f t, isD c = true := by
  intro c hc
  obtain ⟨j, hj⟩ := List.mem_iff_getElem?.1 hc
  have hl := (List.getElem?_eq_some_iff.1 hj).1
  obtain ⟨c', _, h2, h3⟩ := digRun_at f t j hl
  rw [h3] at hj
  injection hj with hj
  exact hj ▸ h2
theorem ten_le9 {j : Nat} (h : j ≤ 9) : (10 : Nat) ^ j ≤ 1000000000 := by
  have h1 := Nat.pow_le_pow_right (n := 10) (by decide) h
  have h2 : (10 : Nat) ^ 9 = 1000000000 := by decide
  omega
/-- The digits' value, j of them read. -/
structure RunAt (l : Str) (a j : Nat) : Prop where
  le : j ≤ (digRun 9 (l.drop a)).length
  nine : j ≤ 9
  lt : numVal ((digRun 9 (l.drop a)).take j) < 1000000000
theorem RunAt.zero (l : Str) (a : Nat) : RunAt l a 0 := ⟨Nat.zero_le _, by omega, by simp [numVal]⟩
theorem RunAt.next {l : Str} {a j : Nat} {c : UInt8} (h : RunAt l a j) (hc : l[a + j]? = some c) (hd : isD c = true) (hj : j < 9) :
    RunAt l a (j + 1) ∧ numVal ((digRun 9 (l.drop a)).take (j + 1)) = 10 * numVal ((digRun 9 (l.drop a)).take j) + (c.toNat - 48) := by
  have h1 := digRun_more 9 (l.drop a) j c h.le hj (by rw [List.getElem?_drop]; exact hc) hd
  obtain ⟨c', h2, h3, h4⟩ := digRun_at 9 (l.drop a) j h1
  rw [List.getElem?_drop, hc] at h2
  injection h2 with h2
  subst h2
  have e : numVal ((digRun 9 (l.drop a)).take (j + 1)) = 10 * numVal ((digRun 9 (l.drop a)).take j) + (c.toNat - 48) := by
    rw [List.take_add_one, h4, Option.toList_some, numVal_snoc]
  exact ⟨⟨h1, hj, Nat.lt_of_lt_of_le (numVal_take_lt _ _ (digRun_all 9 _) h1) (ten_le9 hj)⟩, e⟩
/-- No more digits: at the end, behind nine, or at another byte. -/
theorem RunAt.done {l : Str} {a j : Nat} (h : RunAt l a j) (hs : ∀ c, l[a + j]? = some c → isD c = true → 9 ≤ j) : (digRun 9 (l.drop a)).length = j := by
  rcases Nat.lt_or_ge j (digRun 9 (l.drop a)).length with h1 | h1
  · obtain ⟨c, h2, h3, -⟩ := digRun_at 9 (l.drop a) j h1
    rw [List.getElem?_drop] at h2
    have := hs c h2 h3
    have := (digRun_len 9 (l.drop a)).1
    omega
  · have := h.le; omega
theorem numR_no1 {l : Str} {a : Nat} (h : (digRun 9 (l.drop a)).length = 0) : numR l a = (0, a, false) := by
  unfold numR numS
  rw [if_pos (.inl (List.length_eq_zero_iff.1 h))]
theorem numR_no2 {l : Str} {a j : Nat} {c : UInt8} (h : (digRun 9 (l.drop a)).length = j) (hj : 1 < j) (hc : l[a]? = some c) (h0 : c.toNat = 48) : numR l a = (0, a, false) := by
  unfold numR numS
  rw [if_pos (.inr (.inl ⟨by rw [List.head?_drop, hc]; congr 1; exact UInt8.toNat_inj.1 h0, by omega⟩))]
theorem numR_no3 {l : Str} {a j : Nat} {c : UInt8} (h : (digRun 9 (l.drop a)).length = j) (hc : l[a + j]? = some c) (hd : isD c = true) : numR l a = (0, a, false) := by
  unfold numR numS
  rw [if_pos (.inr (.inr (by rw [h, List.drop_drop, List.head?_drop, hc]; exact hd)))]
theorem numR_yes {l : Str} {a j : Nat} (h : (digRun 9 (l.drop a)).length = j) (h1 : 0 < j) (h2 : j ≤ 1 ∨ ∀ c, l[a]? = some c → c.toNat ≠ 48) (h3 : ∀ c, l[a + j]? = some c → isD c = false) : numR l a = (numVal ((digRun 9 (l.drop a)).take j), a + j, true) := by
  unfold numR numS
  rw [if_neg, h, ← h, List.take_of_length_le (Nat.le_refl _)]
  rintro (e | ⟨e, e2⟩ | e)
  · rw [e] at h; simp at h; omega
  · rw [List.head?_drop] at e
    rcases h2 with h2 | h2
    · omega
    · exact h2 _ e rfl
  · rw [h, List.drop_drop, List.head?_drop] at e
    cases hc : l[a + j]? with
    | none => rw [hc] at e; cases e
    | some c =>
      rw [hc] at e
      have e' : isD c = true := e
      rw [h3 c hc] at e'
      cases e'
end Go.Proofs.YtmanmlankfoflaaDoor

/- Walk: the reference's Number. Printed by wip/gen_num.py. -/
namespace Go.Proofs.YtmanmlankfoflaaDoor
open Go.RowKit
variable [Base]

def NumQ (l : Str) (a : Nat) (w : World) (e : Ending) (w' : World) : Prop := e = .returned (.tuple #[.int .i64 ((numR l a).1 : Int), .int .i64 ((numR l a).2.1 : Int), .bool (numR l a).2.2]) ∧ w' = w
theorem NumQ.of {l : Str} {a x y : Nat} {b : Bool} {w : World} (h : numR l a = (x, y, b)) : NumQ l a w (.returned (.tuple #[.int .i64 (x : Int), .int .i64 (y : Int), .bool b])) w := by unfold NumQ; rw [h]; exact ⟨rfl, rfl⟩
theorem isD_yes {c : UInt8} (h1 : (48 : Int) ≤ (c.toNat : Int)) (h2 : (c.toNat : Int) ≤ 57) : isD c = true := by unfold isD; simp; omega
theorem isD_lo {c : UInt8} (h : ¬ (48 : Int) ≤ (c.toNat : Int)) : isD c = false := by unfold isD; simp; omega
theorem isD_hi {c : UInt8} (h : ¬ (c.toNat : Int) ≤ 57) : isD c = false := by unfold isD; simp; omega
theorem byte_at {s : ByteArray} {k : Nat} (h : k < s.size) : s.data.toList[k]? = some s[k] := by simp [h]; rfl
set_option maxRecDepth 100000 in
set_option maxHeartbeats 4000000 in
theorem number_any (s : ByteArray) (a : Nat) (ha : a ≤ s.size) (hs : s.size ≤ 1000000000) (w : World) : Calls Tryd.prog 84 #[.string s, .int .i64 a] w (NumQ s.data.toList a w) := by
  have hud : ∀ b : Bool, (undef = Value.bool b) = False := fun b => by simp [undef]
  obtain ⟨l, hl⟩ : ∃ l, s.data.toList = l := ⟨_, rfl⟩
  have HL := Lib.hid hl
  have HLN := Lib.hid (show l.length = s.size by rw [← hl]; simp)
  rw [hl]
  clear hl
  go_enter Tryd.func84, Tryd.ntmps84
  go_wp2
  go_loop [7, 8] (fun y7 y8 => ∃ i j n : Nat, i = a + j ∧ i ≤ s.size ∧ y7 = .int .i64 n ∧ y8 = .int .i64 i ∧ Hid (RunAt l a j) ∧ n < 1000000000 ∧ j ≤ 9 ∧ Hid (n = numVal ((digRun 9 (l.drop a)).take j))) (fun y7 y8 => s.size - (intOf y8).toNat)
  case atStart => exact ⟨a, 0, 0, rfl, ha, rfl, rfl, RunAt.zero l a, by omega, by omega, rfl⟩
  case round =>
    obtain ⟨i, j, n, hi, hi2, rfl, rfl, R, hn, hj, HN⟩ := hrel
    have HI := Lib.hid hi
    have w9 : IntKind.i64.wrap ((a : Int) + 9) = (a : Int) + 9 := IntWalk.i64_in _ (by omega)
    have w1 : IntKind.i64.wrap ((a : Int) + 1) = (a : Int) + 1 := IntWalk.i64_in _ (by omega)
    by_cases hlt : i < s.size
    rotate_left
    · have d1 : decide ((i : Int) < (s.size : Int)) = false := by simp; omega
      have HD := Lib.hid (show (digRun 9 (l.drop a)).length = j from R.out.done (fun c hc hd => by have := (List.getElem?_eq_some_iff.1 hc).1; have := HLN.out; have := HI.out; omega))
      by_cases hj0 : j = 0
      · subst hj0
        have HR := Lib.hid (numR_no1 HD.out)
        have hia : i = a := by have := HI.out; omega
        subst hia
        clear hi
        go_wp2
        exact bodyPost_ret (v := .tuple #[.int .i64 ((0 : Nat) : Int), .int .i64 ((i : Nat) : Int), .bool false]) (by simp [results, Tryd.results84, go_sem]) rfl (NumQ.of HR.out)
      have h44 : ((i : Int) == (a : Int)) = false := by simp; omega
      have hal : a < s.size := by omega
      by_cases hz : (s[a].toNat : Int) = 48
      · have hzb : ((s[a].toNat : Int) == 48) = true := by simpa using hz
        by_cases hj1 : 1 < j
        · have HR := Lib.hid (numR_no2 (c := s[a]) HD.out hj1 (by rw [← HL.out]; exact byte_at hal) (by omega))
          have h54 : decide ((a : Int) + 1 < (i : Int)) = true := by simp; omega
          clear hi
          go_wp2
          exact bodyPost_ret (v := .tuple #[.int .i64 ((0 : Nat) : Int), .int .i64 ((a : Nat) : Int), .bool false]) (by simp [results, Tryd.results84, go_sem]) rfl (NumQ.of HR.out)
        have h54 : decide ((a : Int) + 1 < (i : Int)) = false := by simp; omega
        have hz2 : j ≤ 1 ∨ ∀ c, l[a]? = some c → c.toNat ≠ 48 := .inl (by omega)
        have HR := Lib.hid (numR_yes HD.out (by omega) hz2 (fun c hc => by exfalso; have := (List.getElem?_eq_some_iff.1 hc).1; have := HLN.out; have := HI.out; omega))
        have h61 : decide ((i : Int) < (s.size : Int)) = false := by simp; omega
        rw [← HN.out, ← HI.out] at HR
        clear hi
        go_wp2
        exact bodyPost_ret (v := .tuple #[.int .i64 ((n : Nat) : Int), .int .i64 ((i : Nat) : Int), .bool true]) (by simp [results, Tryd.results84, go_sem]) rfl (NumQ.of HR.out)
      have hzb : ((s[a].toNat : Int) == 48) = false := by simpa using hz
      have hz2 : j ≤ 1 ∨ ∀ c, l[a]? = some c → c.toNat ≠ 48 := .inr (fun c hc => by rw [← HL.out, byte_at hal] at hc; injection hc with hc; subst hc; omega)
      have HR := Lib.hid (numR_yes HD.out (by omega) hz2 (fun c hc => by exfalso; have := (List.getElem?_eq_some_iff.1 hc).1; have := HLN.out; have := HI.out; omega))
      have h61 : decide ((i : Int) < (s.size : Int)) = false := by simp; omega
      rw [← HN.out, ← HI.out] at HR
      clear hi
      go_wp2
      exact bodyPost_ret (v := .tuple #[.int .i64 ((n : Nat) : Int), .int .i64 ((i : Nat) : Int), .bool true]) (by simp [results, Tryd.results84, go_sem]) rfl (NumQ.of HR.out)
    have d1 : decide ((i : Int) < (s.size : Int)) = true := by simp; omega
    have hib : i < s.data.size := hlt
    by_cases h9 : j < 9
    rotate_left
    · have d2 : decide ((i : Int) < (a : Int) + 9) = false := by simp; omega
      have HD := Lib.hid (show (digRun 9 (l.drop a)).length = j from R.out.done (fun c hc hd => by have := HI.out; omega))
      by_cases hj0 : j = 0
      · subst hj0
        have HR := Lib.hid (numR_no1 HD.out)
        have hia : i = a := by have := HI.out; omega
        subst hia
        clear hi
        go_wp2
        exact bodyPost_ret (v := .tuple #[.int .i64 ((0 : Nat) : Int), .int .i64 ((i : Nat) : Int), .bool false]) (by simp [results, Tryd.results84, go_sem]) rfl (NumQ.of HR.out)
      have h44 : ((i : Int) == (a : Int)) = false := by simp; omega
      have hal : a < s.size := by omega
      by_cases hz : (s[a].toNat : Int) = 48
      · have hzb : ((s[a].toNat : Int) == 48) = true := by simpa using hz
        by_cases hj1 : 1 < j
        · have HR := Lib.hid (numR_no2 (c := s[a]) HD.out hj1 (by rw [← HL.out]; exact byte_at hal) (by omega))
          have h54 : decide ((a : Int) + 1 < (i : Int)) = true := by simp; omega
          clear hi
          go_wp2
          exact bodyPost_ret (v := .tuple #[.int .i64 ((0 : Nat) : Int), .int .i64 ((a : Nat) : Int), .bool false]) (by simp [results, Tryd.results84, go_sem]) rfl (NumQ.of HR.out)
        have h54 : decide ((a : Int) + 1 < (i : Int)) = false := by simp; omega
        have hz2 : j ≤ 1 ∨ ∀ c, l[a]? = some c → c.toNat ≠ 48 := .inl (by omega)
        by_cases c1 : (48 : Int) ≤ (s[i].toNat : Int)
        · have c1b : decide ((48 : Int) ≤ (s[i].toNat : Int)) = true := by simpa using c1
          by_cases c2 : (s[i].toNat : Int) ≤ 57
          · have c2b : decide ((s[i].toNat : Int) ≤ 57) = true := by simpa using c2
            have HR := Lib.hid (numR_no3 (c := s[i]) HD.out (by rw [← HI.out, ← HL.out]; exact byte_at hlt) (isD_yes c1 c2))
            clear hi
            go_wp2
            exact bodyPost_ret (v := .tuple #[.int .i64 ((0 : Nat) : Int), .int .i64 ((a : Nat) : Int), .bool false]) (by simp [results, Tryd.results84, go_sem]) rfl (NumQ.of HR.out)
          · have c2b : decide ((s[i].toNat : Int) ≤ 57) = false := by simpa using c2
            have HR := Lib.hid (numR_yes HD.out (by omega) hz2 (fun c hc => by rw [← HI.out, ← HL.out, byte_at hlt] at hc; injection hc with hc; subst hc; exact isD_hi c2))
            rw [← HN.out, ← HI.out] at HR
            clear hi
            go_wp2
            exact bodyPost_ret (v := .tuple #[.int .i64 ((n : Nat) : Int), .int .i64 ((i : Nat) : Int), .bool true]) (by simp [results, Tryd.results84, go_sem]) rfl (NumQ.of HR.out)
        · have c1b : decide ((48 : Int) ≤ (s[i].toNat : Int)) = false := by simpa using c1
          have HR := Lib.hid (numR_yes HD.out (by omega) hz2 (fun c hc => by rw [← HI.out, ← HL.out, byte_at hlt] at hc; injection hc with hc; subst hc; exact isD_lo c1))
          rw [← HN.out, ← HI.out] at HR
          clear hi
          go_wp2
          exact bodyPost_ret (v := .tuple #[.int .i64 ((n : Nat) : Int), .int .i64 ((i : Nat) : Int), .bool true]) (by simp [results, Tryd.results84, go_sem]) rfl (NumQ.of HR.out)
      have hzb : ((s[a].toNat : Int) == 48) = false := by simpa using hz
      have hz2 : j ≤ 1 ∨ ∀ c, l[a]? = some c → c.toNat ≠ 48 := .inr (fun c hc => by rw [← HL.out, byte_at hal] at hc; injection hc with hc; subst hc; omega)
      by_cases c1 : (48 : Int) ≤ (s[i].toNat : Int)
      · have c1b : decide ((48 : Int) ≤ (s[i].toNat : Int)) = true := by simpa using c1
        by_cases c2 : (s[i].toNat : Int) ≤ 57
        · have c2b : decide ((s[i].toNat : Int) ≤ 57) = true := by simpa using c2
          have HR := Lib.hid (numR_no3 (c := s[i]) HD.out (by rw [← HI.out, ← HL.out]; exact byte_at hlt) (isD_yes c1 c2))
          clear hi
          go_wp2
          exact bodyPost_ret (v := .tuple #[.int .i64 ((0 : Nat) : Int), .int .i64 ((a : Nat) : Int), .bool false]) (by simp [results, Tryd.results84, go_sem]) rfl (NumQ.of HR.out)
        · have c2b : decide ((s[i].toNat : Int) ≤ 57) = false := by simpa using c2
          have HR := Lib.hid (numR_yes HD.out (by omega) hz2 (fun c hc => by rw [← HI.out, ← HL.out, byte_at hlt] at hc; injection hc with hc; subst hc; exact isD_hi c2))
          rw [← HN.out, ← HI.out] at HR
          clear hi
          go_wp2
          exact bodyPost_ret (v := .tuple #[.int .i64 ((n : Nat) : Int), .int .i64 ((i : Nat) : Int), .bool true]) (by simp [results, Tryd.results84, go_sem]) rfl (NumQ.of HR.out)
      · have c1b : decide ((48 : Int) ≤ (s[i].toNat : Int)) = false := by simpa using c1
        have HR := Lib.hid (numR_yes HD.out (by omega) hz2 (fun c hc => by rw [← HI.out, ← HL.out, byte_at hlt] at hc; injection hc with hc; subst hc; exact isD_lo c1))
        rw [← HN.out, ← HI.out] at HR
        clear hi
        go_wp2
        exact bodyPost_ret (v := .tuple #[.int .i64 ((n : Nat) : Int), .int .i64 ((i : Nat) : Int), .bool true]) (by simp [results, Tryd.results84, go_sem]) rfl (NumQ.of HR.out)
    have d2 : decide ((i : Int) < (a : Int) + 9) = true := by simp; omega
    by_cases c1 : (48 : Int) ≤ (s[i].toNat : Int)
    rotate_left
    · have c1b : decide ((48 : Int) ≤ (s[i].toNat : Int)) = false := by simpa using c1
      have HD := Lib.hid (show (digRun 9 (l.drop a)).length = j from R.out.done (fun c hc hd => by exfalso; rw [← HI.out, ← HL.out, byte_at hlt] at hc; injection hc with hc; subst hc; rw [isD_lo c1] at hd; cases hd))
      by_cases hj0 : j = 0
      · subst hj0
        have HR := Lib.hid (numR_no1 HD.out)
        have hia : i = a := by have := HI.out; omega
        subst hia
        clear hi
        go_wp2
        exact bodyPost_ret (v := .tuple #[.int .i64 ((0 : Nat) : Int), .int .i64 ((i : Nat) : Int), .bool false]) (by simp [results, Tryd.results84, go_sem]) rfl (NumQ.of HR.out)
      have h44 : ((i : Int) == (a : Int)) = false := by simp; omega
      have hal : a < s.size := by omega
      by_cases hz : (s[a].toNat : Int) = 48
      · have hzb : ((s[a].toNat : Int) == 48) = true := by simpa using hz
        by_cases hj1 : 1 < j
        · have HR := Lib.hid (numR_no2 (c := s[a]) HD.out hj1 (by rw [← HL.out]; exact byte_at hal) (by omega))
          have h54 : decide ((a : Int) + 1 < (i : Int)) = true := by simp; omega
          clear hi
          go_wp2
          exact bodyPost_ret (v := .tuple #[.int .i64 ((0 : Nat) : Int), .int .i64 ((a : Nat) : Int), .bool false]) (by simp [results, Tryd.results84, go_sem]) rfl (NumQ.of HR.out)
        have h54 : decide ((a : Int) + 1 < (i : Int)) = false := by simp; omega
        have hz2 : j ≤ 1 ∨ ∀ c, l[a]? = some c → c.toNat ≠ 48 := .inl (by omega)
        have HR := Lib.hid (numR_yes HD.out (by omega) hz2 (fun c hc => by rw [← HI.out, ← HL.out, byte_at hlt] at hc; injection hc with hc; subst hc; exact isD_lo c1))
        rw [← HN.out, ← HI.out] at HR
        clear hi
        go_wp2
        exact bodyPost_ret (v := .tuple #[.int .i64 ((n : Nat) : Int), .int .i64 ((i : Nat) : Int), .bool true]) (by simp [results, Tryd.results84, go_sem]) rfl (NumQ.of HR.out)
      have hzb : ((s[a].toNat : Int) == 48) = false := by simpa using hz
      have hz2 : j ≤ 1 ∨ ∀ c, l[a]? = some c → c.toNat ≠ 48 := .inr (fun c hc => by rw [← HL.out, byte_at hal] at hc; injection hc with hc; subst hc; omega)
      have HR := Lib.hid (numR_yes HD.out (by omega) hz2 (fun c hc => by rw [← HI.out, ← HL.out, byte_at hlt] at hc; injection hc with hc; subst hc; exact isD_lo c1))
      rw [← HN.out, ← HI.out] at HR
      clear hi
      go_wp2
      exact bodyPost_ret (v := .tuple #[.int .i64 ((n : Nat) : Int), .int .i64 ((i : Nat) : Int), .bool true]) (by simp [results, Tryd.results84, go_sem]) rfl (NumQ.of HR.out)
    have c1b : decide ((48 : Int) ≤ (s[i].toNat : Int)) = true := by simpa using c1
    by_cases c2 : (s[i].toNat : Int) ≤ 57
    rotate_left
    · have c2b : decide ((s[i].toNat : Int) ≤ 57) = false := by simpa using c2
      have HD := Lib.hid (show (digRun 9 (l.drop a)).length = j from R.out.done (fun c hc hd => by exfalso; rw [← HI.out, ← HL.out, byte_at hlt] at hc; injection hc with hc; subst hc; rw [isD_hi c2] at hd; cases hd))
      by_cases hj0 : j = 0
      · subst hj0
        have HR := Lib.hid (numR_no1 HD.out)
        have hia : i = a := by have := HI.out; omega
        subst hia
        clear hi
        go_wp2
        exact bodyPost_ret (v := .tuple #[.int .i64 ((0 : Nat) : Int), .int .i64 ((i : Nat) : Int), .bool false]) (by simp [results, Tryd.results84, go_sem]) rfl (NumQ.of HR.out)
      have h44 : ((i : Int) == (a : Int)) = false := by simp; omega
      have hal : a < s.size := by omega
      by_cases hz : (s[a].toNat : Int) = 48
      · have hzb : ((s[a].toNat : Int) == 48) = true := by simpa using hz
        by_cases hj1 : 1 < j
        · have HR := Lib.hid (numR_no2 (c := s[a]) HD.out hj1 (by rw [← HL.out]; exact byte_at hal) (by omega))
          have h54 : decide ((a : Int) + 1 < (i : Int)) = true := by simp; omega
          clear hi
          go_wp2
          exact bodyPost_ret (v := .tuple #[.int .i64 ((0 : Nat) : Int), .int .i64 ((a : Nat) : Int), .bool false]) (by simp [results, Tryd.results84, go_sem]) rfl (NumQ.of HR.out)
        have h54 : decide ((a : Int) + 1 < (i : Int)) = false := by simp; omega
        have hz2 : j ≤ 1 ∨ ∀ c, l[a]? = some c → c.toNat ≠ 48 := .inl (by omega)
        have HR := Lib.hid (numR_yes HD.out (by omega) hz2 (fun c hc => by rw [← HI.out, ← HL.out, byte_at hlt] at hc; injection hc with hc; subst hc; exact isD_hi c2))
        rw [← HN.out, ← HI.out] at HR
        clear hi
        go_wp2
        exact bodyPost_ret (v := .tuple #[.int .i64 ((n : Nat) : Int), .int .i64 ((i : Nat) : Int), .bool true]) (by simp [results, Tryd.results84, go_sem]) rfl (NumQ.of HR.out)
      have hzb : ((s[a].toNat : Int) == 48) = false := by simpa using hz
      have hz2 : j ≤ 1 ∨ ∀ c, l[a]? = some c → c.toNat ≠ 48 := .inr (fun c hc => by rw [← HL.out, byte_at hal] at hc; injection hc with hc; subst hc; omega)
      have HR := Lib.hid (numR_yes HD.out (by omega) hz2 (fun c hc => by rw [← HI.out, ← HL.out, byte_at hlt] at hc; injection hc with hc; subst hc; exact isD_hi c2))
      rw [← HN.out, ← HI.out] at HR
      clear hi
      go_wp2
      exact bodyPost_ret (v := .tuple #[.int .i64 ((n : Nat) : Int), .int .i64 ((i : Nat) : Int), .bool true]) (by simp [results, Tryd.results84, go_sem]) rfl (NumQ.of HR.out)
    have c2b : decide ((s[i].toNat : Int) ≤ 57) = true := by simpa using c2
    obtain ⟨R2, hv⟩ := R.out.next (c := s[i]) (by rw [← HI.out, ← HL.out]; exact byte_at hlt) (isD_yes c1 c2) h9
    have HR2 := Lib.hid R2
    have HV := Lib.hid hv
    have hlt2 := R2.lt
    have hsub : IntKind.u8.wrap ((s[i].toNat : Int) - 48) = (s[i].toNat : Int) - 48 := by rw [IntKind.wrap_u8]; omega
    have hmul : IntKind.i64.wrap (10 * (n : Int)) = 10 * (n : Int) := IntWalk.i64_in _ (by omega)
    have hcv : IntKind.i64.wrap ((s[i].toNat : Int) - 48) = (s[i].toNat : Int) - 48 := IntWalk.i64_in _ (by omega)
    have hadd : IntKind.i64.wrap (10 * (n : Int) + ((s[i].toNat : Int) - 48)) = 10 * (n : Int) + ((s[i].toNat : Int) - 48) := IntWalk.i64_in _ (by omega)
    have hwi : IntKind.i64.wrap ((i : Int) + 1) = (i : Int) + 1 := IntWalk.i64_in _ (by omega)
    rw [hv, ← HN.out] at hlt2
    clear hi R2 hv
    go_wp2
    go_round
    case rel => exact ⟨i + 1, j + 1, 10 * n + (s[i].toNat - 48), by have := HI.out; omega, hlt, by congr 1; omega, by go_num, HR2, hlt2, by omega, by unfold Hid; rw [HV.out, ← HN.out]⟩
    case measure => simp [intOf]; omega
end Go.Proofs.YtmanmlankfoflaaDoor

/- Texts of sets: what the library's Cut, Split, Atoi and the reference's Number make of them. Plain Lean, no program in sight. -/
namespace Go.Proofs.YtmanmlankfoflaaDoor
variable [Base]

/-! One byte as a separator. -/
theorem index_one : ∀ (a b : Str) (c : UInt8), c ∉ a → Lib.index (a ++ c :: b) [c] = (a.length : Int)
  | [], b, c, _ => by simp [Lib.index]
  | x :: a, b, c, h => by
    have hx : ¬ c = x := fun e => h (e ▸ List.mem_cons_self)
    have ih := index_one a b c (fun k => h (List.mem_cons_of_mem _ k))
    have e : List.isPrefixOf [c] (x :: (a ++ c :: b)) = false := by simp [List.isPrefixOf, hx]
    show Lib.index (x :: (a ++ c :: b)) [c] = _
    unfold Lib.index
    rw [if_neg (by rw [e]; simp), ih, if_neg (by simp)]
    simp
theorem index_none : ∀ (a : Str) (c : UInt8), c ∉ a → Lib.index a [c] = -1
  | [], c, _ => by simp [Lib.index]
  | x :: a, c, h => by
    have hx : ¬ c = x := fun e => h (e ▸ List.mem_cons_self)
    have ih := index_none a c (fun k => h (List.mem_cons_of_mem _ k))
    have e : List.isPrefixOf [c] (x :: a) = false := by simp [List.isPrefixOf, hx]
    unfold Lib.index
    rw [if_neg (by rw [e]; simp), ih]
    rfl
theorem cut_one (a b : Str) (c : UInt8) (h : c ∉ a) : Lib.cut (a ++ c :: b) [c] = (a, b, true) := by
  unfold Lib.cut
  rw [index_one a b c h, if_pos (by omega), Int.toNat_natCast]
  simp
theorem split_one (c : UInt8) : ∀ (ps : List Str) (p : Str), (∀ x ∈ p :: ps, c ∉ x) → ∀ k, k = ps.length → Lib.splitK [c] 0 k (p ++ Lib.joinTail [c] ps) = p :: ps
  | [], p, _, k, hk => by subst hk; simp [Lib.splitK, Lib.joinTail]
  | q :: qs, p, h, k, hk => by
    subst hk
    have hp := h p List.mem_cons_self
    have e : Lib.joinTail [c] (q :: qs) = c :: (q ++ Lib.joinTail [c] qs) := by simp [Lib.joinTail]
    rw [e, List.length_cons]
    unfold Lib.splitK
    rw [index_one _ _ _ hp, if_neg (by simp), Int.toNat_natCast]
    rw [Nat.add_zero, List.take_left, List.length_singleton]
    rw [show (p ++ c :: (q ++ Lib.joinTail [c] qs)).drop (p.length + 1) = q ++ Lib.joinTail [c] qs by simp]
    rw [split_one c qs q (fun x hx => h x (List.mem_cons_of_mem _ hx)) _ rfl]
theorem count_join (c : UInt8) : ∀ (ps : List Str) (p : Str), (∀ x ∈ p :: ps, c ∉ x) → (p ++ Lib.joinTail [c] ps).count c = ps.length
  | [], p, h => by simp [Lib.joinTail, List.count_eq_zero.2 (h p List.mem_cons_self)]
  | q :: qs, p, h => by
    have e : Lib.joinTail [c] (q :: qs) = c :: (q ++ Lib.joinTail [c] qs) := by simp [Lib.joinTail]
    rw [e, List.count_append, List.count_eq_zero.2 (h p List.mem_cons_self), List.count_cons_self, count_join c qs q (fun x hx => h x (List.mem_cons_of_mem _ hx))]
    simp
/-- The pieces between commas. -/
def pcs (l : Str) : List Str := Lib.splitK [44] 0 (l.count 44) l
theorem pcs_join (ps : List Str) (h : ∀ x ∈ ps, (44 : UInt8) ∉ x) (h0 : ps ≠ []) : pcs (Lib.join ps [44]) = ps := by
  rcases ps with _ | ⟨p, ps⟩
  · exact absurd rfl h0
  · unfold pcs
    rw [Lib.join_cons, count_join 44 ps p h, split_one 44 ps p h _ rfl]
theorem pcs_nil : pcs [] = [[]] := rfl

/-! Numbers up to the greatest width. -/
theorem dec_facts : ∀ n, n < 257 → (dec10 n).all isD = true ∧ (dec10 n).length ≠ 0 ∧ Lib.atoiAll (dec10 n) = .ok (n : Int) ∧ numVal (dec10 n) = n ∧ (dec10 n).length ≤ 9 ∧ ((dec10 n).head? = some 48 → (dec10 n).length ≤ 1) := by decide +kernel
theorem dec_no {n : Nat} (h : n < 257) {c : UInt8} (hc : isD c = false) : c ∉ dec10 n := fun k => by
  have := List.all_eq_true.1 (dec_facts n h).1 c k
  rw [hc] at this; cases this
theorem digRun_app : ∀ (f : Nat) (d r : Str), d.length ≤ f → d.all isD = true → r.head?.any isD = false → digRun f (d ++ r) = d
  | 0, d, r, h, _, _ => by
    have : d = [] := List.length_eq_zero_iff.1 (by omega)
    subst this; rfl
  | f + 1, [], [], _, _, _ => rfl
  | f + 1, [], c :: r, _, _, h => by
    have h' : isD c = false := h
    show digRun (f + 1) (c :: r) = []
    unfold digRun
    rw [if_neg (by rw [h']; simp)]
  | f + 1, c :: d, r, h1, h2, h3 => by
    simp only [List.all_cons, Bool.and_eq_true] at h2
    show digRun (f + 1) (c :: (d ++ r)) = _
    unfold digRun
    rw [if_pos h2.1, digRun_app f d r (by simpa using h1) h2.2 h3]
theorem numS_dec {n : Nat} (h : n < 257) {r : Str} (hr : r.head?.any isD = false) : numS (dec10 n ++ r) = some (n, (dec10 n).length) := by
  obtain ⟨h1, h2, h3, h4, h5, h6⟩ := dec_facts n h
  unfold numS
  rw [digRun_app 9 _ _ h5 h1 hr, if_neg, h4]
  rintro (e | ⟨e, e2⟩ | e)
  · rw [e] at h2; exact h2 rfl
  · have e' : (dec10 n).head? = some 48 := by
      cases hd : dec10 n with
      | nil => rw [hd] at h2; exact absurd rfl h2
      | cons c d => rw [hd] at e; exact e
    have := h6 e'; omega
  · rw [List.drop_left] at e
    rw [hr] at e; cases e

/-! What the two sides compute. -/
def fin (l : Str) (w : Int) (m : List Int) : QSet × Int := if (ofS w m).2 = 0 ∧ textS (ofS w m).1 = l then ((ofS w m).1, 0) else (zeroS, 4)
def atoiVal (r : Str) : Int := match Lib.atoiAll r with | .ok v => v | .range => Lib.atoiSat r | _ => 0
def atoiOk (r : Str) : Option Int := match Lib.atoiAll r with | .ok v => some v | _ => none
/-- The program's Parse. -/
def bpS (l : Str) : QSet × Int := fin l (atoiVal (Lib.cut l [47]).2.1) ((pcs (Lib.cut l [47]).1).filterMap atoiOk)
/-- The reference's loop: the numbers, and what is left. -/
def memR : Nat → Str → List Int → Option (List Int × Str)
  | 0, t, m => some (m, t)
  | _ + 1, [], m => some (m, [])
  | f + 1, c :: r, m => if c = 47 then some (m, c :: r) else match numS (c :: r) with
    | none => none
    | some (n, k) => memR f (if ((c :: r).drop k).head? = some 44 then ((c :: r).drop k).tail else (c :: r).drop k) (m ++ [(n : Int)])
def wdR (t : Str) : Nat := match numS (t.drop 1) with | none => 0 | some (n, _) => n
def rpS (l : Str) : QSet × Int := match memR (l.length + 1) l [] with | none => (zeroS, 4) | some (m, t) => fin l (wdR t : Int) m

/-! Sets of given members. -/
theorem ofGo_ok (m : Nat) (hm : m ≤ 256) : ∀ (l : List Int) (t : QSet), Ok m t → (ofGo m l t).2 = 0 → Ok m (ofGo m l t).1
  | [], t, h, _ => h
  | b :: l, t, h, h2 => by
    rw [ofGo_cons] at h2 ⊢
    split at h2
    · cases h2
    · rename_i hb
      rw [if_neg hb]
      refine ofGo_ok m hm l _ ⟨form_put h.form _, put_ok h.ok h.words (by have := h.width; omega), h.width⟩ h2
theorem empty_is {m : Nat} (hm : m ≤ 256) : Ok m (emptyS m) := ⟨form_empty hm, empty_ok hm, rfl⟩
theorem ofS_ok {w : Int} {l : List Int} (h : (ofS w l).2 = 0) : ∃ m, Ok m (ofS w l).1 := by
  unfold ofS at h ⊢
  split at h
  · rename_i hw
    rw [if_pos hw]
    exact ⟨w.toNat, ofGo_ok _ (by omega) l _ (empty_is (by omega)) h⟩
  · cases h
theorem ofGo_all (m : Nat) (hm : m ≤ 256) : ∀ (l : List Nat) (t : QSet), Ok m t → (∀ b ∈ l, b < m) → ∃ r, ofGo m (l.map Int.ofNat) t = (r, 0) ∧ Ok m r ∧ ∀ k : Nat, bitOf r.words k = (bitOf t.words k || decide (k ∈ l))
  | [], t, h, _ => ⟨t, rfl, h, fun k => by simp⟩
  | b :: l, t, h, hl => by
    have hb := hl b List.mem_cons_self
    have hp : Ok m (putS t b) := ⟨form_put h.form _, put_ok h.ok h.words (by have := h.width; omega), h.width⟩
    obtain ⟨r, h1, h2, h3⟩ := ofGo_all m hm l _ hp (fun x hx => hl x (List.mem_cons_of_mem _ hx))
    refine ⟨r, ?_, h2, fun k => ?_⟩
    · rw [List.map_cons, ofGo_cons, if_neg (by simp only [Int.ofNat_eq_natCast]; omega)]
      exact h1
    · rw [h3, put_bit h.form (by have := h.width; omega)]
      by_cases e : k = b
      · subst e; simp
      · simp [e]
theorem ofS_mem {m : Nat} {s : QSet} (h : Ok m s) : ofS s.width ((memS s).map Int.ofNat) = (s, 0) := by
  have hm := h.le
  have hw := h.width
  have hlt : ∀ b ∈ memS s, b < m := fun b hb => by
    unfold memS at hb
    rw [if_pos h.ok] at hb
    have := List.mem_range.1 (List.mem_filter.1 hb).1
    omega
  obtain ⟨r, h1, h2, h3⟩ := ofGo_all m hm (memS s) _ (empty_is hm) hlt
  have e : r = s := h2.ext h fun k => by
    rw [h3, empty_bit, Bool.false_or]
    unfold memS
    rw [if_pos h.ok, Bool.eq_iff_iff, decide_eq_true_eq, List.mem_filter, List.mem_range]
    constructor
    · exact fun k => k.2
    · intro hk
      refine ⟨?_, hk⟩
      rcases Nat.lt_or_ge k m with h4 | h4
      · omega
      · rw [h.tail h4] at hk; cases hk
  unfold ofS
  rw [if_pos (by omega), show s.width.toNat = m by omega, h1, e]
theorem fin_no {l : Str} (h : ¬ ∃ m s, Ok m s ∧ textS s = l) (w : Int) (m : List Int) : fin l w m = (zeroS, 4) := by
  unfold fin
  rw [if_neg]
  rintro ⟨h1, h2⟩
  obtain ⟨m2, h3⟩ := ofS_ok h1
  exact h ⟨m2, _, h3, h2⟩
theorem fin_yes {m : Nat} {s : QSet} (h : Ok m s) : fin (textS s) s.width ((memS s).map Int.ofNat) = (s, 0) := by
  unfold fin
  rw [ofS_mem h]
  simp
theorem isD_comma : isD 44 = false := by decide
theorem isD_slash : isD 47 = false := by decide
theorem mem_dec {s : QSet} (h : wordsOk s.words) {x : Str} (hx : x ∈ (memS s).map dec10) : ∃ n, n < 257 ∧ x = dec10 n := by
  obtain ⟨n, hn, rfl⟩ := List.mem_map.1 hx
  exact ⟨n, by have := memS_lt h hn; omega, rfl⟩
theorem join_no {ps : List Str} {c : UInt8} (h : ∀ x ∈ ps, c ∉ x) (hc : c ≠ 44) : c ∉ Lib.join ps [44] := by
  rcases ps with _ | ⟨p, ps⟩
  · simp [Lib.join_nil]
  · rw [Lib.join_cons, List.mem_append]
    rintro (k | k)
    · exact h p List.mem_cons_self k
    · unfold Lib.joinTail at k
      simp only [List.mem_flatten, List.mem_map] at k
      obtain ⟨y, ⟨x, hx, rfl⟩, hy⟩ := k
      rcases List.mem_append.1 hy with hy | hy
      · simp at hy; exact hc hy
      · exact h x (List.mem_cons_of_mem _ hx) hy
theorem text_eq {m : Nat} {s : QSet} (h : Ok m s) : textS s = Lib.join ((memS s).map dec10) [44] ++ 47 :: dec10 m := by
  unfold textS
  rw [if_pos h.ok, show s.width.toNat = m by have := h.width; omega]
theorem filterMap_dec : ∀ (l : List Nat), (∀ n ∈ l, n < 257) → (l.map dec10).filterMap atoiOk = l.map Int.ofNat
  | [], _ => rfl
  | n :: l, h => by
    have e : atoiOk (dec10 n) = some (n : Int) := by unfold atoiOk; rw [(dec_facts n (h n List.mem_cons_self)).2.2.1]
    rw [List.map_cons, List.filterMap_cons, e, filterMap_dec l (fun x hx => h x (List.mem_cons_of_mem _ hx))]
    rfl
theorem bpS_text {m : Nat} {s : QSet} (h : Ok m s) : bpS (textS s) = (s, 0) := by
  have hm := h.le
  have hlt : ∀ n ∈ memS s, n < 257 := fun n hn => by have := memS_lt h.words hn; omega
  have hno : (47 : UInt8) ∉ Lib.join ((memS s).map dec10) [44] := join_no (fun x hx => by obtain ⟨n, hn, rfl⟩ := mem_dec h.words hx; exact dec_no hn isD_slash) (by decide)
  unfold bpS
  have e1 : Lib.cut (textS s) [47] = (Lib.join ((memS s).map dec10) [44], dec10 m, true) := by rw [text_eq h]; exact cut_one _ _ _ hno
  rw [e1]
  have e2 : atoiVal (dec10 m) = s.width := by unfold atoiVal; rw [(dec_facts m (by omega)).2.2.1]; exact h.width.symm
  have e3 : (pcs (Lib.join ((memS s).map dec10) [44])).filterMap atoiOk = (memS s).map Int.ofNat := by
    by_cases h0 : memS s = []
    · rw [h0]; rfl
    · rw [pcs_join _ (fun x hx => by obtain ⟨n, hn, rfl⟩ := mem_dec h.words hx; exact dec_no hn isD_comma) (by simpa using h0), filterMap_dec _ hlt]
  show fin (textS s) (atoiVal (dec10 m)) ((pcs (Lib.join ((memS s).map dec10) [44])).filterMap atoiOk) = _
  rw [e2, e3, fin_yes h]
theorem memR_text : ∀ (l : List Nat) (f : Nat) (r : Str) (acc : List Int), (∀ n ∈ l, n < 257) → l ≠ [] → l.length < f → memR f (Lib.join (l.map dec10) [44] ++ 47 :: r) acc = some (acc ++ l.map Int.ofNat, 47 :: r)
  | [], _, _, _, _, h, _ => absurd rfl h
  | n :: l, 0, r, acc, _, _, h => by simp at h
  | n :: l, f + 1, r, acc, h1, _, h2 => by
    have hn := h1 n List.mem_cons_self
    obtain ⟨c, d, hd⟩ : ∃ c d, dec10 n = c :: d := by
      cases e : dec10 n with
      | nil => exact absurd (by rw [e]; rfl) (dec_facts n hn).2.1
      | cons c d => exact ⟨c, d, rfl⟩
    have hc : c ≠ 47 := fun e => dec_no hn isD_slash (by rw [hd, e]; exact List.mem_cons_self)
    obtain ⟨tl, htl⟩ : ∃ tl, Lib.joinTail [44] (l.map dec10) ++ 47 :: r = tl := ⟨_, rfl⟩
    have e0 : Lib.join ((n :: l).map dec10) [44] ++ 47 :: r = dec10 n ++ tl := by rw [List.map_cons, Lib.join_cons, List.append_assoc, htl]
    have ht : tl.head?.any isD = false := by
      rw [← htl]
      rcases l with _ | ⟨q, l⟩
      · rfl
      · rfl
    have e1 : numS (c :: (d ++ tl)) = some (n, (dec10 n).length) := by rw [← List.cons_append, ← hd]; exact numS_dec hn ht
    rw [e0, hd, List.cons_append]
    unfold memR
    rw [if_neg hc, e1]
    have e2 : (c :: (d ++ tl)).drop (dec10 n).length = tl := by rw [← List.cons_append, ← hd, List.drop_left]
    simp only [e2]
    rcases l with _ | ⟨q, l⟩
    · have : tl = 47 :: r := by rw [← htl]; rfl
      rw [this, if_neg (by simp)]
      cases f with
      | zero => rfl
      | succ f => unfold memR; simp
    · have e3 : tl = 44 :: (Lib.join ((q :: l).map dec10) [44] ++ 47 :: r) := by rw [← htl, List.map_cons, Lib.join_cons]; simp [Lib.joinTail]
      rw [e3, if_pos (by rfl), List.tail_cons, memR_text (q :: l) f r _ (fun x hx => h1 x (List.mem_cons_of_mem _ hx)) (by simp) (by simp at h2 ⊢; omega)]
      simp
theorem join_ge (l : List Nat) (h : ∀ n ∈ l, n < 257) : l.length ≤ (Lib.join (l.map dec10) [44]).length := by
  rcases l with _ | ⟨n, l⟩
  · simp
  · rw [List.map_cons, Lib.join_cons, List.length_append]
    have h1 := (dec_facts n (h n List.mem_cons_self)).2.1
    have h2 : ∀ l : List Str, l.length ≤ (Lib.joinTail [44] l).length := by
      intro l
      induction l with
      | nil => simp
      | cons x l ih => unfold Lib.joinTail at *; simp at ih ⊢; omega
    have := h2 (l.map dec10)
    simp at this ⊢
    omega
theorem rpS_text {m : Nat} {s : QSet} (h : Ok m s) : rpS (textS s) = (s, 0) := by
  have hm := h.le
  have hlt : ∀ n ∈ memS s, n < 257 := fun n hn => by have := memS_lt h.words hn; omega
  have e : memR ((textS s).length + 1) (textS s) [] = some ((memS s).map Int.ofNat, 47 :: dec10 m) := by
    have hl : (memS s).length < (textS s).length + 1 := by
      have := join_ge _ hlt
      rw [text_eq h, List.length_append]; omega
    obtain ⟨f, hf⟩ : ∃ f, (textS s).length + 1 = f := ⟨_, rfl⟩
    rw [hf] at hl ⊢
    rw [text_eq h]
    by_cases h0 : memS s = []
    · rw [h0]
      obtain ⟨f, rfl⟩ : ∃ f', f = f' + 1 := ⟨f - 1, by omega⟩
      show memR (f + 1) (47 :: dec10 m) [] = _
      unfold memR
      simp
    · rw [memR_text _ _ _ _ hlt h0 hl]; rfl
  have e2 : wdR (47 :: dec10 m) = m := by
    unfold wdR
    have := numS_dec (n := m) (by omega) (r := []) rfl
    rw [List.append_nil] at this
    rw [List.drop_one, List.tail_cons, this]
  unfold rpS
  rw [e]
  show fin (textS s) (wdR (47 :: dec10 m) : Int) ((memS s).map Int.ofNat) = _
  rw [e2, ← h.width, fin_yes h]
/-- The two sides agree on every string. -/
theorem bp_rp (l : Str) : bpS l = rpS l := by
  by_cases h : ∃ m s, Ok m s ∧ textS s = l
  · obtain ⟨m, s, h1, rfl⟩ := h
    rw [bpS_text h1, rpS_text h1]
  · unfold bpS rpS
    rw [fin_no h]
    split
    · rfl
    · rw [fin_no h]
end Go.Proofs.YtmanmlankfoflaaDoor

/- The library's Cut, Split and Atoi, in this seat's words. -/
namespace Go.Proofs.YtmanmlankfoflaaDoor
open Go.RowKit
variable [Base]

theorem gSyn : Tryd.prog.globalNamed "strconv.ErrSyntax" = some 2 := by kernel_rfl
theorem gRng : Tryd.prog.globalNamed "strconv.ErrRange" = some 3 := by kernel_rfl
/-- The library's variables below B: the tables, bytealg's bound (some number), strconv's two errors. -/
structure VarsIn (B : Nat) (w : World) : Prop where
  tabs : TabsIn B w
  num : 1 < B ∧ 2 < B ∧ 3 < B
  mx : ∃ m, w.cell? ⟨1, 0, none⟩ = some (.int .i64 m)
  syn : ∃ tp p, w.var? Tryd.prog "strconv.ErrSyntax" = some #[.iface tp p]
  rng : ∃ tp p, w.var? Tryd.prog "strconv.ErrRange" = some #[.iface tp p]
theorem VarsIn.keep {B : Nat} {w w' : World} (h : VarsIn B w) (hB : ∀ k, k < B → w'.heap[k]? = w.heap[k]?) : VarsIn B w' := by
  obtain ⟨n1, n2, n3⟩ := h.num
  refine ⟨h.tabs.keep hB, h.num, ?_, ?_, ?_⟩
  · obtain ⟨m, hm⟩ := h.mx
    exact ⟨m, (World.cell?_of_block (hB _ n1)).trans hm⟩
  · obtain ⟨tp, p, hp⟩ := h.syn
    refine ⟨tp, p, ?_⟩
    unfold World.var? at hp ⊢
    rw [gSyn] at hp ⊢
    simp only [Option.bind_some] at hp ⊢
    rw [hB _ n2]
    exact hp
  · obtain ⟨tp, p, hp⟩ := h.rng
    refine ⟨tp, p, ?_⟩
    unfold World.var? at hp ⊢
    rw [gRng] at hp ⊢
    simp only [Option.bind_some] at hp ⊢
    rw [hB _ n3]
    exact hp
theorem VarsIn.below {B : Nat} {w w' : World} (h : VarsIn B w) (hb : Below B w w') : VarsIn B w' := h.keep fun k hk => hb.block k hk
theorem data_str (l : Str) : (⟨l.toArray⟩ : ByteArray).data.toList = l := rfl
theorem size_str (l : Str) : (⟨l.toArray⟩ : ByteArray).size = l.length := by simp [ByteArray.size]
def AtoiQ (r : Str) (w : World) (e : Ending) (w' : World) : Prop :=
  ∃ ev, e = .returned (.tuple #[.int .i64 (atoiVal r), ev]) ∧ ((atoiOk r = none ∧ ∃ tp p, ev = .iface tp p) ∨ (atoiOk r = some (atoiVal r) ∧ ev = .nilIface)) ∧ Below w.heap.size w w'
theorem atoi_any {B : Nat} (r : Str) (hl : r.length ≤ 1000000000) (w : World) (hV : VarsIn B w) : Calls Tryd.prog 63 #[qs r] w (AtoiQ r w) := by
  rcases h : Lib.atoiAll r with v | _ | _
  · refine (Tryd.strconv_Atoi_ok ⟨r.toArray⟩ (by rw [size_str]; omega) v h w).mono ?_
    rintro e w' ⟨rfl, hw⟩
    refine ⟨.nilIface, ?_, .inr ⟨?_, rfl⟩, ?_⟩
    · unfold atoiVal; rw [h]
    · unfold atoiOk atoiVal; rw [h]
    · rcases hw with rfl | ⟨t, rfl⟩
      · exact Below.refl _ _
      · exact ⟨rfl, rfl, rfl, by rw [Lib.bytesWorld_size]; omega, fun k hk => Lib.bytesWorld_at_old _ _ _ k hk⟩
  · obtain ⟨tp, p, hp⟩ := hV.syn
    refine (Tryd.strconv_Atoi_syntax_var ⟨r.toArray⟩ (by rw [size_str]; omega) h tp p w hp).mono ?_
    rintro e w' ⟨N, rfl, -, -, hb⟩
    have e0 : atoiVal r = 0 := by unfold atoiVal; rw [h]
    unfold AtoiQ
    rw [e0]
    exact ⟨_, rfl, .inl ⟨by unfold atoiOk; rw [h], _, _, rfl⟩, hb⟩
  · obtain ⟨tp, p, hp⟩ := hV.rng
    refine (Tryd.strconv_Atoi_range_var ⟨r.toArray⟩ (by rw [size_str]; omega) h tp p w hp).mono ?_
    rintro e w' ⟨N, rfl, -, -, hb⟩
    have e0 : atoiVal r = Lib.atoiSat r := by unfold atoiVal; rw [h]
    unfold AtoiQ
    rw [e0]
    exact ⟨_, rfl, .inl ⟨by unfold atoiOk; rw [h], _, _, rfl⟩, hb⟩
def CutQ (l : Str) (w : World) (e : Ending) (w' : World) : Prop := ∃ b, e = .returned (.tuple #[qs (Lib.cut l [47]).1, qs (Lib.cut l [47]).2.1, .bool b]) ∧ Below w.heap.size w w'
theorem cut_any {B : Nat} (l : Str) (hl : l.length ≤ 1000000000) (w : World) (hV : VarsIn B w) : Calls Tryd.prog 62 #[qs l, .string ⟨#[47]⟩] w (CutQ l w) := by
  obtain ⟨m, hm⟩ := hV.mx
  refine (Tryd.strings_Cut ⟨l.toArray⟩ ⟨#[47]⟩ m w (by rw [size_str]; omega) hm).mono ?_
  rintro e w' ⟨rfl, n, rfl⟩
  exact ⟨_, rfl, below_drewQ (Below.refl _ _) n⟩
def SplitQ (l : Str) (w : World) (e : Ending) (w' : World) : Prop := ∃ v, e = .returned v ∧ StrsAt w' v (pcs l) ∧ Below w.heap.size w w'
theorem pcs_len (l : Str) : (pcs l).length ≤ l.length + 1 := by
  unfold pcs
  have h := Lib.splitB_length_le ⟨#[44]⟩ 0 (l.count 44) ⟨l.toArray⟩
  have e := congrArg List.length (Lib.splitB_data ⟨#[44]⟩ 0 (l.count 44) ⟨l.toArray⟩)
  rw [List.length_map] at e
  have e2 : (Lib.splitK [44] 0 (l.count 44) l).length = _ := e.symm
  have := List.count_le_length (a := (44 : UInt8)) (l := l)
  omega
theorem split_any {B : Nat} (l : Str) (hl : l.length ≤ 1000000000) (w : World) (hV : VarsIn B w) : Calls Tryd.prog 64 #[qs l, .string ⟨#[44]⟩] w (SplitQ l w) := by
  obtain ⟨m, hm⟩ := hV.mx
  refine (Tryd.strings_Split ⟨l.toArray⟩ ⟨#[44]⟩ m w (by rw [size_str]; omega) hm (by decide)).mono ?_
  rintro e w' ⟨rfl, rfl⟩
  have hc : Lib.countB ⟨l.toArray⟩ ⟨#[44]⟩ = l.count 44 := by
    show Lib.count l [44] = _
    rw [Lib.count_one]
  have hlen := Lib.splitB_all ⟨#[44]⟩ (by decide) 0 _ ⟨l.toArray⟩ hc
  rw [hc]
  have hd := Lib.splitB_data ⟨#[44]⟩ 0 (l.count 44) ⟨l.toArray⟩
  have hp : ((Lib.splitB ⟨#[44]⟩ 0 (l.count 44) ⟨l.toArray⟩).map Value.string) = (pcs l).map qs := by
    show _ = (Lib.splitK [44] 0 (l.count 44) l).map qs
    rw [show Lib.splitK [44] 0 (l.count 44) l = _ from hd.symm, List.map_map]
    rfl
  have hpl : (pcs l).length = l.count 44 + 1 := by rw [← hlen]; have := congrArg List.length hp; simpa using this.symm
  refine ⟨_, rfl, ?_, (Below.refl _ _).alloc (Nat.le_refl _) _⟩
  rw [hp]
  have h2 := List.count_le_length (a := (44 : UInt8)) (l := l)
  refine SliceAt.new ((pcs l).map qs) (l.count 44 + 1) (by rw [List.length_map, hpl]; omega) (by unfold maxLen; omega)
theorem StrsAt.cell {w : World} {v : Value} {l : List Str} (h : StrsAt w v l) : ∃ a c, v = .slice a l.length c ∧ l.length ≤ maxLen ∧ ∀ k x, l[k]? = some x → ∃ b off, a = some ⟨b, off, none⟩ ∧ b < w.heap.size ∧ w.cell? ⟨b, off + k, none⟩ = some (qs x) := by
  obtain ⟨a, n, c, rfl, h1, h2, h3, h4, h5⟩ := SliceAt.form h
  simp at h1
  subst h1
  refine ⟨a, c, rfl, h2, fun k x hk => ?_⟩
  obtain ⟨hk2, rfl⟩ := List.getElem?_eq_some_iff.1 hk
  obtain ⟨b, off, rfl, hb, ht, hc⟩ := h5 (by omega)
  refine ⟨b, off, rfl, hb, ?_⟩
  rw [hc _ (by simpa using hk2)]
  simp [hk2]
/-- Numbers in a row of one's own. -/
structure NIn (w0 wr : World) (v : Value) (l : List Int) : Prop where
  below : Below w0.heap.size w0 wr
  own : wr.ownsRow w0.heap.size 3 1 v l.length (l.map iv)
theorem NIn.push {w0 wr w2 : World} {v v2 : Value} {l : List Int} {x : Int} (h : NIn w0 wr v l) (ho : w2.ownsRow w0.heap.size 3 1 v2 (l.length + 1) (l.map iv ++ [iv x])) (hg : wr.grownBy w2 v.ownBlock) : NIn w0 w2 v2 (l ++ [x]) :=
  ⟨h.below.trans (Below.of_grown hg h.own h.below.size), by rw [List.length_append, List.map_append]; exact ho⟩
theorem NIn.after {w0 wr w2 : World} {v : Value} {l : List Int} (h : NIn w0 wr v l) (hb : Below wr.heap.size wr w2) : NIn w0 w2 v l := by
  refine ⟨h.below.trans (hb.mono h.below.size), h.own.1, ?_⟩
  rcases h.own.2 with hn | ⟨g, cap, cur, rfl, hg, hh, rest⟩
  · exact .inl hn
  · exact .inr ⟨g, cap, cur, rfl, hg, (hb.block g (lt_heap hh)).trans hh, rest⟩
theorem NIn.ints {w0 wr : World} {v : Value} {l : List Int} (h : NIn w0 wr v l) : IntsAt wr v l := SliceAt.of_owns h.own
theorem NIn.nil (w : World) : NIn w w (.slice none 0 0) [] := ⟨Below.refl _ _, World.ownsRow_nil _ _ _ _⟩
end Go.Proofs.YtmanmlankfoflaaDoor

/- Walk: the program's Parse. Printed by wip/gen_bspa.py. -/
namespace Go.Proofs.YtmanmlankfoflaaDoor
open Go.RowKit
variable [Base]

theorem cut_len (l : Str) : (Lib.cut l [47]).1.length ≤ l.length ∧ (Lib.cut l [47]).2.1.length ≤ l.length := by
  unfold Lib.cut
  split
  · simp only [List.length_take, List.length_drop]; omega
  · simp
theorem filter_some {l : List Str} {i : Nat} {x : Str} {v : Int} (h : l[i]? = some x) (hv : atoiOk x = some v) : (l.take (i + 1)).filterMap atoiOk = (l.take i).filterMap atoiOk ++ [v] := by
  rw [List.take_add_one, h, List.filterMap_append]; simp [hv]
theorem filter_none {l : List Str} {i : Nat} {x : Str} (h : l[i]? = some x) (hv : atoiOk x = none) : (l.take (i + 1)).filterMap atoiOk = (l.take i).filterMap atoiOk := by
  rw [List.take_add_one, h, List.filterMap_append]; simp [hv]
theorem split_lens : ∀ (c : UInt8) (k : Nat) (l : Str), ∀ x ∈ Lib.splitK [c] 0 k l, x.length ≤ l.length
  | c, 0, l, x, h => by simp [Lib.splitK] at h; subst h; exact Nat.le_refl _
  | c, k + 1, l, x, h => by
    unfold Lib.splitK at h
    split at h
    · simp at h; subst h; exact Nat.le_refl _
    · rcases List.mem_cons.1 h with rfl | h
      · simp only [List.length_take]; omega
      · have := split_lens c k _ x h
        simp only [List.length_drop] at this; omega
set_option maxRecDepth 100000 in
set_option maxHeartbeats 4000000 in
theorem bparse_any {B : Nat} (l : Str) (hl : l.length ≤ 1000000) (w : World) (hV : VarsIn B w) (hB : B ≤ w.heap.size) : Calls Tryd.prog 34 #[qs l] w (WordsE (bpS l) w) := by
  have hud : ∀ b : Bool, (undef = Value.bool b) = False := fun b => by simp [undef]
  obtain ⟨W, hW⟩ : ∃ W, w.alloc (.cells #[.int .i64 0, .slice none 0 0] 25) = W := ⟨_, rfl⟩
  have B0 : Below w.heap.size w W := by rw [← hW]; exact (Below.refl _ _).alloc (Nat.le_refl _) _
  have HB0 : W.heap[w.heap.size]? = some (.cells #[.int .i64 0, .slice none 0 0] 25 (0, 0)) := by rw [← hW]; exact heap_alloc_new _ _
  have H0 := Lib.hid HB0
  have HW := Lib.hid hW
  have BB := Lib.hid B0
  have HV := Lib.hid hV
  clear hW HB0 B0 hV
  go_enter Tryd.func34, Tryd.ntmps34
  go_wp2_with fail
  rw [show w.alloc (.cells #[.int .i64 0, .slice none 0 0] 25) = W from HW.out]
  refine (cut_any (B := B) l (by omega) W (HV.out.below (BB.out.mono hB))).mono ?_
  rintro e w1 ⟨cb, rfl, b1⟩
  have HFIN : Hid (bpS l = fin l (atoiVal (Lib.cut l [47]).2.1) ((pcs (Lib.cut l [47]).1).filterMap atoiOk)) := rfl
  obtain ⟨c1, c2⟩ := cut_len l
  obtain ⟨lf, hlf⟩ : ∃ x, (Lib.cut l [47]).1 = x := ⟨_, rfl⟩
  obtain ⟨rt, hrt⟩ : ∃ x, (Lib.cut l [47]).2.1 = x := ⟨_, rfl⟩
  rw [hlf] at c1 HFIN ⊢
  rw [hrt] at c2 HFIN ⊢
  have B1 := Lib.hid (BB.out.trans (b1.mono BB.out.size))
  have LW1 := Lib.hid (lies_below H0.out b1 (lt_heap H0.out))
  clear hlf hrt b1
  go_wp2_with fail
  refine (atoi_any (B := B) rt (by omega) w1 (HV.out.below (B1.out.mono hB))).mono ?_
  rintro e w2 ⟨ev, rfl, -, b2⟩
  obtain ⟨wd, hwd⟩ : ∃ x, atoiVal rt = x := ⟨_, rfl⟩
  rw [hwd] at HFIN ⊢
  have B2 := Lib.hid (B1.out.trans (b2.mono B1.out.size))
  have LW2 := Lib.hid (lies_below LW1.out b2 (lt_heap LW1.out))
  clear hwd b2
  go_wp2_with fail
  refine (split_any (B := B) lf (by omega) w2 (HV.out.below (B2.out.mono hB))).mono ?_
  rintro e w3 ⟨v, rfl, hs, b3⟩
  have hpl := pcs_len lf
  have HSL : Hid (∀ x ∈ pcs lf, x.length ≤ lf.length) := Lib.hid (split_lens 44 _ lf)
  obtain ⟨ps, hps⟩ : ∃ ps, pcs lf = ps := ⟨_, rfl⟩
  rw [hps] at hs hpl HFIN HSL
  obtain ⟨sa, sc, rfl, -, hcell⟩ := hs.cell
  obtain ⟨n, hn⟩ : ∃ n, ps.length = n := ⟨_, rfl⟩
  rw [hn] at hpl ⊢
  have HN := Lib.hid hn
  have HC := Lib.hid hcell
  have B3 := Lib.hid (B2.out.trans (b3.mono B2.out.size))
  have LW3 := Lib.hid (lies_below LW2.out b3 (lt_heap LW2.out))
  have L3x := Lib.hid (show ∀ wr, Below w3.heap.size w3 wr → wr.heap[w.heap.size]? = some (.cells #[.int .i64 0, .slice none 0 0] 25 (0, 0)) from fun wr hb => lies_below LW3.out hb (lt_heap LW3.out))
  clear hs hcell hps b3 hn
  have I0 := Lib.hid (NIn.nil w3)
  go_wp2_with fail
  go_loopw [9, 30] (fun y9 y30 wr => ∃ i : Nat, i ≤ n ∧ y30 = .int .i64 i ∧ Hid (NIn w3 wr y9 ((ps.take i).filterMap atoiOk))) (fun _ y _ => n - (intOf y).toNat)
  case atStart => exact ⟨0, Nat.zero_le _, rfl, I0.out⟩
  case round =>
    clear I0
    obtain ⟨i, hi, rfl, I⟩ := hrel
    by_cases hlt : i < n
    · obtain ⟨x, hx⟩ : ∃ x, ps[i]? = some x := ⟨_, List.getElem?_eq_getElem (show i < ps.length by have := HN.out; omega)⟩
      obtain ⟨xb, off, rfl, hxb, hcell⟩ := HC.out i x hx
      have gc := (I.out.below.cell (p := ⟨xb, off + i, none⟩) hxb).trans hcell
      have hxl : x.length ≤ l.length := Nat.le_trans (HSL.out x (List.mem_of_getElem? hx)) c1
      have HX := Lib.hid hx
      obtain ⟨acc, hacc⟩ : ∃ a, (ps.take i).filterMap atoiOk = a := ⟨_, rfl⟩
      have hal : acc.length ≤ i := by
        rw [← hacc]
        have := List.length_filterMap_le (f := atoiOk) (l := ps.take i)
        rw [List.length_take] at this
        omega
      have HACC := Lib.hid hacc
      have I2 := Lib.hid (show NIn w3 wr u9 acc by rw [← hacc]; exact I.out)
      have HVW := Lib.hid (HV.out.below ((B3.out.trans (I.out.below.mono B3.out.size)).mono hB))
      clear hx hcell hacc
      go_wp2_with fail
      refine (atoi_any (B := B) x (by omega) wr HVW.out).mono ?_
      rintro e w4 ⟨ev, rfl, hev, b4⟩
      obtain ⟨vx, hvx⟩ : ∃ v, atoiVal x = v := ⟨_, rfl⟩
      rw [hvx] at hev ⊢
      have I4 := Lib.hid (I2.out.after b4)
      clear gc b4 hvx
      rcases hev with ⟨hno, tp, p, rfl⟩ | ⟨hok, rfl⟩
      · have HS := Lib.hid (filter_none HX.out hno)
        clear hno
        go_wp2
        go_roundw
        case rel => exact ⟨i + 1, by omega, by go_num, by rw [HS.out, HACC.out]; exact I4.out⟩
        case measure => simp [intOf]; omega
      · have HS := Lib.hid (filter_some HX.out hok)
        obtain ⟨ua, uc, rfl, huc, huc2⟩ := own_slice I4.out.own
        have OWN := Lib.hid I4.out.own
        have LE := Lib.hid I4.out.below.size
        clear hok
        go_wp2_with (at_builtin; refine wpList_pushH [iv vx] rfl _ _ 22 rfl w3.heap.size 3 _ 1 8 Tryd.underlying22 info_int rfl (by decide) _ acc.length _ OWN.out rfl _ rfl rfl rfl rfl (by unfold maxLen; omega) (by omega) LE.out ?_; intro g cap w6 own2 gr2 q1 q2; have OW2 := Lib.hid own2; have GR2 := Lib.hid gr2; clear own2 gr2 q1 q2)
        have I6 := Lib.hid (I4.out.push (x := vx) OW2.out GR2.out)
        go_roundw
        case rel => exact ⟨i + 1, by omega, by go_num, by rw [HS.out, HACC.out]; exact I6⟩
        case measure => simp [intOf]; omega
    · obtain rfl : i = n := by omega
      have I7 := Lib.hid (show NIn w3 wr u9 (ps.filterMap atoiOk) by have k := I.out; rw [List.take_of_length_le (by rw [HN.out]; exact Nat.le_refl _)] at k; exact k)
      have B7 := Lib.hid (B3.out.trans (I7.out.below.mono B3.out.size))
      have L7 := Lib.hid (L3x.out wr I7.out.below)
      have HI7 := Lib.hid I7.out.ints
      clear I
      go_wp2_with fail
      obtain ⟨q, hq⟩ : ∃ q, ofS wd (ps.filterMap atoiOk) = q := ⟨_, rfl⟩
      have HQ := Lib.hid hq
      obtain ⟨r, er⟩ := q
      have HOF := Lib.hid (show bpS l = (if er = 0 ∧ textS r = l then (r, 0) else (zeroS, 4)) by rw [HFIN.out]; unfold fin; rw [HQ.out])
      clear hq
      refine (bof_any wd (ps.filterMap atoiOk) _ wr HI7.out).mono ?_
      rw [HQ.out]
      rintro e w8 ⟨u, rfl, hu, b8⟩
      obtain ⟨ua, un, uc, rfl⟩ := hu.shape
      have WU := Lib.hid hu.words
      have B8 := Lib.hid (B7.out.trans (b8.mono B7.out.size))
      have L8 := Lib.hid (lies_below L7.out b8 (lt_heap L7.out))
      obtain ⟨V, hV⟩ : ∃ V, w8.alloc (.cells #[.int .i64 r.width, .slice ua un uc] 25) = V := ⟨_, rfl⟩
      have hbv : Below w8.heap.size w8 V := by rw [← hV]; exact (Below.refl _ _).alloc (Nat.le_refl _) _
      have PS := Lib.hid (show V.heap[w8.heap.size]? = some (.cells #[.int .i64 r.width, .slice ua un uc] 25 (0, 0)) by rw [← hV]; exact heap_alloc_new _ _)
      have L9 := Lib.hid (lies_below L8.out hbv (lt_heap L8.out))
      have B9 := Lib.hid (B8.out.trans (hbv.mono B8.out.size))
      have WV := Lib.hid (WU.out.below hbv)
      have HVV := Lib.hid hV
      clear hu b8 hbv hV
      have HR8 := Lib.hid (lt_heap L8.out)
      have hr9 : w.heap.size ≠ w8.heap.size := by have := HR8.out; omega
      have hr7 : w8.heap.size ≠ w.heap.size := by have := HR8.out; omega
      by_cases he : er = 0
      rotate_left
      · have he1 : (er != 0) = true := by simpa using he
        have he2 : (er == 0) = false := by simpa using he
        have z0 := (lies_cells L8.out).1 0
        have z1 := (lies_cells L8.out).1 1
        have f0 := (lies_cells L8.out).2 0
        have f1 := (lies_cells L8.out).2 1
        simp only [List.getElem?_toArray, List.getElem?_cons_zero, List.getElem?_cons_succ] at z0 z1
        have HW4 := Lib.hid (show bpS l = ((zeroS, 4) : QSet × Int) from HOF.out.trans (if_neg (fun h => he h.1)))
        clear he
        have hr8 := HR8.out
        have BX := Lib.hid B8.out
        go_wp2
        refine bodyPost_ret (v := .tuple #[zeroV, .int .i64 4]) (by simp [results, Tryd.results34, go_sem, z0, z1, hr7, hr9, hr8]) rfl ?_
        rw [HW4.out]
        exact ZeroE.words ⟨rfl, ((BX.out.setCell (p := ⟨w.heap.size, 0, none⟩) (Nat.le_refl _) _).setCell (p := ⟨w.heap.size, 1, none⟩) (Nat.le_refl _) _).alloc (by simp only [World.size_setCell]; exact BX.out.size) _⟩
      subst he
      have HTW := Lib.hid (HV.out.below (B9.out.mono hB))
      have s0 := (lies_cells PS.out).1 0
      have s1 := (lies_cells PS.out).1 1
      simp only [List.getElem?_toArray, List.getElem?_cons_zero, List.getElem?_cons_succ] at s0 s1
      go_wp2_with fail
      rw [show w8.alloc (.cells #[.int .i64 r.width, .slice ua un uc] 25) = V from HVV.out]
      refine (btext_any (B := B) r _ V WV.out HTW.out.tabs (by have := B9.out.size; omega)).mono ?_
      rintro e w9 ⟨rfl, b9⟩
      obtain ⟨tx, htx⟩ : ∃ t, textS r = t := ⟨_, rfl⟩
      rw [htx] at HOF ⊢
      have B10 := Lib.hid (B9.out.trans (b9.mono B9.out.size))
      have L10 := Lib.hid (lies_below L9.out b9 (lt_heap L9.out))
      have P10 := Lib.hid (lies_below PS.out b9 (lt_heap PS.out))
      have W10 := Lib.hid (WV.out.below b9)
      clear b9 s0 s1 htx
      have z0 := (lies_cells L10.out).1 0
      have z1 := (lies_cells L10.out).1 1
      have f0 := (lies_cells L10.out).2 0
      have f1 := (lies_cells L10.out).2 1
      have s0 := (lies_cells P10.out).1 0
      have s1 := (lies_cells P10.out).1 1
      simp only [List.getElem?_toArray, List.getElem?_cons_zero, List.getElem?_cons_succ] at z0 z1 s0 s1
      by_cases ht : tx = l
      rotate_left
      · have ht1 : ((⟨tx.toArray⟩ : ByteArray) != ⟨l.toArray⟩) = true := by
          show (!(tx.toArray == l.toArray)) = true
          simpa using ht
        have ht2 : ((⟨tx.toArray⟩ : ByteArray) == ⟨l.toArray⟩) = false := by
          show (tx.toArray == l.toArray) = false
          simpa using ht
        have ht3 : (tx == l) = false := by simpa using ht
        have HW4 := Lib.hid (show bpS l = ((zeroS, 4) : QSet × Int) from HOF.out.trans (if_neg (fun h => ht h.2)))
        clear ht
        go_wp2
        refine bodyPost_ret (v := .tuple #[zeroV, .int .i64 4]) (by simp [results, Tryd.results34, go_sem, z0, z1]) rfl ?_
        rw [HW4.out]
        exact ZeroE.words ⟨rfl, (B10.out.setCell (p := ⟨w.heap.size, 0, none⟩) (Nat.le_refl _) _).setCell (p := ⟨w.heap.size, 1, none⟩) (Nat.le_refl _) _⟩
      rw [ht] at HOF ⊢
      clear ht
      have ht1 : ((⟨l.toArray⟩ : ByteArray) != ⟨l.toArray⟩) = false := by show (!(l.toArray == l.toArray)) = false; simp
      have ht2 : ((⟨l.toArray⟩ : ByteArray) == ⟨l.toArray⟩) = true := by show (l.toArray == l.toArray) = true; simp
      have HW4 := Lib.hid (show bpS l = (r, (0 : Int)) from HOF.out.trans (if_pos (by first | exact ⟨rfl, rfl⟩ | trivial)))
      have ht3 : (l == l) = true := by simp
      have hty : tyAt w9 w.heap.size = some 25 := tyAt_of L10.out (by have := HTW.out.tabs.base; show Base.b ≤ w.heap.size; omega)
      have HTY := Lib.hid hty
      clear hty
      go_wp2
      refine bodyPost_ret (v := .tuple #[setV r (.slice ua un uc), .int .i64 0]) (by simp [results, Tryd.results34, go_sem, z0, z1]) rfl ?_
      rw [HW4.out]
      exact ⟨_, rfl, W10.out.keep (SameT.trans (SameT.setCell (U := 25) HTY.out (by decide)) (SameT.setCell (U := 25) ((tyAt_set _).trans HTY.out) (by decide))), (B10.out.setCell (p := ⟨w.heap.size, 0, none⟩) (Nat.le_refl _) _).setCell (p := ⟨w.heap.size, 1, none⟩) (Nat.le_refl _) _⟩
end Go.Proofs.YtmanmlankfoflaaDoor

/- Walks: the reference's Of at a width that is not permitted. -/
namespace Go.Proofs.YtmanmlankfoflaaDoor
open Go.RowKit
variable [Base]

theorem rof_no (k : Int) (hk : rangedB k = false) (l : List Int) (v0 : Value) (w : World) (hl : IntsAt w v0 l) : Calls Tryd.prog 48 #[.int .i64 k, v0] w (ZeroE 3 w) := by
  obtain ⟨la, lc, rfl, -⟩ := hl.cell
  clear hl
  unfold rangedB at hk
  by_cases h0 : k < 0
  · have d0 : decide (k < 0) = true := by simpa using h0
    go_enter Tryd.func48, Tryd.ntmps48
    go_wp2
    exact bodyPost_ret (v := .tuple #[zeroV, .int .i64 3]) (by simp [results, Tryd.results48, go_sem]) rfl ⟨rfl, (Below.refl _ _).alloc (Nat.le_refl _) _⟩
  · have d0 : decide (k < 0) = false := by simpa using h0
    have h1 : (256 : Int) < k := by
      simp only [Bool.and_eq_false_iff, decide_eq_false_iff_not] at hk
      omega
    have d1 : decide ((256 : Int) < k) = true := by simpa using h1
    clear hk
    go_enter Tryd.func48, Tryd.ntmps48
    go_wp2
    exact bodyPost_ret (v := .tuple #[zeroV, .int .i64 3]) (by simp [results, Tryd.results48, go_sem]) rfl ⟨rfl, (Below.refl _ _).alloc (Nat.le_refl _) _⟩
theorem rof_any (k : Int) (l : List Int) (v0 : Value) (w : World) (hl : IntsAt w v0 l) : Calls Tryd.prog 48 #[.int .i64 k, v0] w (SetE (ofS k l) w) := by
  by_cases h : rangedB k = true
  · have h2 := h
    unfold rangedB at h2
    simp only [Bool.and_eq_true, decide_eq_true_eq] at h2
    obtain ⟨m, rfl⟩ := Int.eq_ofNat_of_zero_le h2.1
    exact rof_yes m (by omega) l v0 w hl
  · have h2 : rangedB k = false := by simpa using h
    rw [ofS_no h2]
    exact (rof_no k h2 l v0 w hl).mono fun _ _ h => h.set
end Go.Proofs.YtmanmlankfoflaaDoor

/- Walk: the reference's Parse. Printed by wip/gen_bspa.py. -/
namespace Go.Proofs.YtmanmlankfoflaaDoor
open Go.RowKit
variable [Base]

theorem numS_bounds {t : Str} {n k : Nat} (h : numS t = some (n, k)) : 0 < k ∧ k ≤ t.length ∧ n < 1000000000 := by
  unfold numS at h
  split at h
  · cases h
  · rename_i hn
    injection h with h
    injection h with h1 h2
    subst h1 h2
    have hl := digRun_len 9 t
    refine ⟨?_, hl.2, ?_⟩
    · rcases Nat.eq_zero_or_pos (digRun 9 t).length with h0 | h0
      · exact absurd (.inl (List.length_eq_zero_iff.1 h0)) hn
      · exact h0
    · have := numVal_take_lt (digRun 9 t) (digRun 9 t).length (digRun_all 9 t) (Nat.le_refl _)
      rw [List.take_of_length_le (Nat.le_refl _)] at this
      exact Nat.lt_of_lt_of_le this (ten_le9 hl.1)
theorem numR_none {l : Str} {a : Nat} (h : numS (l.drop a) = none) : numR l a = (0, a, false) := by unfold numR; rw [h]
theorem numR_some {l : Str} {a n k : Nat} (h : numS (l.drop a) = some (n, k)) : numR l a = (n, a + k, true) := by unfold numR; rw [h]
theorem numS_nil : numS [] = none := rfl
theorem wdR_at {l : Str} {a b : Nat} (hb : b = min (a + 1) l.length) : (numR l b).1 = wdR (l.drop a) := by
  unfold wdR numR
  rw [List.drop_drop]
  have e : l.drop b = l.drop (a + 1) := by
    rcases Nat.lt_or_ge a l.length with h | h
    · rw [show b = a + 1 by omega]
    · rw [List.drop_of_length_le (by omega), List.drop_of_length_le (by omega)]
  rw [e]
  cases numS (l.drop (a + 1)) with
  | none => rfl
  | some p => rfl
theorem memR_end {f : Nat} {m : List Int} (hf : 0 < f) : memR f [] m = some (m, []) := by
  cases f with
  | zero => omega
  | succ f => rfl
theorem memR_slash {f : Nat} {m : List Int} {r : Str} (hf : 0 < f) : memR f (47 :: r) m = some (m, 47 :: r) := by
  cases f with
  | zero => omega
  | succ f => unfold memR; rw [if_pos rfl]
theorem memR_no {f : Nat} {m : List Int} {c : UInt8} {r : Str} (hf : 0 < f) (hc : c ≠ 47) (h : numS (c :: r) = none) : memR f (c :: r) m = none := by
  cases f with
  | zero => omega
  | succ f => unfold memR; rw [if_neg hc, h]
theorem memR_go {f n k : Nat} {m : List Int} {c : UInt8} {r : Str} (hf : 0 < f) (hc : c ≠ 47) (h : numS (c :: r) = some (n, k)) : memR f (c :: r) m = memR (f - 1) (if ((c :: r).drop k).head? = some 44 then ((c :: r).drop k).tail else (c :: r).drop k) (m ++ [(n : Int)]) := by
  cases f with
  | zero => omega
  | succ f => rw [memR, if_neg hc, h]; rfl
theorem drop_cons {l : Str} {a : Nat} {c : UInt8} (h : l[a]? = some c) : l.drop a = c :: l.drop (a + 1) := by
  obtain ⟨h1, rfl⟩ := List.getElem?_eq_some_iff.1 h
  exact List.drop_eq_getElem_cons h1
set_option maxRecDepth 100000 in
set_option maxHeartbeats 4000000 in
theorem rparse_in {B : Nat} (s : ByteArray) (hs : s.size ≤ 1000000) (w : World) (hV : VarsIn B w) (hB : B ≤ w.heap.size) : Calls Tryd.prog 67 #[.string s] w (WordsE (rpS s.data.toList) w) := by
  have hud : ∀ b : Bool, (undef = Value.bool b) = False := fun b => by simp [undef]
  obtain ⟨l, hl⟩ : ∃ l, s.data.toList = l := ⟨_, rfl⟩
  have HL := Lib.hid hl
  have hln : l.length = s.size := by rw [← hl]; simp
  have HLN := Lib.hid hln
  have HSL := Lib.hid (show s = ⟨l.toArray⟩ by rw [← hl])
  have HTS := Lib.hid (show s.toList = l by rw [← hl]; exact ByteArray.toList_eq s)
  rw [hl]
  clear hl hln
  obtain ⟨W, hW⟩ : ∃ W, w.alloc (.cells #[.int .i64 0, .slice none 0 0] 25) = W := ⟨_, rfl⟩
  have B0 : Below w.heap.size w W := by rw [← hW]; exact (Below.refl _ _).alloc (Nat.le_refl _) _
  have HB0 : W.heap[w.heap.size]? = some (.cells #[.int .i64 0, .slice none 0 0] 25 (0, 0)) := by rw [← hW]; exact heap_alloc_new _ _
  have H0 := Lib.hid HB0
  have HW := Lib.hid hW
  have BB := Lib.hid B0
  have HV := Lib.hid hV
  clear hW HB0 B0 hV
  go_enter Tryd.func67, Tryd.ntmps67
  go_wp2_with fail
  rw [show w.alloc (.cells #[.int .i64 0, .slice none 0 0] 25) = W from HW.out]
  have I0 := Lib.hid (NIn.nil W)
  go_loopw [4, 5] (fun y4 y5 wr => ∃ (a f : Nat) (acc : List Int), y5 = .int .i64 a ∧ a ≤ s.size ∧ acc.length ≤ a ∧ Hid (s.size - a < f) ∧ Hid (NIn W wr y4 acc) ∧ Hid (memR f (l.drop a) acc = memR (l.length + 1) l [])) (fun _ y _ => s.size - (intOf y).toNat)
  case atStart => exact ⟨0, l.length + 1, [], rfl, Nat.zero_le _, Nat.le_refl _, by have := HLN.out; unfold Hid; omega, I0, rfl⟩
  case round =>
    clear I0
    obtain ⟨a, f, acc, rfl, ha, hacl, HF, I, HM⟩ := hrel
    have hf0 : 0 < f := by have := HF.out; omega
    obtain ⟨za, zc, rfl, hzc, hzc2⟩ := own_slice I.out.own
    by_cases hlt : a < s.size
    rotate_left
    · have d1 : decide ((a : Int) < (s.size : Int)) = false := by simp; omega
      have HI7 := Lib.hid I.out.ints
      have B7 := Lib.hid (BB.out.trans (I.out.below.mono BB.out.size))
      have L7 := Lib.hid (lies_below H0.out I.out.below (lt_heap H0.out))
      obtain ⟨b, hb⟩ : ∃ b, min (a + 1) s.size = b := ⟨_, rfl⟩
      have hbs : b ≤ s.size := by omega
      have hbi : min ((a : Int) + 1) (s.size : Int) = (b : Int) := by omega
      have hwa : IntKind.i64.wrap ((a : Int) + 1) = (a : Int) + 1 := IntWalk.i64_in _ (by omega)
      obtain ⟨wd, hwd⟩ : ∃ n, wdR (l.drop a) = n := ⟨_, rfl⟩
      have HWD := Lib.hid (show (numR l b).1 = wd by rw [← hwd]; exact wdR_at (by rw [HLN.out]; omega))
      have HFIN := Lib.hid (show rpS l = fin l (wd : Int) acc by
        unfold rpS
        rw [← HM.out, List.drop_of_length_le (by have := HLN.out; omega), memR_end hf0]
        show fin l (wdR _ : Int) acc = _
        rw [← hwd]; rw [List.drop_of_length_le (by have := HLN.out; omega)])
      clear hwd hb
      go_wp2_with fail
      refine (number_any s b hbs (by omega) wr).mono ?_
      rw [HL.out]
      unfold NumQ
      rw [HWD.out]
      rintro e w' ⟨rfl, rfl⟩
      go_wp2_with fail
      obtain ⟨q, hq⟩ : ∃ q, ofS (wd : Int) (acc) = q := ⟨_, rfl⟩
      have HQ := Lib.hid hq
      obtain ⟨r, er⟩ := q
      have HOF := Lib.hid (show rpS l = (if er = 0 ∧ textS r = l then (r, 0) else (zeroS, 4)) by rw [HFIN.out]; unfold fin; rw [HQ.out])
      clear hq
      refine (rof_any (wd : Int) acc _ w' HI7.out).mono ?_
      rw [HQ.out]
      rintro e w8 ⟨u, rfl, hu, b8⟩
      obtain ⟨ua, un, uc, rfl⟩ := hu.shape
      have WU := Lib.hid hu.words
      have B8 := Lib.hid (B7.out.trans (b8.mono B7.out.size))
      have L8 := Lib.hid (lies_below L7.out b8 (lt_heap L7.out))
      obtain ⟨V, hV⟩ : ∃ V, w8.alloc (.cells #[.int .i64 r.width, .slice ua un uc] 25) = V := ⟨_, rfl⟩
      have hbv : Below w8.heap.size w8 V := by rw [← hV]; exact (Below.refl _ _).alloc (Nat.le_refl _) _
      have PS := Lib.hid (show V.heap[w8.heap.size]? = some (.cells #[.int .i64 r.width, .slice ua un uc] 25 (0, 0)) by rw [← hV]; exact heap_alloc_new _ _)
      have L9 := Lib.hid (lies_below L8.out hbv (lt_heap L8.out))
      have B9 := Lib.hid (B8.out.trans (hbv.mono B8.out.size))
      have WV := Lib.hid (WU.out.below hbv)
      have HVV := Lib.hid hV
      clear hu b8 hbv hV
      have HR8 := Lib.hid (lt_heap L8.out)
      have hr9 : w.heap.size ≠ w8.heap.size := by have := HR8.out; omega
      have hr7 : w8.heap.size ≠ w.heap.size := by have := HR8.out; omega
      by_cases he : er = 0
      rotate_left
      · have he1 : (er != 0) = true := by simpa using he
        have he2 : (er == 0) = false := by simpa using he
        have z0 := (lies_cells L8.out).1 0
        have z1 := (lies_cells L8.out).1 1
        have f0 := (lies_cells L8.out).2 0
        have f1 := (lies_cells L8.out).2 1
        simp only [List.getElem?_toArray, List.getElem?_cons_zero, List.getElem?_cons_succ] at z0 z1
        have HW4 := Lib.hid (show rpS l = ((zeroS, 4) : QSet × Int) from HOF.out.trans (if_neg (fun h => he h.1)))
        clear he
        have hr8 := HR8.out
        have BX := Lib.hid B8.out
        go_wp2
        refine bodyPost_ret (v := .tuple #[zeroV, .int .i64 4]) (by simp [results, Tryd.results67, go_sem, z0, z1, hr7, hr9, hr8]) rfl ?_
        rw [HW4.out]
        exact ZeroE.words ⟨rfl, ((BX.out.setCell (p := ⟨w.heap.size, 0, none⟩) (Nat.le_refl _) _).setCell (p := ⟨w.heap.size, 1, none⟩) (Nat.le_refl _) _).alloc (by simp only [World.size_setCell]; exact BX.out.size) _⟩
      subst he
      have HTW := Lib.hid (HV.out.below (B9.out.mono hB))
      have s0 := (lies_cells PS.out).1 0
      have s1 := (lies_cells PS.out).1 1
      simp only [List.getElem?_toArray, List.getElem?_cons_zero, List.getElem?_cons_succ] at s0 s1
      go_wp2_with fail
      rw [show w8.alloc (.cells #[.int .i64 r.width, .slice ua un uc] 25) = V from HVV.out]
      refine (rtext_any r _ V WV.out).mono ?_
      rintro e w9 ⟨rfl, b9⟩
      obtain ⟨tx, htx⟩ : ∃ t, textS r = t := ⟨_, rfl⟩
      rw [htx] at HOF ⊢
      have B10 := Lib.hid (B9.out.trans (b9.mono B9.out.size))
      have L10 := Lib.hid (lies_below L9.out b9 (lt_heap L9.out))
      have P10 := Lib.hid (lies_below PS.out b9 (lt_heap PS.out))
      have W10 := Lib.hid (WV.out.below b9)
      clear b9 s0 s1 htx
      have z0 := (lies_cells L10.out).1 0
      have z1 := (lies_cells L10.out).1 1
      have f0 := (lies_cells L10.out).2 0
      have f1 := (lies_cells L10.out).2 1
      have s0 := (lies_cells P10.out).1 0
      have s1 := (lies_cells P10.out).1 1
      simp only [List.getElem?_toArray, List.getElem?_cons_zero, List.getElem?_cons_succ] at z0 z1 s0 s1
      by_cases ht : tx = l
      rotate_left
      · have ht1 : ((⟨tx.toArray⟩ : ByteArray) != s) = true := by
          rw [HSL.out]
          show (!(tx.toArray == l.toArray)) = true
          simpa using ht
        have ht2 : ((⟨tx.toArray⟩ : ByteArray) == s) = false := by
          rw [HSL.out]
          show (tx.toArray == l.toArray) = false
          simpa using ht
        have ht3 : (tx == s.toList) = false := by rw [HTS.out]; simpa using ht
        have HW4 := Lib.hid (show rpS l = ((zeroS, 4) : QSet × Int) from HOF.out.trans (if_neg (fun h => ht h.2)))
        clear ht
        go_wp2
        refine bodyPost_ret (v := .tuple #[zeroV, .int .i64 4]) (by simp [results, Tryd.results67, go_sem, z0, z1]) rfl ?_
        rw [HW4.out]
        exact ZeroE.words ⟨rfl, (B10.out.setCell (p := ⟨w.heap.size, 0, none⟩) (Nat.le_refl _) _).setCell (p := ⟨w.heap.size, 1, none⟩) (Nat.le_refl _) _⟩
      rw [ht] at HOF ⊢
      clear ht
      have ht1 : ((⟨l.toArray⟩ : ByteArray) != s) = false := by rw [HSL.out]; show (!(l.toArray == l.toArray)) = false; simp
      have ht2 : ((⟨l.toArray⟩ : ByteArray) == s) = true := by rw [HSL.out]; show (l.toArray == l.toArray) = true; simp
      have HW4 := Lib.hid (show rpS l = (r, (0 : Int)) from HOF.out.trans (if_pos (by first | exact ⟨rfl, rfl⟩ | trivial)))
      have ht3 : (l == s.toList) = true := by rw [HTS.out]; simp
      have hty : tyAt w9 w.heap.size = some 25 := tyAt_of L10.out (by have := HTW.out.tabs.base; show Base.b ≤ w.heap.size; omega)
      have HTY := Lib.hid hty
      clear hty
      go_wp2
      refine bodyPost_ret (v := .tuple #[setV r (.slice ua un uc), .int .i64 0]) (by simp [results, Tryd.results67, go_sem, z0, z1]) rfl ?_
      rw [HW4.out]
      exact ⟨_, rfl, W10.out.keep (SameT.trans (SameT.setCell (U := 25) HTY.out (by decide)) (SameT.setCell (U := 25) ((tyAt_set _).trans HTY.out) (by decide))), (B10.out.setCell (p := ⟨w.heap.size, 0, none⟩) (Nat.le_refl _) _).setCell (p := ⟨w.heap.size, 1, none⟩) (Nat.le_refl _) _⟩
    have d1 : decide ((a : Int) < (s.size : Int)) = true := by simp; omega
    have hab : a < s.data.size := hlt
    have HC := Lib.hid (show l[a]? = some s[a] by rw [← HL.out]; exact byte_at hlt)
    have HDC := Lib.hid (drop_cons HC.out)
    by_cases h47 : (s[a].toNat : Int) = 47
    · have e47 : ((s[a].toNat : Int) != 47) = false := by simpa using h47
      have e47b : ((s[a].toNat : Int) == 47) = true := by simpa using h47
      have HDR := Lib.hid (show l.drop a = 47 :: l.drop (a + 1) by rw [HDC.out]; congr 1; exact UInt8.toNat_inj.1 (by simp; omega))
      clear h47
      have HI7 := Lib.hid I.out.ints
      have B7 := Lib.hid (BB.out.trans (I.out.below.mono BB.out.size))
      have L7 := Lib.hid (lies_below H0.out I.out.below (lt_heap H0.out))
      obtain ⟨b, hb⟩ : ∃ b, min (a + 1) s.size = b := ⟨_, rfl⟩
      have hbs : b ≤ s.size := by omega
      have hbi : min ((a : Int) + 1) (s.size : Int) = (b : Int) := by omega
      have hwa : IntKind.i64.wrap ((a : Int) + 1) = (a : Int) + 1 := IntWalk.i64_in _ (by omega)
      obtain ⟨wd, hwd⟩ : ∃ n, wdR (l.drop a) = n := ⟨_, rfl⟩
      have HWD := Lib.hid (show (numR l b).1 = wd by rw [← hwd]; exact wdR_at (by rw [HLN.out]; omega))
      have HFIN := Lib.hid (show rpS l = fin l (wd : Int) acc by
        unfold rpS
        rw [← HM.out, HDR.out, memR_slash hf0]
        show fin l (wdR _ : Int) acc = _
        rw [← hwd]; rw [HDR.out])
      clear hwd hb
      go_wp2_with fail
      refine (number_any s b hbs (by omega) wr).mono ?_
      rw [HL.out]
      unfold NumQ
      rw [HWD.out]
      rintro e w' ⟨rfl, rfl⟩
      go_wp2_with fail
      obtain ⟨q, hq⟩ : ∃ q, ofS (wd : Int) (acc) = q := ⟨_, rfl⟩
      have HQ := Lib.hid hq
      obtain ⟨r, er⟩ := q
      have HOF := Lib.hid (show rpS l = (if er = 0 ∧ textS r = l then (r, 0) else (zeroS, 4)) by rw [HFIN.out]; unfold fin; rw [HQ.out])
      clear hq
      refine (rof_any (wd : Int) acc _ w' HI7.out).mono ?_
      rw [HQ.out]
      rintro e w8 ⟨u, rfl, hu, b8⟩
      obtain ⟨ua, un, uc, rfl⟩ := hu.shape
      have WU := Lib.hid hu.words
      have B8 := Lib.hid (B7.out.trans (b8.mono B7.out.size))
      have L8 := Lib.hid (lies_below L7.out b8 (lt_heap L7.out))
      obtain ⟨V, hV⟩ : ∃ V, w8.alloc (.cells #[.int .i64 r.width, .slice ua un uc] 25) = V := ⟨_, rfl⟩
      have hbv : Below w8.heap.size w8 V := by rw [← hV]; exact (Below.refl _ _).alloc (Nat.le_refl _) _
      have PS := Lib.hid (show V.heap[w8.heap.size]? = some (.cells #[.int .i64 r.width, .slice ua un uc] 25 (0, 0)) by rw [← hV]; exact heap_alloc_new _ _)
      have L9 := Lib.hid (lies_below L8.out hbv (lt_heap L8.out))
      have B9 := Lib.hid (B8.out.trans (hbv.mono B8.out.size))
      have WV := Lib.hid (WU.out.below hbv)
      have HVV := Lib.hid hV
      clear hu b8 hbv hV
      have HR8 := Lib.hid (lt_heap L8.out)
      have hr9 : w.heap.size ≠ w8.heap.size := by have := HR8.out; omega
      have hr7 : w8.heap.size ≠ w.heap.size := by have := HR8.out; omega
      by_cases he : er = 0
      rotate_left
      · have he1 : (er != 0) = true := by simpa using he
        have he2 : (er == 0) = false := by simpa using he
        have z0 := (lies_cells L8.out).1 0
        have z1 := (lies_cells L8.out).1 1
        have f0 := (lies_cells L8.out).2 0
        have f1 := (lies_cells L8.out).2 1
        simp only [List.getElem?_toArray, List.getElem?_cons_zero, List.getElem?_cons_succ] at z0 z1
        have HW4 := Lib.hid (show rpS l = ((zeroS, 4) : QSet × Int) from HOF.out.trans (if_neg (fun h => he h.1)))
        clear he
        have hr8 := HR8.out
        have BX := Lib.hid B8.out
        go_wp2
        refine bodyPost_ret (v := .tuple #[zeroV, .int .i64 4]) (by simp [results, Tryd.results67, go_sem, z0, z1, hr7, hr9, hr8]) rfl ?_
        rw [HW4.out]
        exact ZeroE.words ⟨rfl, ((BX.out.setCell (p := ⟨w.heap.size, 0, none⟩) (Nat.le_refl _) _).setCell (p := ⟨w.heap.size, 1, none⟩) (Nat.le_refl _) _).alloc (by simp only [World.size_setCell]; exact BX.out.size) _⟩
      subst he
      have HTW := Lib.hid (HV.out.below (B9.out.mono hB))
      have s0 := (lies_cells PS.out).1 0
      have s1 := (lies_cells PS.out).1 1
      simp only [List.getElem?_toArray, List.getElem?_cons_zero, List.getElem?_cons_succ] at s0 s1
      go_wp2_with fail
      rw [show w8.alloc (.cells #[.int .i64 r.width, .slice ua un uc] 25) = V from HVV.out]
      refine (rtext_any r _ V WV.out).mono ?_
      rintro e w9 ⟨rfl, b9⟩
      obtain ⟨tx, htx⟩ : ∃ t, textS r = t := ⟨_, rfl⟩
      rw [htx] at HOF ⊢
      have B10 := Lib.hid (B9.out.trans (b9.mono B9.out.size))
      have L10 := Lib.hid (lies_below L9.out b9 (lt_heap L9.out))
      have P10 := Lib.hid (lies_below PS.out b9 (lt_heap PS.out))
      have W10 := Lib.hid (WV.out.below b9)
      clear b9 s0 s1 htx
      have z0 := (lies_cells L10.out).1 0
      have z1 := (lies_cells L10.out).1 1
      have f0 := (lies_cells L10.out).2 0
      have f1 := (lies_cells L10.out).2 1
      have s0 := (lies_cells P10.out).1 0
      have s1 := (lies_cells P10.out).1 1
      simp only [List.getElem?_toArray, List.getElem?_cons_zero, List.getElem?_cons_succ] at z0 z1 s0 s1
      by_cases ht : tx = l
      rotate_left
      · have ht1 : ((⟨tx.toArray⟩ : ByteArray) != s) = true := by
          rw [HSL.out]
          show (!(tx.toArray == l.toArray)) = true
          simpa using ht
        have ht2 : ((⟨tx.toArray⟩ : ByteArray) == s) = false := by
          rw [HSL.out]
          show (tx.toArray == l.toArray) = false
          simpa using ht
        have ht3 : (tx == s.toList) = false := by rw [HTS.out]; simpa using ht
        have HW4 := Lib.hid (show rpS l = ((zeroS, 4) : QSet × Int) from HOF.out.trans (if_neg (fun h => ht h.2)))
        clear ht
        go_wp2
        refine bodyPost_ret (v := .tuple #[zeroV, .int .i64 4]) (by simp [results, Tryd.results67, go_sem, z0, z1]) rfl ?_
        rw [HW4.out]
        exact ZeroE.words ⟨rfl, (B10.out.setCell (p := ⟨w.heap.size, 0, none⟩) (Nat.le_refl _) _).setCell (p := ⟨w.heap.size, 1, none⟩) (Nat.le_refl _) _⟩
      rw [ht] at HOF ⊢
      clear ht
      have ht1 : ((⟨l.toArray⟩ : ByteArray) != s) = false := by rw [HSL.out]; show (!(l.toArray == l.toArray)) = false; simp
      have ht2 : ((⟨l.toArray⟩ : ByteArray) == s) = true := by rw [HSL.out]; show (l.toArray == l.toArray) = true; simp
      have HW4 := Lib.hid (show rpS l = (r, (0 : Int)) from HOF.out.trans (if_pos (by first | exact ⟨rfl, rfl⟩ | trivial)))
      have ht3 : (l == s.toList) = true := by rw [HTS.out]; simp
      have hty : tyAt w9 w.heap.size = some 25 := tyAt_of L10.out (by have := HTW.out.tabs.base; show Base.b ≤ w.heap.size; omega)
      have HTY := Lib.hid hty
      clear hty
      go_wp2
      refine bodyPost_ret (v := .tuple #[setV r (.slice ua un uc), .int .i64 0]) (by simp [results, Tryd.results67, go_sem, z0, z1]) rfl ?_
      rw [HW4.out]
      exact ⟨_, rfl, W10.out.keep (SameT.trans (SameT.setCell (U := 25) HTY.out (by decide)) (SameT.setCell (U := 25) ((tyAt_set _).trans HTY.out) (by decide))), (B10.out.setCell (p := ⟨w.heap.size, 0, none⟩) (Nat.le_refl _) _).setCell (p := ⟨w.heap.size, 1, none⟩) (Nat.le_refl _) _⟩
    have e47 : ((s[a].toNat : Int) != 47) = true := by simpa using h47
    have e47b : ((s[a].toNat : Int) == 47) = false := by simpa using h47
    have HN47 := Lib.hid (show s[a] ≠ 47 from fun e => h47 (by rw [e]; rfl))
    clear h47
    go_wp2_with fail
    refine (number_any s a ha (by omega) wr).mono ?_
    rw [HL.out]
    unfold NumQ
    cases hnum : numS (l.drop a) with
    | none =>
      rw [numR_none hnum]
      have HR := Lib.hid (show rpS l = (zeroS, 4) by
        unfold rpS
        rw [← HM.out, HDC.out, memR_no hf0 HN47.out (by rw [← HDC.out]; exact hnum)])
      rintro e w' ⟨rfl, rfl⟩
      have B7 := Lib.hid (BB.out.trans (I.out.below.mono BB.out.size))
      have L7 := Lib.hid (lies_below H0.out I.out.below (lt_heap H0.out))
      have z0 := (lies_cells L7.out).1 0
      have z1 := (lies_cells L7.out).1 1
      have f0 := (lies_cells L7.out).2 0
      have f1 := (lies_cells L7.out).2 1
      simp only [List.getElem?_toArray, List.getElem?_cons_zero, List.getElem?_cons_succ] at z0 z1
      clear hnum
      go_wp2
      refine bodyPost_ret (v := .tuple #[zeroV, .int .i64 4]) (by simp [results, Tryd.results67, go_sem, z0, z1]) rfl ?_
      rw [HR.out]
      exact ZeroE.words ⟨rfl, (B7.out.setCell (p := ⟨w.heap.size, 0, none⟩) (Nat.le_refl _) _).setCell (p := ⟨w.heap.size, 1, none⟩) (Nat.le_refl _) _⟩
    | some p =>
      obtain ⟨n, k⟩ := p
      rw [numR_some hnum]
      obtain ⟨k0, k1, hn9⟩ := numS_bounds hnum
      rw [List.length_drop] at k1
      have hak : a + k ≤ s.size := by have := HLN.out; omega
      have HNX := Lib.hid (show memR (f - 1) (if (l.drop (a + k)).head? = some 44 then (l.drop (a + k)).tail else l.drop (a + k)) (acc ++ [(n : Int)]) = memR (l.length + 1) l [] by
        have h := memR_go (m := acc) hf0 HN47.out (by rw [← HDC.out]; exact hnum)
        rw [← HDC.out, List.drop_drop] at h
        rw [← h, HM.out])
      rintro e w' ⟨rfl, rfl⟩
      obtain ⟨a2, ha2⟩ : ∃ a2, a + k = a2 := ⟨_, rfl⟩
      rw [ha2] at HNX hak ⊢
      have hlt2 : a < a2 := by omega
      have OWN := Lib.hid I.out.own
      have LE := Lib.hid I.out.below.size
      clear hnum ha2 k0 k1
      have hwa2 : IntKind.i64.wrap ((a2 : Int) + 1) = (a2 : Int) + 1 := IntWalk.i64_in _ (by omega)
      by_cases hl2 : a2 < s.size
      rotate_left
      · have d2 : decide ((a2 : Int) < (s.size : Int)) = false := by simp; omega
        have HN2 := Lib.hid (show memR (f - 1) (l.drop a2) (acc ++ [(n : Int)]) = memR (l.length + 1) l [] by
          have h := HNX.out
          rw [List.drop_of_length_le (by have := HLN.out; omega)] at h ⊢
          exact h)
        go_wp2_with (at_builtin; refine wpList_pushH [iv (n : Int)] rfl _ _ 22 rfl W.heap.size 3 _ 1 8 Tryd.underlying22 info_int rfl (by decide) _ acc.length _ OWN.out rfl _ rfl rfl rfl rfl (by unfold maxLen; omega) (by omega) LE.out ?_; intro g cap w6 own2 gr2 q1 q2; have OW2 := Lib.hid own2; have GR2 := Lib.hid gr2; clear own2 gr2 q1 q2)
        have I6 := Lib.hid (I.out.push (x := (n : Int)) OW2.out GR2.out)
        go_roundw
        case rel => exact ⟨a2, f - 1, acc ++ [(n : Int)], rfl, hak, by simp; omega, by have := HF.out; unfold Hid; omega, I6, HN2.out⟩
        case measure => simp [intOf]; omega
      have d2 : decide ((a2 : Int) < (s.size : Int)) = true := by simp; omega
      have hab2 : a2 < s.data.size := hl2
      have HC2 := Lib.hid (show l[a2]? = some s[a2] by rw [← HL.out]; exact byte_at hl2)
      have HDC2 := Lib.hid (drop_cons HC2.out)
      by_cases h44 : (s[a2].toNat : Int) = 44
      · have e44 : ((s[a2].toNat : Int) == 44) = true := by simpa using h44
        have HN2 := Lib.hid (show memR (f - 1) (l.drop (a2 + 1)) (acc ++ [(n : Int)]) = memR (l.length + 1) l [] by
          have h := HNX.out
          rw [HDC2.out, if_pos (by show some s[a2] = some 44; congr 1; exact UInt8.toNat_inj.1 (by simp; omega)), List.tail_cons] at h
          exact h)
        clear h44
        go_wp2_with (at_builtin; refine wpList_pushH [iv (n : Int)] rfl _ _ 22 rfl W.heap.size 3 _ 1 8 Tryd.underlying22 info_int rfl (by decide) _ acc.length _ OWN.out rfl _ rfl rfl rfl rfl (by unfold maxLen; omega) (by omega) LE.out ?_; intro g cap w6 own2 gr2 q1 q2; have OW2 := Lib.hid own2; have GR2 := Lib.hid gr2; clear own2 gr2 q1 q2)
        have I6 := Lib.hid (I.out.push (x := (n : Int)) OW2.out GR2.out)
        go_roundw
        case rel => exact ⟨a2 + 1, f - 1, acc ++ [(n : Int)], by go_num, hl2, by simp; omega, by have := HF.out; unfold Hid; omega, I6, HN2.out⟩
        case measure => simp [intOf]; omega
      · have e44 : ((s[a2].toNat : Int) == 44) = false := by simpa using h44
        have HN2 := Lib.hid (show memR (f - 1) (l.drop a2) (acc ++ [(n : Int)]) = memR (l.length + 1) l [] by
          have h := HNX.out
          rw [HDC2.out, if_neg (by show ¬ some s[a2] = some 44; intro e; injection e with e; exact h44 (by rw [e]; rfl)), ← HDC2.out] at h
          exact h)
        clear h44
        go_wp2_with (at_builtin; refine wpList_pushH [iv (n : Int)] rfl _ _ 22 rfl W.heap.size 3 _ 1 8 Tryd.underlying22 info_int rfl (by decide) _ acc.length _ OWN.out rfl _ rfl rfl rfl rfl (by unfold maxLen; omega) (by omega) LE.out ?_; intro g cap w6 own2 gr2 q1 q2; have OW2 := Lib.hid own2; have GR2 := Lib.hid gr2; clear own2 gr2 q1 q2)
        have I6 := Lib.hid (I.out.push (x := (n : Int)) OW2.out GR2.out)
        go_roundw
        case rel => exact ⟨a2, f - 1, acc ++ [(n : Int)], rfl, hak, by simp; omega, by have := HF.out; unfold Hid; omega, I6, HN2.out⟩
        case measure => simp [intOf]; omega
theorem rparse_any {B : Nat} (l : Str) (hl : l.length ≤ 1000000) (w : World) (hV : VarsIn B w) (hB : B ≤ w.heap.size) : Calls Tryd.prog 67 #[qs l] w (WordsE (rpS l) w) :=
  rparse_in ⟨l.toArray⟩ (by rw [size_str]; exact hl) w hV hB
end Go.Proofs.YtmanmlankfoflaaDoor

/- Small facts on strings in a row. No walk. -/
namespace Go.Proofs.YtmanmlankfoflaaDoor
open Go.RowKit
variable [Base]

theorem append_size' (a b : ByteArray) : (a ++ b).size = a.size + b.size := by simp
def shortB (m : Nat) : Value → Bool
  | .string s => decide (s.size ≤ m)
  | _ => false
theorem bits_at (A : Array Value) (n m : Nat) (hA : A.size = n) (h : A.toList.all (shortB m) = true) (q : Nat) (hq : q < n) : ∃ p : ByteArray, A[q]? = some (.string p) ∧ p.size ≤ m := by
  have h1 : q < A.size := by omega
  have h2 := List.all_eq_true.1 h A[q] (by simp)
  rw [Array.getElem?_eq_getElem h1]
  generalize A[q] = v at h2
  cases v <;> simp [shortB] at h2
  exact ⟨_, rfl, h2⟩

end Go.Proofs.YtmanmlankfoflaaDoor

/- Regions that draw their order: loads may be taken first although the last operation, which waits for all others, writes their cells. No program in sight. -/
namespace Go.Proofs.YtmanmlankfoflaaDoor
variable [Base]
open Go

section
variable {P : Program} {ops : Array Oper} {Q : Exit → Act → World → Prop} {md : Region.Mode} {S : World → Prop}

/-- Whatever comes up, S holds behind it, but behind operation st nothing is asked. -/
def wpAnyT (P : Program) (md : Region.Mode) (ops : Array Oper) (Q : Exit → Act → World → Prop) (S : World → Prop) (st : Nat) : Nat → Array Bool → Act → World → Prop
  | 0, listed, a, w => Region.ready md ops listed = [] ∧ Q .normal a w
  | fuel + 1, listed, a, w =>
    (Region.ready md ops listed = [] → Q .normal a w) ∧
    ∀ i ∈ Region.ready md ops listed, wpOp P ops Q i (fun a' w' => (i ≠ st → S w') ∧ wpAnyT P md ops Q S st fuel (listed.setIfInBounds i true) a' w') a w

theorem wpAny_of_T {st : Nat} : ∀ (fuel : Nat) (listed : Array Bool) (a : Act) (w : World), wpAnyT P md ops Q S st fuel listed a w → wpAny P md ops Q fuel listed a w
  | 0, _, _, _, h => h
  | fuel + 1, _, _, _, h => ⟨h.1, fun i hi => wpOp_mono (fun a' w' h' => wpAny_of_T fuel _ a' w' h'.2) (h.2 i hi)⟩

/-- st waits for i. -/
def waits (md : Region.Mode) (ops : Array Oper) (st i : Nat) : Bool := match ops[st]? with
  | some o => o.after.any fun e => Region.binds md e && e.on == i
  | none => false

theorem not_ready_of_waits {st i : Nat} {listed : Array Bool} (hw : waits md ops st i = true) (hi : listed.getD i false = false) (hr : st ∈ Region.ready md ops listed) : False := by
  obtain ⟨_, o, ho, hall⟩ := mem_ready.1 hr
  unfold waits at hw
  rw [ho] at hw
  obtain ⟨e, he, hb⟩ := Array.any_eq_true'.1 hw
  simp only [Bool.and_eq_true, beq_iff_eq] at hb
  have := hall e he hb.1
  rw [hb.2, hi] at this
  cases this

theorem listed_false {listed : Array Bool} {i : Nat} (h : listed.getD i true = false) : listed.getD i false = false := by
  rcases Nat.lt_or_ge i listed.size with h' | h'
  · simp [h'] at h ⊢; exact h
  · simp [Array.getElem?_eq_none h'] at h

/-- An operation that may come up now may be taken first, if it yields its value in every world that meets S, and st waits for it. -/
theorem wpAnyT_first {st i : Nat} {oi : Oper} {v : Value} (hi : ops[i]? = some oi) (hsel : ∀ (j : Nat) (o : Oper) cs b, ops[j]? = some o → o.op ≠ .select cs b) (hw : waits md ops st i = true)
    (hQ : ∀ c a w, Q (.panic c) (a.put oi.dst v) w → Q (.panic c) a w) :
    ∀ (fuel : Nat) (listed : Array Bool) (a : Act) (w : World),
      (∀ j oj, ops[j]? = some oj → j ≠ i → listed.getD j true = false → (∀ e ∈ oj.after, Region.binds md e = true → e.on ≠ i) → oi.apart ops oj = true) →
      i ∈ Region.ready md ops listed → YieldsIf P ops S oi v a → S w →
      wpAnyT P md ops Q S st fuel (listed.setIfInBounds i true) (a.put oi.dst v) w → wpAnyT P md ops Q S st (fuel + 1) listed a w := by
  intro fuel
  induction fuel with
  | zero =>
    intro listed a w _ hr hy hS H
    refine ⟨fun h => (by rw [h] at hr; cases hr), fun j hj => ?_⟩
    by_cases hji : j = i
    · subst hji; exact hy.wpOp hi hS ⟨fun _ => hS, H⟩
    · have := ready_mono hj hji
      rw [H.1] at this
      cases this
  | succ fuel ih =>
    intro listed a w hfree hr hy hS H
    refine ⟨fun h => (by rw [h] at hr; cases hr), fun j hj => ?_⟩
    by_cases hji : j = i
    · subst hji; exact hy.wpOp hi hS ⟨fun _ => hS, H⟩
    · have hiun := listed_false (mem_ready.1 hr).1
      have hjst : j ≠ st := fun h => not_ready_of_waits hw hiun (h ▸ hj)
      obtain ⟨hjun, oj, hoj, hall⟩ := mem_ready.1 hj
      have hnot : ∀ e ∈ oj.after, Region.binds md e = true → e.on ≠ i := fun e he hb heq => by
        have h1 := hall e he hb
        rw [heq, hiun] at h1
        cases h1
      have hstep := wpOp_putIf hoj (hfree j oj hoj hji hjun hnot) (fun cs b => hsel i oi cs b hi) (fun cs b => hsel j oj cs b hoj) hQ hy (H.2 j (ready_mono hj hji))
      refine wpOp_mono (fun a' w' h3 => ⟨h3.2.1, ih (listed.setIfInBounds j true) a' w' ?_ (ready_mono hr (Ne.symm hji)) h3.1 (h3.2.1 hjst) ?_⟩) hstep
      · intro k ok hk hki hun hno
        refine hfree k ok hk hki ?_ hno
        by_cases hjk : j = k
        · subst hjk; exact hjun
        · rw [getD_set_ne true hjk] at hun; exact hun
      · rw [Array.setIfInBounds_comm _ _ hji]
        exact h3.2.2

theorem wpAnyT_take {st i : Nat} {oi : Oper} {v : Value} {fuel : Nat} {listed : Array Bool} {a : Act} {w : World} (hi : ops[i]? = some oi)
    (hs : Region.noSelect ops = true) (hf : Region.free md ops listed i = true) (hr : (Region.ready md ops listed).contains i = true) (hw : waits md ops st i = true)
    (hQ : ∀ c a w, Q (.panic c) (a.put oi.dst v) w → Q (.panic c) a w) (hy : YieldsIf P ops S oi v a) (hS : S w)
    (h : wpAnyT P md ops Q S st fuel (listed.setIfInBounds i true) (a.put oi.dst v) w) : wpAnyT P md ops Q S st (fuel + 1) listed a w :=
  wpAnyT_first hi (Region.noSelect_spec hs) hw hQ fuel listed a w (Region.free_spec hi hf) (by simpa using hr) hy hS h

theorem wpAnyT_pure {st : Nat} (i : Nat) (v : Value) {oi : Oper} {fuel : Nat} {listed : Array Bool} {a : Act} {w : World} (hi : ops[i]? = some oi)
    (hs : Region.noSelect ops = true) (hf : Region.free md ops listed i = true) (hr : (Region.ready md ops listed).contains i = true) (hw : waits md ops st i = true)
    (hQ : ∀ c a w, Q (.panic c) (a.put oi.dst v) w → Q (.panic c) a w) (hS : S w) (hwant : Region.wanted oi (yielded ops a.tmps) = true)
    (hrun : ∀ w, S w → (execOp a.eval oi).run P w = .ok (.value v) w)
    (h : wpAnyT P md ops Q S st fuel (listed.setIfInBounds i true) (a.put oi.dst v) w) : wpAnyT P md ops Q S st (fuel + 1) listed a w :=
  wpAnyT_take hi hs hf hr hw hQ (.inl ⟨hwant, hrun⟩) hS h
/-- One operation by the walk's own steps. -/
theorem wpOp_of_list {i : Nat} {o : Oper} {K : Act → World → Prop} {a : Act} {w : World} (ho : ops[i]? = some o) (h : wpList P ops (Exit.then K Q) [o] a w) : wpOp P ops Q i K a w := by
  have key : o.wp P a w K (Exit.then K Q) → o.wp P a w K Q := by
    unfold Oper.wp
    generalize (execOp a.eval o).run P w = r
    cases r with
    | ok n w' => cases n <;> exact fun h => h
    | halt x w' => cases x <;> exact fun h => h
  unfold wpOp
  rw [ho]
  show if Region.wanted o (yielded ops a.tmps) then o.wp P a w K Q ∨ (o.asks P a w ∧ LetsOut Q) else K (a.put o.dst undef) w
  have h' : if Region.wanted o (yielded ops a.tmps) then o.wp P a w K (Exit.then K Q) ∨ (o.asks P a w ∧ LetsOut (Exit.then K Q)) else K (a.put o.dst undef) w := h
  split
  · rename_i hw
    rw [if_pos hw] at h'
    exact h'.imp key id
  · rename_i hw
    rw [if_neg hw] at h'
    exact h'
theorem wpAnyT_all {st : Nat} {rs : List Nat} {fuel : Nat} {listed : Array Bool} {a : Act} {w : World} (hr : Region.ready md ops listed = rs) (hne : rs ≠ [])
    (h : ∀ i ∈ rs, wpOp P ops Q i (fun a' w' => (i ≠ st → S w') ∧ wpAnyT P md ops Q S st fuel (listed.setIfInBounds i true) a' w') a w) : wpAnyT P md ops Q S st (fuel + 1) listed a w :=
  ⟨fun h0 => absurd (hr ▸ h0) hne, hr ▸ h⟩
theorem wpAnyT_done {st : Nat} {listed : Array Bool} {a : Act} {w : World} (hr : Region.ready md ops listed = []) (h : Q .normal a w) : ∀ fuel, wpAnyT P md ops Q S st fuel listed a w
  | 0 => ⟨hr, h⟩
  | _ + 1 => ⟨fun _ => h, by rw [hr]; simp⟩
theorem wp_region_T {st : Nat} {id : Nat} {a : Act} {w : World} (hm : P.follows .mixedOrders = true)
    (h : wpAnyT P .any ops Q S st ops.size (Array.replicate ops.size false) a { w with drawn := w.drawn + 1 }) : (Code.region id ops true).wp P Q a w :=
  wp_region_any hm (wpAny_of_T _ _ _ _ h)
end
end Go.Proofs.YtmanmlankfoflaaDoor

/- Walk of the generator 'Bytes'. -/
namespace Go.Proofs.YtmanmlankfoflaaDoor
open Go.RowKit
variable [Base]

theorem But.blk {bt b : Nat} {w w' : World} {o : Obj} (h : But bt w w') (hb : w.heap[b]? = some o) (hne : b ≠ bt) : w'.heap[b]? = some o := (h.block b (lt_heap hb) hne).trans hb
theorem But.undrew {bt n : Nat} {w w' : World} (hb : But bt (w.drewN n) w') : But bt w w' := ⟨hb.os, hb.tape, hb.output, hb.size, hb.block⟩
theorem But.belowB {bt B : Nat} {a w w' : World} (h : But bt a w) (k : Below B w w') (hB : a.heap.size ≤ B) : But bt a w' :=
  ⟨k.os.trans h.os, k.tape.trans h.tape, k.output.trans h.output, Nat.le_trans h.size k.size, fun i hi hn => (k.block i (Nat.lt_of_lt_of_le hi hB)).trans (h.block i hi hn)⟩
theorem infoU8 : (Tryd.prog.info? 5).map (fun i => (i.zero, i.size, i.bytes)) = some (some (.int .u8 0), 1, 1) := by kernel_rfl
def u8v (z : Int) : Value := .int .u8 z

theorem cell_ltB {w : World} {b o : Nat} {v : Value} (h : w.cell? ⟨b, o, none⟩ = some v) : b < w.heap.size := by
  rcases Nat.lt_or_ge b w.heap.size with h' | h'
  · exact h'
  · simp [World.cell?, Array.getElem?_eq_none h'] at h

/-- The bytes at hand: block g, n of them. -/
structure BOut (w : World) (g n cap : Nat) (zs : List Int) : Prop where
  len : zs.length = n
  le : n ≤ cap
  max : cap ≤ maxLen
  blk : ∃ cur, w.heap[g]? = some (.cells cur 5 (0, 0)) ∧ cur.size = cap ∧ ∀ j, j < n → cur[j]? = some (u8v (zs.getD j 0))
theorem BOut.of_row {w : World} {base g n cap : Nat} {zs : List Int} (h : w.ownsRow base 5 1 (.slice (some ⟨g, 0, none⟩) n cap) n (zs.map u8v)) : BOut w g n cap zs := by
  obtain ⟨h1, h2⟩ := h
  simp at h1
  rcases h2 with ⟨e, _⟩ | ⟨g', cap', cur, e, _, hh, hn, hm, hs, ht⟩
  · injection e with e _ _; cases e
  · injection e with e1 e2 e3
    injection e1 with e1
    injection e1 with e1 _
    subst e1 e3
    refine ⟨h1, hn, hm, cur, hh, by omega, fun j hj => ?_⟩
    have h3 := congrArg (·[j]?) ht
    simp only [List.getElem?_take_of_lt (show j < n * 1 by omega), List.getElem?_map] at h3
    rw [← Array.getElem?_toList, h3]
    simp [List.getD, List.getElem?_eq_getElem (show j < zs.length by omega)]
theorem BOut.cell {w : World} {g n cap : Nat} {zs : List Int} (h : BOut w g n cap zs) (j : Nat) (hj : j < n) : w.cell? ⟨g, j, none⟩ = some (u8v (zs.getD j 0)) := by
  obtain ⟨cur, hh, _, hc⟩ := h.blk
  simp [World.cell?, hh]
  exact hc j hj
theorem BOut.free {w : World} {g n cap : Nat} {zs : List Int} (h : BOut w g n cap zs) (j : Nat) : w.frozen? ⟨g, j, none⟩ = false := by
  obtain ⟨cur, hh, _, hc⟩ := h.blk
  simp [World.frozen?, hh]
theorem BOut.lt {w : World} {g n cap : Nat} {zs : List Int} (h : BOut w g n cap zs) : g < w.heap.size := by
  obtain ⟨cur, hh, _, hc⟩ := h.blk
  exact lt_heap hh
theorem BOut.but {w w' : World} {bt g n cap : Nat} {zs : List Int} (h : BOut w g n cap zs) (hb : But bt w w') (hg : g ≠ bt) : BOut w' g n cap zs := by
  obtain ⟨cur, hh, hs, hc⟩ := h.blk
  exact ⟨h.len, h.le, h.max, cur, hb.blk hh hg, hs, hc⟩

theorem BOut.own {w : World} {g n cap : Nat} {zs : List Int} (h : BOut w g n cap zs) {base : Nat} (hb : base ≤ g) : w.ownsRow base 5 1 (.slice (some ⟨g, 0, none⟩) n cap) n (zs.map u8v) := by
  obtain ⟨cur, hh, hs, hc⟩ := h.blk
  have hl := h.len
  have hle := h.le
  refine ⟨by simp [hl], .inr ⟨g, cap, cur, rfl, hb, hh, h.le, h.max, by omega, ?_⟩⟩
  apply List.ext_getElem?
  intro j
  rcases Nat.lt_or_ge j n with hj | hj
  · rw [List.getElem?_take_of_lt (by omega), Array.getElem?_toList, hc j hj]
    simp [List.getD, List.getElem?_eq_getElem (show j < zs.length by omega)]
  · rw [List.getElem?_eq_none (by simp; omega), List.getElem?_eq_none (by simp; omega)]
theorem BOut.set {w : World} {g n cap : Nat} {zs : List Int} (h : BOut w g n cap zs) (i : Nat) (hi : i < n) (z : Int) : BOut (w.setCell ⟨g, i, none⟩ (u8v z)) g n cap (zs.set i z) := by
  obtain ⟨cur, hh, hs, hc⟩ := h.blk
  have hl := h.len
  have hle := h.le
  refine ⟨by simp [hl], h.le, h.max, cur.set! i (u8v z), by simp [World.setCell, Array.getElem?_modify, hh], by simp [hs], fun j hj => ?_⟩
  by_cases he : i = j
  · subst he
    simp [List.getD, show i < cur.size by omega, show i < zs.length by omega]
  · have h1 := hc j hj
    simp [List.getD, he] at h1 ⊢
    exact h1

theorem But.setCells {bt b : Nat} {a : World} (hb : a.heap.size ≤ b) : ∀ (vs : List Value) (o : Nat) (w : World), But bt a w → But bt a (w.setCells b o vs)
  | [], _, _, h => h
  | v :: r, o, w, h => But.setCells hb r (o + 1) _ (h.setCell ⟨b, o, none⟩ (.inr hb) v)
theorem TapeOk.setCells {B bt b : Nat} (h1 : b ≠ bt) (h2 : B ≤ b) : ∀ (vs : List Value) (o : Nat) (w : World), TapeOk B w bt → TapeOk B (w.setCells b o vs) bt
  | [], _, _, h => h
  | v :: r, o, w, h => TapeOk.setCells h1 h2 r (o + 1) _ (h.setCell (p := ⟨b, o, none⟩) h1 h2 v)

/-- What 'Bytes' comes to: some bytes. -/
def BytesPost (B bt N : Nat) (w : World) (e : Ending) (w' : World) : Prop :=
  ∃ (b n cap : Nat) (zs : List Int), e = .returned (.slice (some ⟨b, 0, none⟩) n cap) ∧ zs.length = n ∧ n ≤ N + 1 ∧ (∀ j, j < n → w'.cell? ⟨b, j, none⟩ = some (u8v (zs.getD j 0))) ∧ TapeOk B w' bt ∧ But bt w w'

set_option maxRecDepth 100000 in
set_option maxHeartbeats 2000000 in
theorem bytes_any {B bt : Nat} {w : World} (ht : TapeOk B w bt) (b0 n c : Nat) (zs : List Int) (hlen : zs.length = n) (h1 : 1 ≤ n) (hn : n ≤ 1000000)
    (hc : ∀ j, j < n → w.cell? ⟨b0, j, none⟩ = some (u8v (zs.getD j 0))) :
    Calls Tryd.prog 37 #[.pointer (some ⟨bt, 0, none⟩), .slice (some ⟨b0, 0, none⟩) n c] w (BytesPost B bt n w) := by
  have hlt := ht.lt
  have Ht := Lib.hid ht
  have HC := Lib.hid hc
  have HL := Lib.hid hlen
  clear ht hc hlen
  obtain ⟨i8, hi8, hz8, hs8, hb8⟩ := info_parts infoU8
  have hm0 := World.ownsRow_made (e := 5) (size := 1) (base := w.heap.size) w #[] 0 (Nat.le_refl _) (Nat.zero_le _) rfl
  have HM := Lib.hid hm0
  have HN : Hid (∀ j u, (zs.map u8v)[j]? = some u → (w.alloc (.cells #[] 5)).cell? ((⟨b0, 0, none⟩ : Addr).add j) = some u) := by
    intro j u hu
    have hj : j < n := by have := (List.getElem?_eq_some_iff.1 hu).1; have := HL.out; simp at *; omega
    have h1 := HC.out j hj
    have h2 : (⟨b0, 0, none⟩ : Addr).add j = ⟨b0, j, none⟩ := by rw [Addr.add_lit, Nat.zero_add]
    rw [h2]
    have h3 := (((Below.refl w.heap.size w).alloc (Nat.le_refl _) (.cells #[] 5)).cell (p := ⟨b0, j, none⟩) (cell_ltB h1)).trans h1
    rw [h3, ← hu]
    simp [List.getD, List.getElem?_eq_getElem (show j < zs.length by have := HL.out; omega)]
  have HO1 : Hid (∀ u ∈ zs.map u8v, u.oneCell' = true) := by
    intro u hu
    obtain ⟨x, _, rfl⟩ := List.mem_map.1 hu
    rfl
  clear hm0
  go_enter Tryd.func37, Tryd.ntmps37
  go_wp2_with (at_builtin; refine wpList_append_lies _ rfl _ _ 53 rfl w.heap.size 5 i8 _ 1 1 Tryd.underlying53 hi8 hz8 hs8 hb8 rfl (by omega) _ 0 [] rfl HM.out ⟨b0, 0, none⟩ n c (zs.map u8v) rfl (by simp; exact HL.out) HN.out HO1.out (by omega) (by unfold maxLen; omega) (by omega) (by simp) (w.heap.size + 1) (by simp) ?_; intro g cap w1 hown1 hgrow hor hgl; have hb1 := (((Below.refl w.heap.size w).alloc (Nat.le_refl _) (.cells #[] 5)).trans (Below.of_grown hgrow HM.out (by simp))); have hge : w.heap.size ≤ g := (by rcases hor with h | h; (have h2 : w.heap.size = g := Option.some.inj h; omega); omega); simp only [Nat.zero_add, List.nil_append] at hown1; have O1 := Lib.hid (BOut.of_row hown1); have T1 := Lib.hid (Ht.out.keep (hb1.block bt hlt) (fun k hk => hb1.block k (by have := Ht.out.ge; omega)) hb1.size); have B1 := Lib.hid (But.below (But.refl bt w) hb1); clear hown1 hgrow hor hb1 HN HO1 HM; rw [Nat.zero_add])
  refine (next_any T1.out n (by omega)).mono ?_
  rintro e w2 ⟨i, i0, i1, rfl, t2, b2⟩
  obtain ⟨iN, rfl⟩ := Int.eq_ofNat_of_zero_le i0
  have hiN : iN < n := by omega
  have hgb : g ≠ bt := by omega
  have O2 := Lib.hid (O1.out.but b2 hgb)
  have T2 := Lib.hid t2
  have B2 := Lib.hid (B1.out.trans b2)
  clear t2 b2 O1 T1 B1 i0 i1
  go_wp2_with fail
  refine (next_any T2.out 4 (by omega)).mono ?_
  rintro e w3 ⟨q, q0, q1, rfl, t3, b3⟩
  have O3 := Lib.hid (O2.out.but b3 hgb)
  have T3 := Lib.hid t3
  have B3 := Lib.hid (B2.out.trans b3)
  clear t3 b3 O2 T2 B2
  have hq : q = 0 ∨ q = 1 ∨ q = 2 ∨ q = 3 := by omega
  clear q0 q1
  have hcap := O3.out.le
  have hmax := O3.out.max
  unfold maxLen at hmax
  rcases hq with rfl | rfl | rfl | rfl
  · have c1 := O3.out.cell iN hiN
    go_wp2_with fail
    refine wp_region_T (S := fun w' => w'.cell? ⟨g, iN, none⟩ = some (u8v (zs.getD iN 0))) (st := 10) (by kernel_rfl) ?_
    refine wpAnyT_pure 0 ?v0 rfl (by kernel_rfl) (by kernel_rfl) (by kernel_rfl) (by kernel_rfl) (fun _ _ _ h => h) c1 rfl ?run0 ?rest0
    case run0 => intro w hS; go_simp; rfl
    case rest0 =>
    refine wpAnyT_pure 1 ?v1 rfl (by kernel_rfl) (by kernel_rfl) (by kernel_rfl) (by kernel_rfl) (fun _ _ _ h => h) c1 rfl ?run1 ?rest1
    case run1 => intro w hS; go_simp; rfl
    case rest1 =>
    refine wpAnyT_pure 2 ?v2 rfl (by kernel_rfl) (by kernel_rfl) (by kernel_rfl) (by kernel_rfl) (fun _ _ _ h => h) c1 rfl ?run2 ?rest2
    case run2 => intro w hS; go_simp; rfl
    case rest2 =>
    refine wpAnyT_pure 3 ?v3 rfl (by kernel_rfl) (by kernel_rfl) (by kernel_rfl) (by kernel_rfl) (fun _ _ _ h => h) c1 rfl ?run3 ?rest3
    case run3 => intro w hS; go_simp; rfl
    case rest3 =>
    refine wpAnyT_pure 4 ?v4 rfl (by kernel_rfl) (by kernel_rfl) (by kernel_rfl) (by kernel_rfl) (fun _ _ _ h => h) c1 rfl ?run4 ?rest4
    case run4 => intro w hS; go_simp; rfl
    case rest4 =>
    refine wpAnyT_all (rs := [5]) (by kernel_rfl) (by decide) ?_
    intro i hi
    obtain rfl : i = 5 := by simpa using hi
    clear hi
    refine wpOp_of_list rfl ?_
    go_wp2_with fail
    refine (next_any (T3.out.drewN 1) 255 (by omega)).mono ?_
    rintro e w4 ⟨r, r0, r1, rfl, t4, b4⟩
    have b4 := But.undrew b4
    have O4 := Lib.hid (O3.out.but b4 hgb)
    have T4 := Lib.hid t4
    have B4 := Lib.hid (B3.out.trans b4)
    have c2 := O4.out.cell iN hiN
    have f2 := O4.out.free iN
    clear t4 b4 O3 T3 B3 c1
    go_wp2
    refine ⟨fun _ => c2, ?_⟩
    refine wpAnyT_pure 6 ?v6 rfl (by kernel_rfl) (by kernel_rfl) (by kernel_rfl) (by kernel_rfl) (fun _ _ _ h => h) c2 rfl ?run6 ?rest6
    case run6 => intro w hS; go_simp; rfl
    case rest6 =>
    refine wpAnyT_pure 7 ?v7 rfl (by kernel_rfl) (by kernel_rfl) (by kernel_rfl) (by kernel_rfl) (fun _ _ _ h => h) c2 rfl ?run7 ?rest7
    case run7 => intro w hS; go_simp; rfl
    case rest7 =>
    refine wpAnyT_pure 8 ?v8 rfl (by kernel_rfl) (by kernel_rfl) (by kernel_rfl) (by kernel_rfl) (fun _ _ _ h => h) c2 rfl ?run8 ?rest8
    case run8 => intro w hS; go_simp; rfl
    case rest8 =>
    refine wpAnyT_pure 9 ?v9 rfl (by kernel_rfl) (by kernel_rfl) (by kernel_rfl) (by kernel_rfl) (fun _ _ _ h => h) c2 rfl ?run9 ?rest9
    case run9 => intro w hS; go_simp; rfl
    case rest9 =>
    refine wpAnyT_all (rs := [10]) (by kernel_rfl) (by decide) ?_
    intro i hi
    obtain rfl : i = 10 := by simpa using hi
    clear hi
    refine wpOp_of_list rfl ?_
    go_wp2
    refine ⟨fun h => absurd rfl h, ?_⟩
    refine wpAnyT_done (by kernel_rfl) ?_ _
    have O5 := Lib.hid (O4.out.set iN hiN)
    have T5 := Lib.hid (fun u => T4.out.setCell (p := ⟨g, iN, none⟩) hgb (by have := Ht.out.ge; show B ≤ g; omega) u)
    have B5 := Lib.hid (fun u => B4.out.setCell ⟨g, iN, none⟩ (.inr hge) u)
    go_wp2
    go_ret
    exact ⟨g, n, cap, _, rfl, (O5.out _).len, by omega, (O5.out _).cell, T5.out _, B5.out _⟩
  · have hid : decide ((iN : Int) ≤ (cap : Int)) = true := decide_eq_true (by omega)
    go_wp2
    go_ret
    exact ⟨g, iN, cap, (zs.take iN), rfl, by rw [List.length_take, HL.out]; omega, by omega, fun j hj => by rw [O3.out.cell j (by omega)]; congr 2; simp [List.getD, hj], T3.out, B3.out⟩
  · go_wp2_with fail
    refine (next_any T3.out 256 (by omega)).mono ?_
    rintro e w4 ⟨r, r0, r1, rfl, t4, b4⟩
    have r2 : r < 256 := by omega
    have O4 := Lib.hid (O3.out.but b4 hgb)
    have T4 := Lib.hid t4
    have B4 := Lib.hid (B3.out.trans b4)
    have hzw := O4.out.lt
    clear t4 b4 O3 T3 B3 r1
    go_wp2_with (at_builtin; refine wpList_pushH [.int .u8 r] rfl _ _ 53 rfl w.heap.size 5 _ 1 1 Tryd.underlying53 infoU8 rfl (by omega) _ _ _ (O4.out.own hge) rfl _ rfl (by simp) rfl rfl (by unfold maxLen; omega) (by omega) (by first | omega | (simp; omega)) ?_; intro g2 cap2 w6 hown1 hg1 hg2 hg3; have hown2 : w6.ownsRow w.heap.size 5 1 (.slice (some ⟨g2, 0, none⟩) (n + 1) cap2) (n + 1) ((zs ++ [r]).map u8v) := (by rw [List.map_append]; exact hown1); have O5 := Lib.hid (BOut.of_row hown2); have hb6 := Below.of_grown hg1 (O4.out.own hge) (by omega); have T5 := Lib.hid (T4.out.keep (hb6.block bt hlt) (fun k hk => hb6.block k (by have := Ht.out.ge; omega)) hb6.size); have B5 := Lib.hid (B4.out.belowB hb6 (Nat.le_refl _)); clear hown1 hown2 hg1 hb6 O4 T4 B4)
    go_ret
    exact ⟨g2, n + 1, cap2, _, rfl, O5.out.len, by omega, O5.out.cell, T5.out, B5.out⟩
  · obtain ⟨A, hA, hnews⟩ : ∃ A : Addr, (if cap = iN + 1 then some (⟨g, 0, none⟩ : Addr) else some ⟨g, iN + 1, none⟩) = some A ∧ Hid (∀ j u, ((zs.drop (iN + 1)).map u8v)[j]? = some u → w3.cell? (A.add j) = some u) := by
      have hlz := HL.out
      by_cases h : cap = iN + 1
      · refine ⟨⟨g, 0, none⟩, by simp [h], fun j u hu => ?_⟩
        rw [List.drop_of_length_le (by omega)] at hu
        simp at hu
      · refine ⟨⟨g, iN + 1, none⟩, by simp [h], fun j u hu => ?_⟩
        have hj : j < n - (iN + 1) := by
          have := (List.getElem?_eq_some_iff.1 hu).1
          simp at this
          omega
        rw [Addr.add_lit, O3.out.cell (iN + 1 + j) (by omega), ← hu]
        simp [List.getD, List.getElem?_eq_getElem (show iN + 1 + j < zs.length by omega)]
    have HSrc : Hid (Src Tryd.prog i8.size 53 (.slice (some A) (n - (iN + 1)) (cap - (iN + 1))) (n - (iN + 1)) ((zs.drop (iN + 1)).map u8v) (w3.drewN 1)) := by
      refine Src.ofSlice _ Tryd.underlying53 A _ _ _ (by rw [hs8, List.length_map, List.length_drop, HL.out]; omega) hnews.out ?_
      intro u hu
      obtain ⟨x, _, rfl⟩ := List.mem_map.1 hu
      rfl
    have hic : iN ≤ cap := by omega
    have hin : (iN : Int) ≤ (cap : Int) := by omega
    have hwr : IntKind.i64.wrap ((iN : Int) + 1) = (iN : Int) + 1 := by rw [IntKind.wrap_i64]; omega
    have hp0 : (0 : Int) ≤ (iN : Int) + 1 := by omega
    have hp1 : (iN : Int) + 1 ≤ (n : Int) := by omega
    have hp2 : ((iN : Int) + 1).toNat = iN + 1 := by omega
    go_wp2_with fail
    refine wp_region_T (S := fun _ => True) (st := 8) (by kernel_rfl) ?_
    refine wpAnyT_pure 0 ?u0 rfl (by kernel_rfl) (by kernel_rfl) (by kernel_rfl) (by kernel_rfl) (fun _ _ _ h => h) trivial rfl ?runx0 ?restx0
    case runx0 => intro w hS; go_simp; rfl
    case restx0 =>
    refine wpAnyT_pure 1 ?u1 rfl (by kernel_rfl) (by kernel_rfl) (by kernel_rfl) (by kernel_rfl) (fun _ _ _ h => h) trivial rfl ?runx1 ?restx1
    case runx1 => intro w hS; go_simp; rfl
    case restx1 =>
    refine wpAnyT_pure 2 ?u2 rfl (by kernel_rfl) (by kernel_rfl) (by kernel_rfl) (by kernel_rfl) (fun _ _ _ h => h) trivial rfl ?runx2 ?restx2
    case runx2 => intro w hS; go_simp; rfl
    case restx2 =>
    refine wpAnyT_pure 3 ?u3 rfl (by kernel_rfl) (by kernel_rfl) (by kernel_rfl) (by kernel_rfl) (fun _ _ _ h => h) trivial rfl ?runx3 ?restx3
    case runx3 => intro w hS; go_simp; rfl
    case restx3 =>
    refine wpAnyT_pure 4 ?u4 rfl (by kernel_rfl) (by kernel_rfl) (by kernel_rfl) (by kernel_rfl) (fun _ _ _ h => h) trivial rfl ?runx4 ?restx4
    case runx4 => intro w hS; go_simp; rfl
    case restx4 =>
    refine wpAnyT_pure 5 ?u5 rfl (by kernel_rfl) (by kernel_rfl) (by kernel_rfl) (by kernel_rfl) (fun _ _ _ h => h) trivial rfl ?runx5 ?restx5
    case runx5 => intro w hS; go_simp; rfl
    case restx5 =>
    refine wpAnyT_pure 6 ?u6 rfl (by kernel_rfl) (by kernel_rfl) (by kernel_rfl) (by kernel_rfl) (fun _ _ _ h => h) trivial rfl ?runx6 ?restx6
    case runx6 => intro w hS; go_simp; rfl
    case restx6 =>
    refine wpAnyT_all (rs := [7]) (by kernel_rfl) (by decide) ?_
    intro i hi
    obtain rfl : i = 7 := by simpa using hi
    clear hi
    refine wpOp_of_list rfl ?_
    have hnl : ((zs.drop (iN + 1)).map u8v).length = n - (iN + 1) := by rw [List.length_map, List.length_drop, HL.out]
    have HNL := Lib.hid hnl
    have hs1 : Hid (∀ j, j < ((zs.drop (iN + 1)).map u8v).length → ((w3.drewN 1).cell? ⟨g, 0 + iN * i8.size + j, none⟩).isSome = true) := by
      intro j hj
      rw [hnl] at hj
      rw [hs8, show 0 + iN * 1 + j = iN + j by omega]
      show (w3.cell? ⟨g, iN + j, none⟩).isSome = true
      rw [O3.out.cell (iN + j) (by omega)]
      rfl
    have hs2 : Hid (∀ j, j < ((zs.drop (iN + 1)).map u8v).length → (w3.drewN 1).frozen? ⟨g, 0 + iN * i8.size + j, none⟩ = false) := by
      intro j _
      exact O3.out.free _
    have T5 := Lib.hid (TapeOk.setCells hgb (by have := Ht.out.ge; omega) ((zs.drop (iN + 1)).map u8v) (0 + iN * i8.size) _ (T3.out.drewN 1))
    have B5 := Lib.hid (But.setCells hge ((zs.drop (iN + 1)).map u8v) (0 + iN * i8.size) _ (B3.out.drewN 1))
    have C5 : Hid (∀ j, j < iN + (n - (iN + 1)) → ((w3.drewN 1).setCells g (0 + iN * i8.size) ((zs.drop (iN + 1)).map u8v)).cell? ⟨g, j, none⟩ = some (u8v ((zs.take iN ++ zs.drop (iN + 1)).getD j 0))) := by
      intro j hj
      have hlz := HL.out
      rw [hs8, show 0 + iN * 1 = iN by omega]
      rcases Nat.lt_or_ge j iN with hlt | hge2
      · rw [World.cell?_setCells_out g _ _ _ ⟨g, j, none⟩ (fun _ _ => .inl hlt)]
        refine (O3.out.cell j (by omega)).trans ?_
        congr 2
        simp [List.getD, List.getElem?_append_left (show j < (zs.take iN).length by rw [List.length_take]; omega), hlt]
      · obtain ⟨m, rfl⟩ : ∃ m, j = iN + m := ⟨j - iN, by omega⟩
        have hm : m < ((zs.drop (iN + 1)).map u8v).length := by rw [hnl]; omega
        rw [World.cell?_setCells_in g _ iN _ (fun k hk => by have := hs1.out k hk; rw [hs8, show 0 + iN * 1 + k = iN + k by omega] at this; exact this) m hm]
        simp only [List.getElem_map, List.getElem_drop]
        congr 2
        rw [List.getD, List.getElem?_append_right (by rw [List.length_take]; omega), List.length_take, show iN + m - min iN zs.length = m by omega, List.getElem?_drop, List.getElem?_eq_getElem (show iN + 1 + m < zs.length by omega)]
        rfl
    clear hnl
    have HSrc2 := Lib.hid HSrc.out
    clear HSrc
    have ho : Hid (0 + iN * i8.size = iN) := by unfold Hid; rw [hs8]; omega
    obtain ⟨NW, hNW⟩ : ∃ NW, (zs.drop (iN + 1)).map u8v = NW := ⟨_, rfl⟩
    obtain ⟨ZZ, hZZ⟩ : ∃ ZZ, zs.take iN ++ zs.drop (iN + 1) = ZZ := ⟨_, rfl⟩
    have hZL : Hid (ZZ.length = iN + (n - (iN + 1))) := by unfold Hid; have := HL.out; rw [← hZZ, List.length_append, List.length_take, List.length_drop]; omega
    rw [hZZ] at C5
    rw [hNW] at C5 T5 B5 HSrc2 hs1 hs2 HNL hnews
    clear hNW hZZ
    refine wpList_append_room_src _ rfl _ _ _ _ rfl _ i8 Tryd.underlying53 hi8 g 0 iN cap (by simp [Act.eval, Act.put]) _ (by simp [Act.eval, Act.put]) _ _ HSrc2.out (by omega) hs1.out hs2.out ?_
    rw [ho.out] at C5 T5 B5
    rw [ho.out]
    clear hs1 hs2 HSrc2
    go_wp2
    refine ⟨fun _ => trivial, ?_⟩
    refine wpAnyT_all (rs := [8]) (by kernel_rfl) (by decide) ?_
    intro i hi
    obtain rfl : i = 8 := by simpa using hi
    clear hi
    refine wpOp_of_list rfl ?_
    go_wp2
    refine ⟨fun h => absurd rfl h, ?_⟩
    refine wpAnyT_done (by kernel_rfl) ?_ _
    go_wp2
    go_ret
    exact ⟨g, iN + (n - (iN + 1)), cap, ZZ, rfl, hZL.out, by omega, C5.out, T5.out, B5.out⟩
end Go.Proofs.YtmanmlankfoflaaDoor

/- '[]byte(p)'. -/
namespace Go.Proofs.YtmanmlankfoflaaDoor
open Go.RowKit
variable [Base]

theorem getD_nat (l : List UInt8) (j : Nat) : (((l.getD j 0).toNat : Nat) : Int) = (l.map fun b : UInt8 => (b.toNat : Int)).getD j 0 := by
  simp only [List.getD, List.getElem?_map]
  cases l[j]? <;> rfl
/-- '[]byte(p)'. -/
theorem conv_bytes (p : ByteArray) (w : World) : ∃ w4 cap, (convert 9 53 (.string p)).run Tryd.prog w = .ok (.slice (some ⟨w.heap.size, 0, none⟩) p.size cap) w4 ∧ Below w.heap.size w w4 ∧
    ∀ j, j < p.size → w4.cell? ⟨w.heap.size, j, none⟩ = some (u8v ((p.data.toList.map fun b : UInt8 => (b.toNat : Int)).getD j 0)) := by
  refine ⟨_, _, Lib.run_convert_string_bytes w 9 53 5 p Tryd.underlying9 Tryd.underlying53 Tryd.underlying5, ?_, fun j hj => ?_⟩
  · exact ⟨rfl, rfl, rfl, by rw [Lib.bytesWorld_size]; omega, fun k hk => Lib.bytesWorld_at_old w 5 p k hk⟩
  · rw [Lib.bytesWorld_cell w 5 p j hj, ← getD_nat]
    rfl

end Go.Proofs.YtmanmlankfoflaaDoor

/- The law BitsetTexts: the walk. Printed by wip/gen_bslt.py. -/
namespace Go.Proofs.YtmanmlankfoflaaDoor
open Go.RowKit
variable [Base]

theorem bparse_n {B : Nat} {l : Str} {r : QSet} {n : Int} (h : bpS l = (r, n)) (hl : l.length ≤ 1000000) (w : World) (hV : VarsIn B w) (hB : B ≤ w.heap.size) : Calls Tryd.prog 34 #[qs l] w (fun e w' => ∃ u, e = .returned (.tuple #[.agg #[.int .i64 r.width, u], .int .i64 n]) ∧ WordsAt w' u r.words ∧ Below w.heap.size w w') :=
  (bparse_any l hl w hV hB).mono fun e w' h2 => by rw [h] at h2; exact h2
theorem rparse_n {B : Nat} {l : Str} {r : QSet} {n : Int} (h : rpS l = (r, n)) (hl : l.length ≤ 1000000) (w : World) (hV : VarsIn B w) (hB : B ≤ w.heap.size) : Calls Tryd.prog 67 #[qs l] w (fun e w' => ∃ u, e = .returned (.tuple #[.agg #[.int .i64 r.width, u], .int .i64 n]) ∧ WordsAt w' u r.words ∧ Below w.heap.size w w') :=
  (rparse_any l hl w hV hB).mono fun e w' h2 => by rw [h] at h2; exact h2
theorem btext_w {B : Nat} {s : QSet} {x : Str} (hx : textS s = x) (u : Value) (w : World) (h : WordsAt w u s.words) (hT : TabsIn B w) (hB : B ≤ w.heap.size) : Calls Tryd.prog 35 #[.agg #[.int .i64 s.width, u]] w (StrQ x w) := hx ▸ btext_any s u w h hT hB
theorem rtext_w {s : QSet} {x : Str} (hx : textS s = x) (u : Value) (w : World) (h : WordsAt w u s.words) : Calls Tryd.prog 38 #[.agg #[.int .i64 s.width, u]] w (StrQ x w) := hx ▸ rtext_any s u w h
theorem text_len {m : Nat} {s : QSet} (h : Ok m s) : 1 ≤ (textS s).length ∧ (textS s).length ≤ 6000 := by
  rw [text_eq h, List.length_append, List.length_cons]
  have h1 := join_len ((memS s).map dec10) (fun x hx => by obtain ⟨n, _, rfl⟩ := List.mem_map.1 hx; exact decF_len 20 n)
  rw [List.length_map] at h1
  have h2 := memS_len s h.words
  have h3 : (dec10 m).length ≤ 20 := decF_len 20 m
  omega
theorem nums_size (xs : List Int) : (strOfNums xs).size = xs.length := by simp [strOfNums, ByteArray.size]
set_option maxHeartbeats 2000000 in
theorem parses_any {B : Nat} (l : Str) (hl : l.length ≤ 1000000) (w : World) (hV : VarsIn B w) (hB : B ≤ w.heap.size) : Calls Tryd.prog 36 #[qs l] w (BoolQ true w) := by
  have hud : ∀ b : Bool, (undef = Value.bool b) = False := fun b => by simp [undef]
  obtain ⟨⟨r, n⟩, hq⟩ : ∃ q, bpS l = q := ⟨_, rfl⟩
  have HB1 := Lib.hid hq
  have HB2 := Lib.hid (show rpS l = (r, n) by rw [← bp_rp]; exact hq)
  have HV := Lib.hid hV
  have hnn : (n == n) = true := by simp
  clear hq hV
  go_enter Tryd.func36, Tryd.ntmps36
  have E0 := Lib.hid (Below.refl w.heap.size w)
  go_wp2_with fail
  refine (bparse_n (B := B) HB1.out hl _ HV.out hB).mono ?_
  rintro e v1 ⟨ux, rfl, nx, b⟩
  have BB1 := Lib.hid b
  have E1 := Lib.hid (E0.out.trans (BB1.out.mono E0.out.size))
  clear b
  obtain ⟨ax, kx, cx, rfl⟩ := nx.shape
  have Wx := Lib.hid nx
  clear nx
  go_wp2_with fail
  refine (rparse_n (B := B) HB2.out hl _ (HV.out.below ((E1.out.alloc E1.out.size _).mono hB)) (by have := E1.out.size; simp; omega)).mono ?_
  rintro e v2 ⟨uy, rfl, ny, b⟩
  have BB2 := Lib.hid (((Below.refl v1.heap.size v1).alloc (Nat.le_refl _) _).trans (b.mono (by simp)))
  have E2 := Lib.hid (E1.out.trans (BB2.out.mono E1.out.size))
  have Px := Lib.hid ((b.block v1.heap.size (by simp)).trans (heap_alloc_new v1 (.cells #[.int .i64 r.width, .slice ax kx cx] 25)))
  have Wx_ := Lib.hid (Wx.out.below BB2.out)
  clear Wx
  have Wx := Wx_
  clear Wx_
  clear b
  obtain ⟨ay, ky, cy, rfl⟩ := ny.shape
  have Wy := Lib.hid ny
  clear ny
  have xx0 := (lies_cells Px.out).1 0
  have xx1 := (lies_cells Px.out).1 1
  simp only [List.getElem?_toArray, List.getElem?_cons_zero, List.getElem?_cons_succ] at xx0 xx1
  have yx0 : v1.heap.size < v2.heap.size := lt_heap Px.out
  have yx1 : v1.heap.size ≠ v2.heap.size := by omega
  have yx2 : v2.heap.size ≠ v1.heap.size := by omega
  go_wp2_with fail
  refine (same_w (d := r.width) (t := r) rfl _ _ _ (Wx.out.below ((Below.refl _ _).alloc (Nat.le_refl _) _)) (Wy.out.below ((Below.refl _ _).alloc (Nat.le_refl _) _))).mono ?_
  rintro e v3 ⟨rfl, b⟩
  have BB3 := Lib.hid (((Below.refl v2.heap.size v2).alloc (Nat.le_refl _) _).trans (b.mono (by simp)))
  have E3 := Lib.hid (E2.out.trans (BB3.out.mono E2.out.size))
  have Px_ := Lib.hid (lies_below Px.out BB3.out (lt_heap Px.out))
  have Wx_ := Lib.hid (Wx.out.below BB3.out)
  clear Px Wx
  have Px := Px_
  have Wx := Wx_
  clear Px_ Wx_
  have Py := Lib.hid ((b.block v2.heap.size (by simp)).trans (heap_alloc_new v2 (.cells #[.int .i64 r.width, .slice ay ky cy] 25)))
  have Wy_ := Lib.hid (Wy.out.below BB3.out)
  clear Wy
  have Wy := Wy_
  clear Wy_
  clear b
  clear xx0 xx1 yx0 yx1 yx2
  go_wp2
  go_ret
  exact ⟨rfl, E3.out⟩
theorem parses_in {B : Nat} (p : ByteArray) (hp : p.size ≤ 1000000) (w : World) (hV : VarsIn B w) (hB : B ≤ w.heap.size) : Calls Tryd.prog 36 #[.string p] w (BoolQ true w) :=
  parses_any p.data.toList (by rw [show p.data.toList.length = p.size by simp]; exact hp) w hV hB
def textBits : Array Value := #[.string ⟨#[48]⟩, .string ⟨#[49]⟩, .string ⟨#[49, 50]⟩, .string ⟨#[44]⟩, .string ⟨#[47]⟩, .string ⟨#[50, 53, 54]⟩, .string ⟨#[48, 51]⟩, .string ⟨#[50, 53, 55]⟩, .string ⟨#[32]⟩]
set_option maxRecDepth 100000 in
set_option maxHeartbeats 4000000 in
theorem textLaw_any (w0 : World) (a : Option Addr) (n c : Nat) (hn : n ≤ maxLen)
    (h : ∀ j : Nat, j < n → ∃ b off z, a = some ⟨b, off, none⟩ ∧ b < w0.heap.size ∧ w0.cell? ⟨b, off + j, none⟩ = some (.int .i64 z)) (KT : VarsIn w0.heap.size w0) (hbs : Base.b ≤ w0.heap.size) (p : ByteArray) :
    Calls Tryd.prog 8 #[.slice a n c, .string p] w0 (BoolQ true w0) := by
  have hud : ∀ b : Bool, (undef = Value.bool b) = False := fun b => by simp [undef]
  have HK := Lib.hid (show ∀ w', Below w0.heap.size w0 w' → VarsIn w0.heap.size w' from fun w' hb => KT.below hb)
  have H := Lib.hid h
  clear h KT
  go_enter Tryd.func8, Tryd.ntmps8
  go_wp2_with fail
  refine (new_any rfl a n c hn H.out hbs).mono ?_
  rintro e w1 ⟨rfl, ht, hb⟩
  have T1 := Lib.hid ht
  have B1 := Lib.hid hb
  clear ht hb
  go_wp2_with fail
  go_loopw [6] (fun y6 wr => ∃ i : Nat, i ≤ 5 ∧ y6 = .int .i64 i ∧ Hid (TapeOk w0.heap.size wr w0.heap.size) ∧ Hid (Below w0.heap.size w0 wr)) (fun y _ => 5 - (intOf y).toNat)
  case atStart => exact ⟨0, by omega, rfl, T1, B1⟩
  case round =>
    clear T1 B1
    obtain ⟨i, hi, rfl, HT, HB⟩ := hrel
    by_cases hlt : i < 5
    · have i2 : (i : Int) < 5 := by omega
      go_wp2_with fail
      refine (wide_at _ HT.out).mono ?_
      rintro e p1 ⟨X, ux, rfl, okx, dx, t, b⟩
      obtain ⟨ax, nx, cx, rfl⟩ := dx.shape
      obtain ⟨VV, hv⟩ : ∃ VV, p1.alloc (.cells #[.int .i64 X.width, .slice ax nx cx] 25) = VV := ⟨_, rfl⟩
      have hb2 : Below p1.heap.size p1 VV := by rw [← hv]; exact (Below.refl _ _).alloc (Nat.le_refl _) _
      have QX := Lib.hid (show VV.heap[p1.heap.size]? = some (.cells #[.int .i64 X.width, .slice ax nx cx] 25 (0, 0)) by rw [← hv]; exact heap_alloc_new _ _)
      have RX := Lib.hid (dx.below hb2)
      have T0 := Lib.hid (t.below hb2)
      have B2 := HB.out.trans (b.toBelow (Nat.le_refl _) HB.out.size)
      have BVV := Lib.hid (B2.trans (hb2.mono B2.size))
      obtain ⟨m0, hm0, hm1, -⟩ := form_len okx.1
      have OX := Lib.hid (show Ok m0 X from ⟨okx.1, okx.2, hm0⟩)
      have hbv1 : w0.heap.size < p1.heap.size := t.lt
      have HVV := Lib.hid hv
      obtain ⟨tx, htx⟩ : ∃ t, textS X = t := ⟨_, rfl⟩
      have HTX := Lib.hid htx
      have HBP := Lib.hid (show bpS tx = (X, 0) by rw [← htx]; exact bpS_text OX.out)
      obtain ⟨tl1, tl2⟩ : 1 ≤ tx.length ∧ tx.length ≤ 6000 := by rw [← htx]; exact text_len OX.out
      have x0 := (lies_cells QX.out).1 0
      have x1 := (lies_cells QX.out).1 1
      simp only [List.getElem?_toArray, List.getElem?_cons_zero, List.getElem?_cons_succ] at x0 x1
      clear b hb2 hv t dx okx B2 hm0 htx
      go_wp2_with fail
      rw [show p1.alloc (.cells #[.int .i64 X.width, .slice ax nx cx] 25) = VV from HVV.out]
      refine (btext_w (B := w0.heap.size) HTX.out _ VV RX.out (HK.out _ BVV.out).tabs BVV.out.size).mono ?_
      rintro e p2 ⟨rfl, b2⟩
      have B2 := Lib.hid (BVV.out.trans (b2.mono BVV.out.size))
      have T2 := Lib.hid (T0.out.below b2)
      have Q2 := Lib.hid (lies_below QX.out b2 (lt_heap QX.out))
      have R2 := Lib.hid (RX.out.below b2)
      clear b2 x0 x1
      go_wp2_with fail
      refine (bparse_n (B := w0.heap.size) HBP.out (by omega) p2 (HK.out _ B2.out) B2.out.size).mono ?_
      rintro e p3 ⟨uy, rfl, ny, b3⟩
      obtain ⟨ay, ky, cy, rfl⟩ := ny.shape
      have Q3 := Lib.hid (lies_below Q2.out b3 (lt_heap Q2.out))
      have R3 := Lib.hid (R2.out.below b3)
      have y0 := (lies_cells Q3.out).1 0
      have y1 := (lies_cells Q3.out).1 1
      simp only [List.getElem?_toArray, List.getElem?_cons_zero, List.getElem?_cons_succ] at y0 y1
      have y2 := lt_heap Q3.out
      have y3 : p1.heap.size ≠ p3.heap.size := by omega
      have y4 : p3.heap.size ≠ p1.heap.size := by omega
      have B3 := Lib.hid (B2.out.trans (b3.mono B2.out.size))
      obtain ⟨V, hv⟩ : ∃ V, p3.alloc (.cells #[.int .i64 X.width, .slice ay ky cy] 25) = V := ⟨_, rfl⟩
      have hb4 : Below p3.heap.size p3 V := by rw [← hv]; exact (Below.refl _ _).alloc (Nat.le_refl _) _
      have HVW := Lib.hid hv
      have Q4 := Lib.hid (lies_below Q3.out hb4 (lt_heap Q3.out))
      have R4 := Lib.hid (R3.out.below hb4)
      have S4 := Lib.hid (ny.below hb4)
      have T4 := Lib.hid ((T2.out.below b3).below hb4)
      have B4 := Lib.hid (B3.out.trans (hb4.mono B3.out.size))
      clear b3 ny hv hb4
      go_wp2_with fail
      rw [show p3.alloc (.cells #[.int .i64 X.width, .slice ay ky cy] 25) = V from HVW.out]
      refine (same_w (d := X.width) (t := X) rfl _ _ V R4.out S4.out).mono ?_
      rintro e p4 ⟨rfl, b4⟩
      have Q5 := Lib.hid (lies_below Q4.out b4 (lt_heap Q4.out))
      have R5 := Lib.hid (R4.out.below b4)
      have T5 := Lib.hid (T4.out.below b4)
      have B5 := Lib.hid (B4.out.trans (b4.mono B4.out.size))
      clear b4 y0 y1 y2 y3 y4
      have y0 := (lies_cells Q5.out).1 0
      have y1 := (lies_cells Q5.out).1 1
      simp only [List.getElem?_toArray, List.getElem?_cons_zero, List.getElem?_cons_succ] at y0 y1
      go_wp2_with fail
      refine (rtext_w HTX.out _ p4 R5.out).mono ?_
      rintro e p5 ⟨rfl, b5⟩
      have T6 := T5.out.below b5
      have B6 := B5.out.trans (b5.mono B5.out.size)
      obtain ⟨p6, cap, hrun, hb6, hc6⟩ := conv_bytes ⟨tx.toArray⟩ p5
      have T7 := Lib.hid (T6.below hb6)
      have B7 := Lib.hid (B6.trans (hb6.mono B6.size))
      have BY := Lib.hid (bytes_any T7.out p5.heap.size (⟨tx.toArray⟩ : ByteArray).size cap _ (by rw [List.length_map, size_str]) (by rw [size_str]; omega) (by rw [size_str]; omega) hc6)
      clear b5 T6 B6 hb6 hc6 y0 y1
      go_wp2_with fail
      refine BY.out.mono ?_
      rintro e p7 ⟨b, m, cap2, zs, rfl, hz, hm, hc7, t7, b7⟩
      have T8 := Lib.hid t7
      have B8 := Lib.hid (B7.out.trans (b7.toBelow (Nat.le_refl _) B7.out.size))
      have hrun2 := run_convert_bytes_arg (P := Tryd.prog) p7 53 5 Tryd.underlying53 Tryd.underlying5 b 0 m cap2 zs hz (fun j hj => by rw [Nat.zero_add]; exact hc7 j hj) 9 Tryd.underlying9
      have hqs := nums_size zs
      obtain ⟨q, hq⟩ : ∃ q, strOfNums zs = q := ⟨_, rfl⟩
      rw [hq] at hrun2 hqs
      have hq6 : q.size ≤ 1000000 := by rw [hqs, hz]; rw [size_str] at hm; omega
      clear hc7 t7 b7 BY hrun hz hm hq hqs
      go_wp2_with fail
      refine (parses_in (B := w0.heap.size) q hq6 p7 (HK.out _ B8.out) B8.out.size).mono ?_
      rintro e p8 ⟨rfl, b8⟩
      have T9 := Lib.hid (T8.out.below b8)
      have B9 := Lib.hid (B8.out.trans (b8.mono B8.out.size))
      clear b8 hrun2
      go_wp2_with fail
      refine (next_any T9.out 7 (by omega)).mono ?_
      rintro e p9 ⟨r, r0, r1, rfl, t9, b9⟩
      have T10 := Lib.hid t9
      have B10 := Lib.hid (B9.out.trans (b9.toBelow (Nat.le_refl _) B9.out.size))
      have r3 : r ≤ 6 := by omega
      clear t9 b9 r1
      go_wp2
      go_loopw [10, 11] (fun x v wi => ∃ (xs : ByteArray) (r : Int), x = .string xs ∧ v = .int .i64 r ∧ 0 ≤ r ∧ (xs.size : Int) + 3 * r ≤ 18 ∧ Hid (TapeOk w0.heap.size wi w0.heap.size) ∧ Hid (Below w0.heap.size w0 wi)) (fun _ v _ => (intOf v).toNat)
      case atStart => exact ⟨_, _, rfl, rfl, r0, by rw [show (ByteArray.mk #[]).size = 0 from rfl]; omega, T10, B10⟩
      case round =>
        obtain ⟨xs, r, rfl, rfl, r0, hx, T, Bb⟩ := hrel
        by_cases hr : 0 < r
        · go_wp2_with fail
          refine (next_any (T.out.alloc _) 9 (by omega)).mono ?_
          rintro e q3 ⟨k, k0, k1, rfl, ht3, hb3⟩
          obtain ⟨kn, rfl⟩ := Int.eq_ofNat_of_zero_le k0
          obtain ⟨pc, hp1, hp2⟩ := bits_at textBits 9 3 rfl rfl kn (by omega)
          have hne : wr.heap.size ≠ w0.heap.size := by have := T.out.lt; omega
          have hc := (hb3.cell wr.heap.size kn (by simp) hne).trans ((World.cell?_alloc_new wr textBits 9 kn).trans hp1)
          have TT := Lib.hid ht3
          have BT := Lib.hid (Bb.out.trans ((((But.refl w0.heap.size wr).alloc (.cells textBits 9)).trans hb3).toBelow (Nat.le_refl _) Bb.out.size))
          have k2 : kn < 9 := by omega
          clear ht3 hb3 hp1 hne k0 k1
          go_wp2
          go_roundw
          case rel => exact ⟨_, _, rfl, rfl, by omega, by rw [append_size']; omega, TT, BT⟩
          case measure => simp [intOf]; omega
        · obtain rfl : r = 0 := by omega
          have hx6 : xs.size ≤ 1000000 := by omega
          go_wp2_with fail
          refine (parses_in (B := w0.heap.size) xs hx6 wr (HK.out _ Bb.out) Bb.out.size).mono ?_
          rintro e q4 ⟨rfl, b8⟩
          have TE := Lib.hid (T.out.below b8)
          have BE := Lib.hid (Bb.out.trans (b8.mono Bb.out.size))
          clear b8
          go_wp2
          go_roundw
          case rel => exact ⟨i + 1, by omega, by go_num, TE, BE⟩
          case measure => simp [intOf]; omega
    · obtain rfl : i = 5 := by omega
      by_cases hp : 200 < p.size
      · have g1 : decide ((200 : Int) < (p.size : Int)) = true := by simp; omega
        have g2 : decide (200 < p.size) = true := by simp; omega
        go_wp2
        go_ret
        exact ⟨rfl, HB.out⟩
      have g1 : decide ((200 : Int) < (p.size : Int)) = false := by simp; omega
      have g2 : decide (200 < p.size) = false := by simp; omega
      have hp6 : p.size ≤ 1000000 := by omega
      go_wp2_with fail
      refine (parses_in (B := w0.heap.size) p hp6 wr (HK.out _ HB.out) HB.out.size).mono ?_
      rintro e w5 ⟨rfl, b5⟩
      have B5 := Lib.hid (HB.out.trans (b5.mono HB.out.size))
      clear b5
      go_wp2_with fail
      refine (sane_any (B := w0.heap.size) w5 (HK.out _ B5.out).tabs B5.out.size).mono ?_
      rintro e w6 ⟨rfl, b6⟩
      have B6 := Lib.hid (B5.out.trans (b6.mono B5.out.size))
      clear b6
      go_wp2
      go_ret
      exact ⟨rfl, B6.out⟩
end Go.Proofs.YtmanmlankfoflaaDoor

namespace Go.Proofs.YtmanmlankfoflaaDoor
open Go.ChangeShapes Go.WideShapes Go.ChangeAt Go.WideMaps Go.WideElems Go.ChangeMaps Go.Deep Go.RowKit

theorem agg_of {c : Array Value} {l : List Value} (h : (Value.agg c).cells.toList = l) : Value.agg c = .agg l.toArray := by
  have h : c.toList = l := h
  rw [← h]
/-- The listed variables of 'BitsetTexts'. -/
def laid4 : List (String × DataW Unit) := [("unicode/utf8.acceptRanges", Rows.laid_unicode_utf8_acceptRanges), ("strconv.ErrRange", Rows.laid_strconv_ErrRange), ("strconv.ErrSyntax", Rows.laid_strconv_ErrSyntax), ("unicode/utf8.first", Rows.laid_unicode_utf8_first)]
theorem door_met7 (os : Os) (args : Array Value) : laidMetH Tryd.prog (laid3 ++ laid4) ((World.laidAll Tryd.prog os (laid3 ++ laid4)).forCall (fun _ _ => 0) ⟨#[], args, []⟩).memory := by
  rw [MakeChecks.laidMetH_plain _ _ _ (by kernel_rfl)]
  exact laidMet_laidAll _ (by kernel_rfl) (by kernel_rfl)
theorem tSyn : (Tryd.prog.globals[2]?).map (·.type) = some 75 := by kernel_rfl
theorem tRng : (Tryd.prog.globals[3]?).map (·.type) = some 75 := by kernel_rfl
theorem var_lt {w : World} {n : String} {g : Nat} {c : Array Value} (hg : Tryd.prog.globalNamed n = some g) (h : w.var? Tryd.prog n = some c) : g < w.heap.size := by
  unfold World.var? at h
  rw [hg] at h
  simp only [Option.bind_some] at h
  rcases Nat.lt_or_ge g w.heap.size with h1 | h1
  · exact h1
  · rw [Array.getElem?_eq_none h1] at h; simp at h
theorem mx_of {W : World} (h : W.ShapedOpen Tryd.prog) : ∃ m, W.cell? ⟨1, 0, none⟩ = some (.int .i64 m) := cell_of_shapedOpen_int (zero := #[.int .i64 0]) (t := 3) h (of_decide_eq_true (by kernel_rfl)) (by kernel_rfl) rfl (by kernel_rfl) (by kernel_rfl) Tryd.underlying3
theorem of_laid7 [Base] {W : World} (h : laidMetH Tryd.prog (laid3 ++ laid4) W) (hsh : W.ShapedOpen Tryd.prog) (hbs : Base.b ≤ W.heap.size) : VarsIn W.heap.size W := by
  rw [MakeChecks.laidMetH_plain _ _ _ (by kernel_rfl)] at h
  obtain ⟨ps, h, _⟩ := h
  have hT := of_laidVars (rest := laid4) h hbs
  obtain ⟨m, hm⟩ := mx_of hsh
  obtain ⟨_, _, _, _, _, _, -, -, -, -, h, -⟩ := h
  obtain ⟨_, _, _, _, _, _, -, -, -, -, h, -⟩ := h
  obtain ⟨_, _, _, _, _, _, -, -, -, -, h, -⟩ := h
  obtain ⟨_, _, _, _, _, _, -, -, -, -, h, -⟩ := h
  obtain ⟨g4, t4, cs4, f4, p4, q4, hg4, ht4, hv4, hd4, h, -⟩ := h
  obtain ⟨g5, t5, cs5, f5, p5, q5, hg5, ht5, hv5, hd5, h, -⟩ := h
  obtain rfl := Option.some.inj (gRng.symm.trans hg4)
  obtain rfl := Option.some.inj (gSyn.symm.trans hg5)
  obtain rfl := Option.some.inj (tRng.symm.trans ht4)
  obtain rfl := Option.some.inj (tSyn.symm.trans ht5)
  obtain ⟨_, u4, x4, e4, -, -⟩ := iface_of_trod Tryd.underlying75 hd4
  obtain ⟨_, u5, x5, e5, -, -⟩ := iface_of_trod Tryd.underlying75 hd5
  have k4 : W.var? Tryd.prog "strconv.ErrRange" = some #[.iface u4 x4] := by rw [hv4]; congr 1; exact Array.toList_inj.1 e4
  have k5 : W.var? Tryd.prog "strconv.ErrSyntax" = some #[.iface u5 x5] := by rw [hv5]; congr 1; exact Array.toList_inj.1 e5
  exact ⟨hT, ⟨cell_lt hm, var_lt gSyn k5, var_lt gRng k4⟩, ⟨m, hm⟩, ⟨u5, x5, k5⟩, ⟨u4, x4, k4⟩⟩
/-- The wrap that keeps the world's shape and a condition on memory. -/
theorem handed_shaped {H : Type} {enc : TypeId × Value → H} {a : Assume} {C : Checked} {os : Os} {f : FuncId} {fn : Func} {s : ChangeSpec} {conds : List PathCond} {apart fresh handsOn again : Bool} {X : World → Array Value → Prop}
    (hX : ∀ (w w' : World) (args : Array Value), w.heap = w'.heap → X w args → X w' args)
    (own : ownKnob C.prog.godebug = none) (started : os.Started) (noInit : C.prog.inits.idxOf? f = none) (hfn : C.prog.funcs[f]? = some fn)
    (witness : ∃ (w : World) (tape : Go.Tape) (i : Input), w.os = os ∧ (w.forCall tape i).Shaped C.prog ∧ i.vars = [] ∧ Input.okWide C.prog (w.forCall tape i) .any w.heap.size f i ∧
      ((s.pre enc C.prog fn conds apart (w.forCall tape i).memory i.args ∧ X (w.forCall tape i).memory i.args) ∧ sizedMet enc C.prog fn (OpenSpec.ofChange s) apart (w.forCall tape i).memory i.args) ∧ a.holds C.prog (lone (Frame.enter C.prog f i.args .normal) [] (w.forCall tape i)))
    (contract : ∀ (W : World) (base : Nat) (args : Array Value) (ds gs : List (DataW H)) (before : List MemPlace),
      (∀ (j : Nat) t v, fn.params[j]? = some t → args[j]? = some v → Value.okWide C.prog W .any base t v) →
      DataW.Whole enc C.prog fn.params.toList s.vars apart W args.toList ds gs before → X W args → W.ShapedOpen C.prog →
      Calls C.prog f args W fun e W' => ∃ v, e = .returned v ∧ s.post enc C.prog fn apart fresh handsOn again W args v W') :
    ReturnsInHanded a C os f .any (fun w args => (s.pre enc C.prog fn conds apart w args ∧ X w args) ∧ sizedMet enc C.prog fn (OpenSpec.ofChange s) apart w args) (s.post enc C.prog fn apart fresh handsOn again) := by
  refine returnsInHanded_of_calls own started noInit witness ?_
  intro w tape i _ hsh _ hok hpre _
  obtain ⟨_, _, _, fn', hfn', _, _, _, _, hval⟩ := hok
  obtain rfl : fn' = fn := Option.some.inj (hfn'.symm.trans hfn)
  obtain ⟨⟨⟨ds, gs, before, hw, _⟩, hx⟩, _⟩ := hpre
  refine (contract (w.forCall tape i) w.heap.size i.args ds gs before hval (DataW.Whole.of_heap (w' := w.forCall tape i) (by rfl) hw) (hX _ _ _ (by rfl) hx) hsh).mono fun e W' ⟨v, he, hp⟩ => ?_
  subst he
  exact ChangeSpec.post_blind hp
namespace bitsetTexts

set_option maxRecDepth 100000 in
set_option maxHeartbeats 1000000 in
theorem lifted (os : Os) (started : os.Started) (H : Type) (enc : TypeId × Value → H) :
    ReturnsInHanded {} Tryd.checked os 8 .any (fun w args => (Rows.bitsetTextsSpec.pre enc Tryd.prog Tryd.f8 [] false w args ∧ laidMetH Tryd.prog (laid3 ++ laid4) w) ∧ sizedMet enc Tryd.prog Tryd.f8 (OpenSpec.ofChange Rows.bitsetTextsSpec) false w args)
      (Rows.bitsetTextsSpec.post enc Tryd.prog Tryd.f8 false true false false) := by
  refine handed_shaped (C := Tryd.checked) (X := fun w _ => laidMetH Tryd.prog (laid3 ++ laid4) w) (fun _ _ _ hh h => h.of_heap hh) own started (by kernel_rfl) Tryd.func8
    (ChangeSpec.witness_shaped (enc := enc) (C := Tryd.checked) (os := os) (X := fun w _ => laidMetH Tryd.prog (laid3 ++ laid4) w) false (World.laidAll Tryd.prog os (laid3 ++ laid4)) #[.slice none 0 0, .string ⟨#[]⟩] 8 (World.laidAll_os _ _ _) (World.shaped_of_ZipB (by kernel_rfl) (by kernel_rfl)) (by kernel_rfl) (by kernel_rfl) (by kernel_rfl) (door_met7 os _)) ?_
  intro W base args ds gs before hval0 hW hL hsh
  have hval : ∀ (j : Nat) t v, Tryd.f8.params[j]? = some t → args[j]? = some v → Value.okWide Tryd.prog W .any base t v := hval0
  have hW' := hW
  have hlt := hW.lt
  obtain ⟨p, q, hA0, hV, rfl, hfz, hnd⟩ := hW
  have hA : DataW.TrodAll enc Tryd.prog W 0 (fun _ => true) true Tryd.f8.params.toList args.toList ds p := hA0
  rw [Tryd.params8] at hA hval
  obtain ⟨v0, v1, d0, d1, p0, p1, rfl, rfl, rfl, h0, h1⟩ := trodAll_two hA
  obtain ⟨rfl, rfl⟩ := trodVars_none hV
  letI : Base := ⟨W.heap.size⟩
  have hB : W.heap.size ≤ Base.b := Nat.le_refl _
  have K := of_laid7 hL hsh (Nat.le_refl _)
  obtain ⟨a0, len0, cap0, rfl⟩ := okWide_slice Tryd.underlying22 (hval 0 22 v0 rfl rfl)
  obtain ⟨s1, rfl, rfl, rfl, hs1⟩ := open_string Tryd.underlying9 (hval 1 9 v1 rfl rfl) h1
  have keep : ∀ W' : World, Below W.heap.size W W' → Rows.bitsetTextsSpec.post enc Tryd.prog Tryd.f8 false true false false W #[.slice a0 len0 cap0, .string s1] (.bool true) W' := by
    intro W' bel
    have h0' := Below.trod (P := Tryd.prog) (by kernel_rfl) (by kernel_rfl) (by decide +kernel) h0 bel (fun x hx => hlt x (by simp [hx]))
    have h1' := Below.trod (P := Tryd.prog) (by kernel_rfl) (by kernel_rfl) (by decide +kernel) h1 bel (fun x hx => by cases hx)
    exact ⟨_, _, _, [], _, [], hW', trodAll_mk1 (shut_bool Tryd.underlying4 _), trodAll_mk2 h0' h1', rfl, bel.frame _, fun h => by cases h⟩
  have call : ∀ (ta : Option Addr) (tn tc : Nat), tn ≤ maxLen → (∀ j : Nat, j < tn → ∃ b off z, ta = some ⟨b, off, none⟩ ∧ b < W.heap.size ∧ W.cell? ⟨b, off + j, none⟩ = some (.int .i64 z)) →
      Calls Tryd.prog 8 #[.slice ta tn tc, .string s1] W (BoolQ true W) := by
    intro ta tn tc h1 h2
    exact textLaw_any W ta tn tc h1 h2 K (Nat.le_refl _) s1
  obtain ⟨fuel, hf⟩ := h0
  rcases open_ints Tryd.underlying22 Tryd.underlying3 cInt hf with ⟨hcs, _⟩ | ⟨a, len, cap, zs, hcs, _, hl1, hl2, hz, _, hcell, _⟩
  · have hcs' : [Value.slice a0 len0 cap0] = _ := hcs
    injection hcs' with hcs' _
    injection hcs' with e1 e2 e3
    subst e1 e2 e3
    refine (call none 0 0 (Nat.zero_le _) (fun j hj => by omega)).mono fun e W' ⟨he, bel⟩ => ?_
    subst he
    exact ⟨_, rfl, keep W' bel⟩
  · have hcs' : [Value.slice a0 len0 cap0] = _ := hcs
    injection hcs' with hcs' _
    injection hcs' with e1 e2 e3
    subst e1 e2 e3
    refine (call (some a) len0 cap0 (by omega) (fun j hj => ?_)).mono fun e W' ⟨he, bel⟩ => ?_
    · have hlz : len0 ≤ zs.length := by rw [hz]; split <;> omega
      obtain ⟨b, off, rfl, hc⟩ := ints_at hcell (by omega)
      exact ⟨b, off, _, rfl, cell_lt (hc j (by omega)), hc j (by omega)⟩
    · subst he
      exact ⟨_, rfl, keep W' bel⟩

theorem over : Rows.BitsetTextsSaid :=
  OpenClaim.holds_of_wide 8 Tryd.f8 rfl rfl rfl rfl rfl rfl rfl ⟨rfl, rfl, rfl, rfl, rfl⟩ rfl rfl rfl rfl rfl (by kernel_rfl) Tryd.func8 (by kernel_rfl)
    (of_decide_eq_true (by kernel_rfl)) (by unfold Func.isWrapper; first | (rw [if_pos (by decide +kernel)]; kernel_rfl) | (rw [if_neg (by decide +kernel)]; exact ⟨rfl, rfl⟩))
    (fun os started H enc _ => lifted os started H enc)
end bitsetTexts
/-- THE STATEMENT: the tied card. -/
theorem bitsetTexts_card_holds : Rows.BitsetTextsCardSaid :=
  Claim7.holds_tied_plain_at .later [] [.data, .data, .data, .data, .sentinel, .sentinel, .pinned] true Rows.bitsetTextsCard.stood.harness true
    bitsetTexts.over (fun _ h => by cases h) (by kernel_rfl) (fun _ h => by cases h) bitsetTexts_row_tie rfl ⟨rfl, rfl⟩ (by kernel_rfl) rfl
    (fun f fn hf hfn => by
      obtain rfl : f = 8 := Option.some.inj ((show Tryd.prog.funcNamed "flowquery/flqlaw2.BitsetTexts" = some 8 by kernel_rfl).symm.trans hf) |>.symm
      obtain rfl : fn = Tryd.f8 := (Option.some.inj (Tryd.func8.symm.trans hfn)).symm
      exact ⟨by kernel_rfl, fun j t ht => by
        rw [Tryd.params8] at ht
        rcases j with _ | _ | j
        · obtain rfl : t = 22 := by simpa using ht.symm
          exact (show Tryd.prog.wantsStandIn 22 = false by kernel_rfl)
        · obtain rfl : t = 9 := by simpa using ht.symm
          exact (show Tryd.prog.wantsStandIn 9 = false by kernel_rfl)
        · simp at ht⟩)
    (by kernel_rfl)
#print axioms bitsetTexts_card_holds
end Go.Proofs.YtmanmlankfoflaaDoor

