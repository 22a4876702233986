/- Walks: the library and the small functions of package script. -/
import Derived.Test.YtgmlnbheceeklaaDoorKw
import Derived.Test.YtgmlnbheceeklaaDoorBlk
import Derived.Test.YtgmlnbheceeklaaDoorScP2
import Derived.Test.YtgmlnbheceeklaaDoorShS
import Derived.BigQuiet
import Derived.Lib.Split
import Derived.Lib.ItoaNum
import Derived.Lib.AtoiAll
import Derived.IntWalk
set_option linter.unusedVariables false
set_option linter.unusedSimpArgs false
set_option linter.unusedSectionVars false
namespace Go.Proofs.YtgmlnbheceeklaaDoor
open Go.RowKit
variable [Base]

abbrev qs (s : Str) : Value := .string ⟨s.toArray⟩
theorem gSyn : Tryd.prog.globalNamed "strconv.ErrSyntax" = some 3 := by kernel_rfl
theorem gRng : Tryd.prog.globalNamed "strconv.ErrRange" = some 4 := by kernel_rfl
theorem gP10 : Tryd.prog.globalNamed "internal/strconv.uint64pow10" = some 6 := by kernel_rfl
/-- A variable that holds a row of strings, below B. -/
def RowIn (g : Nat) (ls : List Str) (B : Nat) (w : World) : Prop := g < B ∧ ∃ b off c, b < B ∧ w.cell? ⟨g, 0, none⟩ = some (.slice (some ⟨b, off, none⟩) ls.length c) ∧ RowAt w (some ⟨b, off, none⟩) ls
theorem RowIn.keep {g : Nat} {ls : List Str} {B : Nat} {w w' : World} (h : RowIn g ls B w) (hB : ∀ k, k < B → w'.heap[k]? = w.heap[k]?) : RowIn g ls B w' := by
  obtain ⟨h0, b, off, c, h1, h2, h3⟩ := h
  refine ⟨h0, b, off, c, h1, (World.cell?_of_block (hB g h0)).trans h2, fun k s hk => ?_⟩
  obtain ⟨b', off', e, hc⟩ := h3 k s hk
  injection e with e
  injection e with e1 e2
  subst e1 e2
  exact ⟨b, off, rfl, (World.cell?_of_block (hB b h1)).trans hc⟩
/-- The variables, below B. -/
structure VarsIn (B : Nat) (w : World) : Prop where
  kw : KwIn B w
  num : 5 < B ∧ 3 < B ∧ 4 < B ∧ 6 < B
  mx : ∃ m, w.cell? ⟨5, 0, none⟩ = some (.int .i64 m)
  syn : ∃ tp p, w.var? Tryd.prog "strconv.ErrSyntax" = some #[.iface tp p]
  rng : ∃ tp p, w.var? Tryd.prog "strconv.ErrRange" = some #[.iface tp p]
  p10 : Lib.TabIs Tryd.prog w "internal/strconv.uint64pow10" .u64 Lib.pow10Tab
  verbs : RowIn 0 verbsL B w
  anas : RowIn 1 anasL B w
theorem VarsIn.keep {B : Nat} {w w' : World} (h : VarsIn B w) (hB : ∀ k, k < B → w'.heap[k]? = w.heap[k]?) : VarsIn B w' := by
  obtain ⟨n1, n2, n3, n4⟩ := h.num
  refine ⟨h.kw.keep hB, h.num, ?_, ?_, ?_, ?_, h.verbs.keep hB, h.anas.keep hB⟩
  · obtain ⟨m, hm⟩ := h.mx
    exact ⟨m, (World.cell?_of_block (hB _ n1)).trans hm⟩
  · obtain ⟨tp, p, hp⟩ := h.syn
    refine ⟨tp, p, ?_⟩
    unfold World.var? at hp ⊢
    rw [gSyn] at hp ⊢
    simp only [Option.bind_some] at hp ⊢
    rw [hB _ n2]
    exact hp
  · obtain ⟨tp, p, hp⟩ := h.rng
    refine ⟨tp, p, ?_⟩
    unfold World.var? at hp ⊢
    rw [gRng] at hp ⊢
    simp only [Option.bind_some] at hp ⊢
    rw [hB _ n3]
    exact hp
  · have k := h.p10
    unfold Lib.TabIs World.var? at k ⊢
    rw [gP10] at k ⊢
    simp only [Option.bind_some] at k ⊢
    rw [hB _ n4]
    exact k
theorem VarsIn.below {B : Nat} {w w' : World} (h : VarsIn B w) (hb : Below B w w') : VarsIn B w' := h.keep fun k hk => hb.block k hk
theorem size_str (l : Str) : (⟨l.toArray⟩ : ByteArray).size = l.length := by simp [ByteArray.size]
def StrQ (x : Str) (w : World) (e : Ending) (w' : World) : Prop := e = .returned (qs x) ∧ Below w.heap.size w w'
theorem below_regrow (w : World) (k : Nat) (os : Array Obj) : Below w.heap.size w (Sort.grow (w.drewN k) os) := by
  refine ⟨rfl, rfl, rfl, ?_, fun j hj => ?_⟩
  · show w.heap.size ≤ (w.heap ++ os).size
    simp
  · show (w.heap ++ os)[j]? = w.heap[j]?
    exact Array.getElem?_append_left hj
theorem decF_digits : ∀ (f n : Nat), n < 10 ^ f → 0 < f → decF f n = Lib.decDigits n
  | 0, n, _, h => by omega
  | f + 1, n, h, _ => by
    rw [Lib.decDigits, decF]
    by_cases h10 : n < 10
    · rw [dif_pos h10, if_pos (by omega)]
      unfold dig10
      rw [Nat.mod_eq_of_lt h10]
      rfl
    · rw [dif_neg h10, if_neg (by omega), decF_digits f (n / 10) (by rw [Nat.pow_succ] at h; omega) (by
        rcases f with _ | f
        · simp at h; omega
        · omega)]
      rfl
theorem itoa_any {B : Nat} (n : Nat) (hn : n < 1000000000000000000) (w : World) (hV : VarsIn B w) : Calls Tryd.prog 20 #[.int .i64 n] w (StrQ (dec10 n) w) := by
  refine (Tryd.strconv_Itoa (n : Int) (by omega) (by omega) w hV.p10).mono ?_
  rintro e w' ⟨rfl, k, os, rfl⟩
  refine ⟨?_, below_regrow w k os⟩
  rw [show dec10 n = Lib.decDigits n from decF_digits 20 n (by omega) (by omega)]
  unfold Lib.itoa
  rw [if_neg (by omega), Int.toNat_natCast]
def AtoiQ (r : Str) (w : World) (e : Ending) (w' : World) : Prop := ∃ ev, e = .returned (.tuple #[.int .i64 (atoiVal r), ev]) ∧ Below w.heap.size w w'
theorem atoi_any {B : Nat} (r : Str) (hl : r.length ≤ 281474976710656) (w : World) (hV : VarsIn B w) : Calls Tryd.prog 23 #[qs r] w (AtoiQ r w) := by
  rcases h : Lib.atoiAll r with v | _ | _
  · refine (Tryd.strconv_Atoi_ok ⟨r.toArray⟩ (by rw [size_str]; omega) v h w).mono ?_
    rintro e w' ⟨rfl, hw⟩
    have e0 : atoiVal r = v := by unfold atoiVal; rw [h]
    unfold AtoiQ
    rw [e0]
    refine ⟨.nilIface, rfl, ?_⟩
    rcases hw with rfl | ⟨t, rfl⟩
    · exact Below.refl _ _
    · exact ⟨rfl, rfl, rfl, by rw [Lib.bytesWorld_size]; omega, fun k hk => Lib.bytesWorld_at_old _ _ _ k hk⟩
  · obtain ⟨tp, p, hp⟩ := hV.syn
    refine (Tryd.strconv_Atoi_syntax_var ⟨r.toArray⟩ (by rw [size_str]; omega) h tp p w hp).mono ?_
    rintro e w' ⟨N, rfl, -, -, hb⟩
    have e0 : atoiVal r = 0 := by unfold atoiVal; rw [h]
    unfold AtoiQ
    rw [e0]
    exact ⟨_, rfl, hb⟩
  · obtain ⟨tp, p, hp⟩ := hV.rng
    refine (Tryd.strconv_Atoi_range_var ⟨r.toArray⟩ (by rw [size_str]; omega) h tp p w hp).mono ?_
    rintro e w' ⟨N, rfl, -, -, hb⟩
    have e0 : atoiVal r = Lib.atoiSat r := by unfold atoiVal; rw [h]
    unfold AtoiQ
    rw [e0]
    exact ⟨_, rfl, hb⟩
/-- Words, with spaces between. -/
theorem join_any (ls : List Str) (b off c : Nat) (w : World) (hc : ∀ k s, ls[k]? = some s → w.cell? ⟨b, off + k, none⟩ = some (qs s)) (hb : b < w.heap.size) (h0 : ls.length ≤ 1000000) (hcap : ls.length ≤ c) (hl : (Lib.join ls [32]).length ≤ 1000000000) :
    Calls Tryd.prog 19 #[.slice (some ⟨b, off, none⟩) ls.length c, .string ⟨#[32]⟩] w (StrQ (Lib.join ls [32]) w) := by
  have k := Tryd.strings_Join b off c (ls.map fun s => (⟨s.toArray⟩ : ByteArray)) ⟨#[32]⟩ w ?_ hb (by rw [List.length_map]; omega) (by rw [List.length_map]; exact hcap) ?_
  · rw [List.length_map] at k
    refine k.mono ?_
    rintro e w' ⟨rfl, hb⟩
    refine ⟨?_, hb⟩
    congr 3
    simp [List.map_map, Function.comp_def]
  · intro j y hy
    rw [List.getElem?_map] at hy
    obtain ⟨s, hs, rfl⟩ := Option.map_eq_some_iff.1 hy
    exact hc j s hs
  · simp only [List.map_map, Function.comp_def, List.map_id']
    omega
theorem between_any (n a b : Int) (w : World) : Calls Tryd.prog 29 #[.int .i64 n, .int .i64 a, .int .i64 b] w (fun e w' => e = .returned (.bool (rangeB n a b)) ∧ w' = w) := by
  unfold rangeB
  by_cases h1 : a ≤ n
  · have d1 : decide (a ≤ n) = true := by simpa using h1
    rw [d1]
    go_enter Tryd.func29, Tryd.ntmps29
    go_wp2
    go_ret
    exact ⟨rfl, rfl⟩
  · have d1 : decide (a ≤ n) = false := by simpa using h1
    rw [d1]
    go_enter Tryd.func29, Tryd.ntmps29
    go_wp2
    go_ret
    exact ⟨rfl, rfl⟩
/-! The first word of a line. -/
theorem word_none : ∀ (l : Str), Lib.indexByte l 32 = -1 → wordS l = (l, [])
  | [], _ => rfl
  | c :: r, h => by
    unfold Lib.indexByte at h
    split at h
    · cases h
    · rename_i hc
      have hc' : c ≠ 32 := by simpa using hc
      split at h
      · rename_i h2
        rw [wordS, if_neg hc', word_none r (by simpa using h2)]
      · rename_i h2
        have h3 : Lib.indexByte r 32 ≠ -1 := by simpa using h2
        have := Lib.indexByte_ge r 32
        omega
theorem word_some : ∀ (l : Str) (i : Nat), Lib.indexByte l 32 = (i : Int) → wordS l = (l.take i, l.drop (i + 1)) ∧ i < l.length
  | [], i, h => by simp [Lib.indexByte] at h
  | c :: r, i, h => by
    unfold Lib.indexByte at h
    split at h
    · rename_i hc
      have hc' : c = 32 := by simpa using hc
      have hi : i = 0 := by omega
      subst hi hc'
      simp [wordS]
    · rename_i hc
      have hc' : c ≠ 32 := by simpa using hc
      split at h
      · omega
      · rename_i h2
        have h3 : Lib.indexByte r 32 ≠ -1 := by simpa using h2
        have := Lib.indexByte_ge r 32
        obtain ⟨j, hj⟩ := Int.eq_ofNat_of_zero_le (show 0 ≤ Lib.indexByte r 32 by omega)
        obtain ⟨h4, h5⟩ := word_some r j hj
        have hi : i = j + 1 := by omega
        subst hi
        rw [wordS, if_neg hc', h4]
        simp; omega
theorem str_take (s : ByteArray) (i : Nat) : Value.string (s.extract 0 i) = qs (s.data.toList.take i) := by
  show Value.string _ = Value.string _
  congr 1
  apply ByteArray.ext
  apply Array.ext'
  rw [Lib.extract_from_zero]
theorem str_drop (s : ByteArray) (i : Nat) : Value.string (s.extract i s.size) = qs (s.data.toList.drop i) := by
  show Value.string _ = Value.string _
  congr 1
  apply ByteArray.ext
  apply Array.ext'
  rw [Lib.extract_data]
  show _ = s.data.toList.drop i
  rw [List.take_of_length_le (by simp)]
def CutQ (l : Str) (w : World) (e : Ending) (w' : World) : Prop := e = .returned (.tuple #[qs (wordS l).1, qs (wordS l).2]) ∧ ∃ n, w' = w.drewN n
theorem cut_any (s : ByteArray) (hs : s.size ≤ 281474976710656) (w : World) : Calls Tryd.prog 21 #[.string s] w (CutQ s.data.toList w) := by
  have hge := Lib.indexByte_ge s.data.toList 32
  obtain ⟨x, hx⟩ : ∃ x, Lib.indexByte s.data.toList 32 = x := ⟨_, rfl⟩
  have HX := Lib.hid hx
  have IB := Lib.hid (Tryd.strings_IndexByte s 32)
  rw [show ((32 : Int).toNat.toUInt8 : UInt8) = 32 from rfl, hx] at IB
  rw [hx] at hge
  rcases Int.lt_or_le x 0 with h | h
  · have hx1 : x = -1 := by omega
    have HW := Lib.hid (word_none _ (hx.trans hx1))
    subst hx1
    clear hx h hge
    go_enter Tryd.func21, Tryd.ntmps21
    go_wp2_with (go_at_call 41; refine (IB.out _).mono ?_; rintro e w' ⟨rfl, rfl⟩)
    exact bodyPost_ret (v := .tuple #[.string s, .string ⟨#[]⟩]) (by simp [results, Tryd.results21, go_sem]) rfl ⟨by rw [HW.out], 0, rfl⟩
  · obtain ⟨i, rfl⟩ := Int.eq_ofNat_of_zero_le h
    obtain ⟨hw, hi⟩ := word_some _ i hx
    have hi : i < s.size := by simpa using hi
    have HW := Lib.hid hw
    have hwi : IntKind.i64.wrap ((i : Int) + 1) = (i : Int) + 1 := IntWalk.i64_in _ (by omega)
    have hi1 : (i : Int) ≤ (s.size : Int) := by omega
    have hi2 : (i : Int) + 1 ≤ (s.size : Int) := by omega
    have hi3 : ((i : Int) + 1).toNat = i + 1 := by omega
    have hi4 : (0 : Int) ≤ (i : Int) + 1 := by omega
    clear hx h hge hw
    go_enter Tryd.func21, Tryd.ntmps21
    go_wp2_with (go_at_call 41; refine (IB.out _).mono ?_; rintro e w' ⟨rfl, rfl⟩)
    go_quiet (fail)
    go_wp2
    refine bodyPost_ret (v := .tuple #[.string (s.extract 0 i), .string (s.extract (i + 1) s.size)]) (by simp [results, Tryd.results21, go_sem]) rfl ⟨?_, _, rfl⟩
    rw [HW.out, str_take, str_drop]
/-- Where a word stands in a row. -/
theorem posS_step {ls : List Str} {k : Nat} {x s : Str} (h : ls[k]? = some x) (i : Nat) : posS i (ls.drop k) s = if x = s then some i else posS (i + 1) (ls.drop (k + 1)) s := by
  obtain ⟨h1, rfl⟩ := List.getElem?_eq_some_iff.1 h
  rw [List.drop_eq_getElem_cons h1]
  rfl
theorem pos_beq {x s : Str} (b : Bool) (h : (x == s) = b) : decide (x = s) = b := by rw [← h]; exact (Bool.eq_iff_iff.2 (by simp))
theorem sindex_any (ls : List Str) (l : Str) (n c : Nat) (a : Option Addr) (w : World) (hx : Hid (ls.length = n)) (hn : n ≤ 1000000) (F : Hid (RowAt w a ls)) :
    Calls Tryd.prog 22 #[.slice a n c, qs l] w (fun e w' => e = .returned (.int .i64 ((((posS 0 ls l).getD 0 : Nat) : Int))) ∧ w' = w) := by
  go_enter Tryd.func22, Tryd.ntmps22
  go_wp2
  go_loop [9] (fun v => ∃ k : Nat, k ≤ n ∧ v = .int .i64 k ∧ Hid (posS 0 ls l = posS k (ls.drop k) l)) (fun v => n - (intOf v).toNat)
  case atStart => exact ⟨0, Nat.zero_le _, rfl, rfl⟩
  case round =>
    obtain ⟨k, hk, rfl, hs⟩ := hrel
    by_cases hlt : k < n
    · obtain ⟨t, ht⟩ : ∃ t, ls[k]? = some t := ⟨ls[k]'(by have := hx.out; omega), by simp⟩
      obtain ⟨b, off, rfl, g⟩ := F.out k t ht
      have st := Lib.hid (posS_step (s := l) ht k)
      clear ht
      cases e : t == l
      · have hne : Hid (¬ t = l) := by unfold Hid; intro h; rw [h] at e; simp at e
        go_wp2
        go_round
        case rel => exact ⟨k + 1, by omega, by go_num, by unfold Hid; rw [hs.out, st.out, if_neg hne.out]⟩
        case measure => simp [intOf]; omega
      · have heq : Hid (t = l) := by unfold Hid; simpa using e
        have HR := Lib.hid (show posS 0 ls l = some k by rw [hs.out, st.out, if_pos heq.out])
        go_wp2
        go_ret
        exact ⟨by rw [HR.out]; rfl, rfl⟩
    · have HR := Lib.hid (show posS 0 ls l = none by rw [hs.out, List.drop_of_length_le (by have := hx.out; omega)]; rfl)
      go_wp2
      go_ret
      exact ⟨by rw [HR.out]; rfl, rfl⟩
/-! Texts of programs in lines. -/
theorem idx_mem : ∀ (l : Str) (c : UInt8), c ∉ l ↔ Lib.indexByte l c < 0
  | [], c => by simp [Lib.indexByte]
  | b :: l, c => by
    have ih := idx_mem l c
    have hg := Lib.indexByte_ge l c
    unfold Lib.indexByte
    by_cases hb : b = c
    · subst hb; simp
    · have hb' : (b == c) = false := by simpa using hb
      rw [hb', if_neg (by simp)]
      by_cases h2 : Lib.indexByte l c = -1
      · rw [h2]
        simp only [beq_self_eq_true, if_true]
        constructor
        · intro _; decide
        · intro _
          rw [List.mem_cons]
          rintro (h | h)
          · exact hb h.symm
          · exact absurd h (ih.2 (by omega))
      · have h3 : (Lib.indexByte l c == -1) = false := by simpa using h2
        rw [h3, if_neg (by simp)]
        constructor
        · intro h
          exfalso
          have := ih.1 (fun k => h (List.mem_cons_of_mem _ k))
          omega
        · intro h; omega
theorem text_nil : textB [] = false := by decide
theorem text_at {s : ByteArray} (h0 : 0 < s.size) (d1 : Bool) (h1 : decide (s.size ≤ 4096) = d1) (d2 : Bool) (h2 : ((s[0].toNat : Int) != 32) = d2) (d3 : Bool) (h3 : ((s[s.size - 1].toNat : Int) != 32) = d3) (d4 : Bool) (h4 : decide (Lib.indexByte s.data.toList 10 < 0) = d4) : textB s.data.toList = (d1 && d2 && d3 && d4) := by
  have hl : s.data.toList.length = s.size := by simp
  have e1 : decide (s.data.toList ≠ []) = true := by
    simp only [decide_eq_true_eq]
    intro e
    rw [e] at hl; simp at hl; omega
  have e2 : decide (s.data.toList.head? ≠ some 32) = d2 := by
    rw [← h2, List.head?_eq_getElem?, List.getElem?_eq_getElem (by omega)]
    rw [Bool.eq_iff_iff]
    simp only [decide_eq_true_eq, bne_iff_ne, ne_eq, Option.some.injEq]
    constructor
    · intro h h'
      exact h (UInt8.toNat_inj.1 (by have : s[0].toNat = 32 := by omega
                                     exact this))
    · intro h h'
      exact h (by rw [show s[0] = (32 : UInt8) from h']; rfl)
  have e3 : decide (s.data.toList.getLast? ≠ some 32) = d3 := by
    rw [← h3, List.getLast?_eq_getElem?, List.getElem?_eq_getElem (by omega)]
    rw [Bool.eq_iff_iff]
    simp only [decide_eq_true_eq, bne_iff_ne, ne_eq, Option.some.injEq]
    have hx : s.data.toList[s.data.toList.length - 1]'(by omega) = s[s.size - 1] := by simp; rfl
    constructor
    · intro h h'
      refine h ?_
      rw [hx]
      exact UInt8.toNat_inj.1 (by have : s[s.size - 1].toNat = 32 := by omega
                                  exact this)
    · intro h h'
      rw [hx] at h'
      exact h (by rw [h']; rfl)
  have e4 : decide ((10 : UInt8) ∉ s.data.toList) = d4 := by
    rw [← h4, Bool.eq_iff_iff]
    simp only [decide_eq_true_eq]
    exact idx_mem _ _
  unfold textB
  rw [e1, hl, h1, e2, e3, e4]
  simp
end Go.Proofs.YtgmlnbheceeklaaDoor
