/- A part of the proof. -/
import Derived.Test.YtipnhmdibkkifaaGreatDoorNu06
import Derived.Test.YtipnhmdibkkifaaGreatDoorNu00
import Derived.Test.YtipnhmdibkkifaaGreatDoorNu02
import Derived.Deep.RegionHeld3
import Derived.Deep.Quiet
set_option linter.unusedVariables false
set_option linter.unusedSimpArgs false
set_option linter.unusedVariables false
set_option linter.unusedSimpArgs false
set_option linter.unusedSectionVars false
namespace Go.Proofs.YtipnhmdibkkifaaGreatDoor
open Go.RowKit
variable [Base]
theorem contains_any (ls : List (List UInt8)) (l : List UInt8) (n c : Nat) (a : Option Addr) (w : World) (hx : Hid (ls.length = n)) (hn : n ≤ 9223372036854775807) (F : Hid (RowAt w a ls)) :
    Calls Tryz.prog 19 #[.slice a n c, .string ⟨l.toArray⟩] w fun e w' => e = .returned (.bool (hasB ls l)) ∧ ∃ k, w' = w.drewN k := by
  go_enter Tryz.func19, Tryz.ntmps19
  go_wp2_with (go_at_call 31; refine (index_any ls l n c a _ hx hn F).mono ?_; rintro e w' ⟨r, rfl, hr, k, rfl⟩)
  go_ret
  exact ⟨ret_bool hr.out, _, rfl⟩
def KwAt (w : World) : Prop := ∃ a c, w.cell? ⟨0, 0, none⟩ = some (.slice a 11 c) ∧ RowAt w a kws
theorem isname_nil (w : World) :
    Calls Tryz.prog 13 #[.string ⟨#[]⟩] w fun e w' => e = .returned (.bool (nameB [])) ∧ ∃ k, w' = w.drewN k := by
  go_enter Tryz.func13, Tryz.ntmps13
  go_wp2
  go_ret
  exact ⟨ret_bool rfl, 0, rfl⟩
theorem isname_long (c : UInt8) (r : List UInt8) (w : World) (h0 : 16 < (c :: r).length) :
    Calls Tryz.prog 13 #[.string ⟨(c :: r).toArray⟩] w fun e w' => e = .returned (.bool (nameB (c :: r))) ∧ ∃ k, w' = w.drewN k := by
  rw [name_long h0]
  have h : decide ((16 : Int) < (r.length : Int) + 1) = true := by simp at h0 ⊢; omega
  clear h0
  go_enter Tryz.func13, Tryz.ntmps13
  go_wp2
  go_ret
  exact ⟨rfl, 0, rfl⟩
theorem isname_first (c : UInt8) (r : List UInt8) (w : World) (h0 : (c :: r).length ≤ 16) (h1 : isLet (c.toNat : Int) = false) :
    Calls Tryz.prog 13 #[.string ⟨(c :: r).toArray⟩] w fun e w' => e = .returned (.bool (nameB (c :: r))) ∧ ∃ k, w' = w.drewN k := by
  rw [name_first (show firstB (c :: r) = false from h1)]
  have h : decide ((16 : Int) < (r.length : Int) + 1) = false := by simp at h0 ⊢; omega
  clear h0
  have h2 : isLet (((⟨(c :: r).toArray⟩ : ByteArray)[0]'(by rw [size_of]; simp)).toNat : Int) = false := h1
  clear h1
  go_enter Tryz.func13, Tryz.ntmps13
  go_wp2_with (go_at_call 18; refine (letter_any _ _).mono ?_; rintro e w' ⟨rfl, rfl⟩)
  go_ret
  exact ⟨rfl, 0, rfl⟩
theorem isname_in (c : UInt8) (r : List UInt8) (w : World) (h0 : (c :: r).length ≤ 16) (h1 : isLet (c.toNat : Int) = true) (KW : KwAt w) :
    Calls Tryz.prog 13 #[.string ⟨(c :: r).toArray⟩] w fun e w' => e = .returned (.bool (nameB (c :: r))) ∧ ∃ k, w' = w.drewN k := by
  obtain ⟨a, cp, hk, hF⟩ := KW
  have F := Lib.hid hF
  clear hF
  have hl : (⟨(c :: r).toArray⟩ : ByteArray).size = r.length + 1 := by rw [size_of]; simp
  have WE := Lib.hid (fun w => wordEnd_any ⟨(c :: r).toArray⟩ 0 w (by rw [hl]; unfold maxLen; simp at h0; omega) (Nat.zero_le _))
  clear hl
  have h : decide ((16 : Int) < (r.length : Int) + 1) = false := by simp at h0 ⊢; omega
  have h2 : isLet (((⟨(c :: r).toArray⟩ : ByteArray)[0]'(by rw [size_of]; simp)).toNat : Int) = true := h1
  have H0 := Lib.hid h0
  have H1 := Lib.hid h1
  clear h0 h1
  cases e : hasB kws (c :: r)
  · have EE := Lib.hid e
    go_enter Tryz.func13, Tryz.ntmps13
    go_wp2_with (first
      | (go_at_call 18; refine (letter_any _ _).mono ?_; rintro e w' ⟨rfl, rfl⟩)
      | (go_at_call 19; refine (contains_any kws (c :: r) 11 cp a _ rfl (by omega) F).mono ?_; rintro e w' ⟨rfl, k, rfl⟩)
      | (go_at_call 20; refine (WE.out _).mono ?_; rintro e w' ⟨rfl, rfl⟩))
    go_ret
    refine ⟨ret_bool ?_, _, rfl⟩
    rw [name_rest H0.out H1.out EE.out]
    have ht := take_all partB (c :: r)
    have hw : wlen ⟨(c :: r).toArray⟩ 0 = ((c :: r).takeWhile partB).length := rfl
    rw [← hw] at ht
    rw [Bool.eq_iff_iff, ← ht]
    have hs : ((0 + wlen ⟨(c :: r).toArray⟩ 0 : Nat) : Int) = (wlen ⟨(c :: r).toArray⟩ 0 : Int) := by simp
    simp
    omega
  · rw [name_kw e]
    go_enter Tryz.func13, Tryz.ntmps13
    go_wp2_with (first
      | (go_at_call 18; refine (letter_any _ _).mono ?_; rintro e w' ⟨rfl, rfl⟩)
      | (go_at_call 19; refine (contains_any kws (c :: r) 11 cp a _ rfl (by omega) F).mono ?_; rintro e w' ⟨rfl, k, rfl⟩))
    go_ret
    exact ⟨rfl, _, rfl⟩
theorem isname_any (s : ByteArray) (w : World) (KW : KwAt w) :
    Calls Tryz.prog 13 #[.string s] w fun e w' => e = .returned (.bool (nameB s.data.toList)) ∧ ∃ k, w' = w.drewN k := by
  obtain ⟨⟨l⟩⟩ := s
  match l with
  | [] => exact isname_nil w
  | c :: r =>
    show Calls Tryz.prog 13 #[.string ⟨(c :: r).toArray⟩] w fun e w' => e = .returned (.bool (nameB (c :: r))) ∧ ∃ k, w' = w.drewN k
    by_cases h0 : 16 < (c :: r).length
    · exact isname_long c r w h0
    cases h1 : isLet (c.toNat : Int)
    · exact isname_first c r w (by omega) h1
    · exact isname_in c r w (by omega) h1 KW
end Go.Proofs.YtipnhmdibkkifaaGreatDoor
set_option linter.unusedVariables false
set_option linter.unusedSimpArgs false
set_option linter.unusedSectionVars false
namespace Go.Proofs.YtipnhmdibkkifaaGreatDoor
open Go.RowKit
variable [Base]
def KwIn (B : Nat) (w : World) : Prop := (0 < B ∧ Base.b ≤ B) ∧ ∃ b off c, b < B ∧ w.cell? ⟨0, 0, none⟩ = some (.slice (some ⟨b, off, none⟩) 11 c) ∧ RowAt w (some ⟨b, off, none⟩) kws
theorem KwIn.at_ {B : Nat} {w w' : World} (h : KwIn B w) (hb : Below B w w') : KwAt w' := by
  obtain ⟨h0, b, off, c, h1, h2, h3⟩ := h
  refine ⟨some ⟨b, off, none⟩, c, (hb.cell (p := ⟨0, 0, none⟩) (by show 0 < B; omega)).trans h2, fun k s hk => ?_⟩
  obtain ⟨b', off', e, hc⟩ := h3 k s hk
  injection e with e
  injection e with e1 e2
  subst e1 e2
  exact ⟨b, off, rfl, (hb.cell (p := ⟨b, off + k, none⟩) h1).trans hc⟩
theorem KwIn.keep {B : Nat} {w w' : World} (h : KwIn B w) (hB : ∀ k, k < B → w'.heap[k]? = w.heap[k]?) : KwIn B w' := by
  obtain ⟨h0, b, off, c, h1, h2, h3⟩ := h
  refine ⟨h0, b, off, c, h1, (World.cell?_of_block (hB 0 (by omega))).trans h2, fun k s hk => ?_⟩
  obtain ⟨b', off', e, hc⟩ := h3 k s hk
  injection e with e
  injection e with e1 e2
  subst e1 e2
  exact ⟨b, off, rfl, (World.cell?_of_block (hB b h1)).trans hc⟩
theorem KwIn.bs {B : Nat} {w : World} (h : KwIn B w) : Base.b ≤ B := h.1.2
theorem KwIn.now {B : Nat} {w : World} (h : KwIn B w) : KwAt w := h.at_ (Below.refl B w)
end Go.Proofs.YtipnhmdibkkifaaGreatDoor
set_option linter.unusedVariables false
set_option linter.unusedSimpArgs false
set_option linter.unusedSectionVars false
namespace Go.Proofs.YtipnhmdibkkifaaGreatDoor
open Go.RowKit
variable [Base]
def DrawB (b : Bool) (w : World) (e : Ending) (w' : World) : Prop := e = .returned (.bool b) ∧ ∃ k, w' = w.drewN k
theorem notname_any (s : Str) (w : World) (kw : KwAt w) : Calls Tryz.prog 108 #[sv s] w (DrawB (!nameB s) w) := by
  have K := Lib.hid (isname_any ⟨s.toArray⟩ w kw)
  obtain ⟨r, hr⟩ : ∃ r, nameB s = r := ⟨_, rfl⟩
  have HR := Lib.hid (show nameB (ByteArray.mk s.toArray).data.toList = r from hr)
  rw [hr]
  clear kw hr
  go_enter Tryz.func108, Tryz.ntmps108
  go_wp2_with fail
  refine K.out.mono ?_
  rintro e w' ⟨rfl, k, rfl⟩
  rw [HR.out]
  go_wp2
  go_ret
  exact ⟨rfl, k, rfl⟩
def FirstN (l : List Str) (w : World) (e : Ending) (w' : World) : Prop := ∃ z : Int, e = .returned (iv z) ∧ -1 ≤ z ∧ l.all nameB = decide (z < 0) ∧ ∃ k, w' = w.drewN k
theorem indexn_any (l : List Str) (v : Value) (w : World) (h : StrsAt w v l) (kw : KwAt w) :
    Calls Tryz.prog 134 #[v, .func (.func 108) #[] #[]] w (FirstN l w) := by
  obtain ⟨a, c, rfl, hn, hc⟩ := h.cell
  have HC := Lib.hid hc
  have KW := Lib.hid kw
  obtain ⟨n, hl⟩ : ∃ n, l.length = n := ⟨_, rfl⟩
  rw [hl] at hn ⊢
  have HL := Lib.hid hl
  clear hc h hl kw
  unfold maxLen at hn
  go_enter Tryz.func134, Tryz.ntmps134
  go_wp2
  go_loopw [8] (fun x wr => ∃ k m : Nat, k ≤ n ∧ x = .int .i64 k ∧ wr = w.drewN m ∧ Hid (l.all nameB = (l.drop k).all nameB)) (fun x _ => n - (intOf x).toNat)
  case atStart => exact ⟨0, 0, Nat.zero_le _, rfl, rfl, by unfold Hid; simp⟩
  case round =>
    obtain ⟨k, m, hk, rfl, rfl, HA⟩ := hrel
    by_cases hlt : k < n
    · obtain ⟨t, ht⟩ : ∃ t, l[k]? = some t := ⟨_, List.getElem?_eq_getElem (show k < l.length by have := HL.out; omega)⟩
      obtain ⟨b1, o1, rfl, _, g1⟩ := HC.out k t ht
      have K := Lib.hid (notname_any t (w.drewN m) KW.out)
      have HS := Lib.hid (all_step nameB ht)
      obtain ⟨r, hr⟩ : ∃ r, nameB t = r := ⟨_, rfl⟩
      rw [hr] at K HS
      clear ht hr
      cases r with
      | false =>
        have HF := Lib.hid (show l.all nameB = false by rw [HA.out, HS.out]; rfl)
        go_wp2_with fail
        refine K.out.mono ?_
        rintro e w' ⟨rfl, k2, rfl⟩
        go_wp2
        go_ret
        exact ⟨(k : Int), rfl, by omega, by rw [HF.out]; simp, _, rfl⟩
      | true =>
        have HF := Lib.hid (show l.all nameB = (l.drop (k + 1)).all nameB by rw [HA.out, HS.out]; rfl)
        go_wp2_with fail
        refine K.out.mono ?_
        rintro e w' ⟨rfl, k2, rfl⟩
        go_wp2
        go_roundw
        case rel => exact ⟨k + 1, _, by omega, by go_num, rfl, HF⟩
        case measure => simp [intOf]; omega
    · have HF := Lib.hid (show l.all nameB = true by rw [HA.out, List.drop_eq_nil_of_le (by rw [HL.out]; omega)]; rfl)
      go_wp2
      go_ret
      exact ⟨-1, rfl, by omega, by rw [HF.out]; rfl, _, rfl⟩
theorem containsn_any (l : List Str) (v : Value) (w : World) (h : StrsAt w v l) (kw : KwAt w) :
    Calls Tryz.prog 107 #[v, .func (.func 108) #[] #[]] w (DrawB (!l.all nameB) w) := by
  obtain ⟨a, c, rfl, -, -⟩ := h.cell
  have K := Lib.hid (indexn_any l _ w h kw)
  clear h kw
  go_enter Tryz.func107, Tryz.ntmps107
  go_wp2_with fail
  refine K.out.mono ?_
  rintro e w' ⟨z, rfl, hz, ha, k, rfl⟩
  have HA := Lib.hid (show (!l.all nameB) = decide (0 ≤ z) by rw [ha, Bool.eq_iff_iff]; simp)
  clear ha
  go_wp2
  go_ret
  exact ⟨by rw [HA.out]; rfl, k, rfl⟩
end Go.Proofs.YtipnhmdibkkifaaGreatDoor
set_option linter.unusedVariables false
set_option linter.unusedSimpArgs false
set_option linter.unusedSectionVars false
namespace Go.Proofs.YtipnhmdibkkifaaGreatDoor
def useN (op : Int) (n : Nat) : Int := if op = 1 then n else if op = 2 then max n 1 else if op = 5 ∨ op = 8 then 1 else 0
def tgtN (op : Int) : Int := if op = 8 then 2 else if op = 3 ∨ op = 7 then 1 else 0
def opK (op : Int) : Bool := decide (1 ≤ op) && decide (op ≤ 9)
def namesOf (s : PStmt) : List Str := s.uses ++ s.targets ++ (if dfnB s.op then [s.dfn] else [])
def stmtP2 (s : PStmt) : Bool :=
  opK s.op && ((dfnB s.op || s.dfn.isEmpty) && (decide ((s.uses.length : Int) = useN s.op s.uses.length) && (decide (useN s.op s.uses.length ≤ 4) && (decide ((s.targets.length : Int) = tgtN s.op) && (namesOf s).all nameB))))
theorem all_namesOf (s : PStmt) : (namesOf s).all nameB = (s.uses.all nameB && s.targets.all nameB && (!dfnB s.op || nameB s.dfn)) := by
  unfold namesOf
  rw [List.all_append, List.all_append]
  cases dfnB s.op <;> simp
theorem stmtB_eq (s : PStmt) : stmtB s = stmtP2 s := by
  unfold stmtB stmtP2
  rw [all_namesOf]
  obtain ⟨op, d, us, ts⟩ := s
  unfold opB opK namesB useN tgtN dfnB
  simp only []
  generalize us.all nameB = a
  generalize ts.all nameB = b
  generalize nameB d = c
  generalize d.isEmpty = e
  generalize us.length = n
  generalize ts.length = m
  have hc : op = 1 ∨ op = 2 ∨ op = 3 ∨ op = 4 ∨ op = 5 ∨ op = 6 ∨ op = 7 ∨ op = 8 ∨ op = 9 ∨ ¬ (1 ≤ op ∧ op ≤ 9) := by omega
  rcases hc with rfl | rfl | rfl | rfl | rfl | rfl | rfl | rfl | rfl | hc
  rotate_left 9
  · have h1 : op ≠ 1 := by omega
    have h2 : op ≠ 2 := by omega
    have h3 : op ≠ 3 := by omega
    have h4 : op ≠ 4 := by omega
    have h5 : op ≠ 5 := by omega
    have h6 : op ≠ 6 := by omega
    have h7 : op ≠ 7 := by omega
    have h8 : op ≠ 8 := by omega
    have h9 : op ≠ 9 := by omega
    have h10 : (decide (1 ≤ op) && decide (op ≤ 9)) = false := by rw [Bool.eq_false_iff]; simp; omega
    rw [h10]
    simp [h1, h2, h3, h4, h5, h6, h7, h8, h9]
  all_goals
    rw [Bool.eq_iff_iff]
    cases a <;> cases b <;> cases c <;> cases e <;> simp <;> omega
end Go.Proofs.YtipnhmdibkkifaaGreatDoor
set_option linter.unusedVariables false
set_option linter.unusedSimpArgs false
set_option linter.unusedSectionVars false
namespace Go.Proofs.YtipnhmdibkkifaaGreatDoor
open Go
section
variable {P : Program} {ops : Array Oper} {Q : Exit → Act → World → Prop} {md : Region.Mode} {S : World → Prop}
def wpAnyT (P : Program) (md : Region.Mode) (ops : Array Oper) (Q : Exit → Act → World → Prop) (S : World → Prop) (st : Nat) : Nat → Array Bool → Act → World → Prop
  | 0, listed, a, w => Region.ready md ops listed = [] ∧ Q .normal a w
  | fuel + 1, listed, a, w =>
    (Region.ready md ops listed = [] → Q .normal a w) ∧
    ∀ i ∈ Region.ready md ops listed, wpOp P ops Q i (fun a' w' => (i ≠ st → S w') ∧ wpAnyT P md ops Q S st fuel (listed.setIfInBounds i true) a' w') a w
theorem wpAny_of_T {st : Nat} : ∀ (fuel : Nat) (listed : Array Bool) (a : Act) (w : World), wpAnyT P md ops Q S st fuel listed a w → wpAny P md ops Q fuel listed a w
  | 0, _, _, _, h => h
  | fuel + 1, _, _, _, h => ⟨h.1, fun i hi => wpOp_mono (fun a' w' h' => wpAny_of_T fuel _ a' w' h'.2) (h.2 i hi)⟩
def waits (md : Region.Mode) (ops : Array Oper) (st i : Nat) : Bool := match ops[st]? with
  | some o => o.after.any fun e => Region.binds md e && e.on == i
  | none => false
theorem not_ready_of_waits {st i : Nat} {listed : Array Bool} (hw : waits md ops st i = true) (hi : listed.getD i false = false) (hr : st ∈ Region.ready md ops listed) : False := by
  obtain ⟨_, o, ho, hall⟩ := mem_ready.1 hr
  unfold waits at hw
  rw [ho] at hw
  obtain ⟨e, he, hb⟩ := Array.any_eq_true'.1 hw
  simp only [Bool.and_eq_true, beq_iff_eq] at hb
  have := hall e he hb.1
  rw [hb.2, hi] at this
  cases this
theorem listed_false {listed : Array Bool} {i : Nat} (h : listed.getD i true = false) : listed.getD i false = false := by
  rcases Nat.lt_or_ge i listed.size with h' | h'
  · simp [h'] at h ⊢; exact h
  · simp [Array.getElem?_eq_none h'] at h
theorem wpAnyT_first {st i : Nat} {oi : Oper} {v : Value} (hi : ops[i]? = some oi) (hsel : ∀ (j : Nat) (o : Oper) cs b, ops[j]? = some o → o.op ≠ .select cs b) (hw : waits md ops st i = true)
    (hQ : ∀ c a w, Q (.panic c) (a.put oi.dst v) w → Q (.panic c) a w) :
    ∀ (fuel : Nat) (listed : Array Bool) (a : Act) (w : World),
      (∀ j oj, ops[j]? = some oj → j ≠ i → listed.getD j true = false → (∀ e ∈ oj.after, Region.binds md e = true → e.on ≠ i) → oi.apart ops oj = true) →
      i ∈ Region.ready md ops listed → YieldsIf P ops S oi v a → S w →
      wpAnyT P md ops Q S st fuel (listed.setIfInBounds i true) (a.put oi.dst v) w → wpAnyT P md ops Q S st (fuel + 1) listed a w := by
  intro fuel
  induction fuel with
  | zero =>
    intro listed a w _ hr hy hS H
    refine ⟨fun h => (by rw [h] at hr; cases hr), fun j hj => ?_⟩
    by_cases hji : j = i
    · subst hji; exact hy.wpOp hi hS ⟨fun _ => hS, H⟩
    · have := ready_mono hj hji
      rw [H.1] at this
      cases this
  | succ fuel ih =>
    intro listed a w hfree hr hy hS H
    refine ⟨fun h => (by rw [h] at hr; cases hr), fun j hj => ?_⟩
    by_cases hji : j = i
    · subst hji; exact hy.wpOp hi hS ⟨fun _ => hS, H⟩
    · have hiun := listed_false (mem_ready.1 hr).1
      have hjst : j ≠ st := fun h => not_ready_of_waits hw hiun (h ▸ hj)
      obtain ⟨hjun, oj, hoj, hall⟩ := mem_ready.1 hj
      have hnot : ∀ e ∈ oj.after, Region.binds md e = true → e.on ≠ i := fun e he hb heq => by
        have h1 := hall e he hb
        rw [heq, hiun] at h1
        cases h1
      have hstep := wpOp_putIf hoj (hfree j oj hoj hji hjun hnot) (fun cs b => hsel i oi cs b hi) (fun cs b => hsel j oj cs b hoj) hQ hy (H.2 j (ready_mono hj hji))
      refine wpOp_mono (fun a' w' h3 => ⟨h3.2.1, ih (listed.setIfInBounds j true) a' w' ?_ (ready_mono hr (Ne.symm hji)) h3.1 (h3.2.1 hjst) ?_⟩) hstep
      · intro k ok hk hki hun hno
        refine hfree k ok hk hki ?_ hno
        by_cases hjk : j = k
        · subst hjk; exact hjun
        · rw [getD_set_ne true hjk] at hun; exact hun
      · rw [Array.setIfInBounds_comm _ _ hji]
        exact h3.2.2
theorem wpAnyT_take {st i : Nat} {oi : Oper} {v : Value} {fuel : Nat} {listed : Array Bool} {a : Act} {w : World} (hi : ops[i]? = some oi)
    (hs : Region.noSelect ops = true) (hf : Region.free md ops listed i = true) (hr : (Region.ready md ops listed).contains i = true) (hw : waits md ops st i = true)
    (hQ : ∀ c a w, Q (.panic c) (a.put oi.dst v) w → Q (.panic c) a w) (hy : YieldsIf P ops S oi v a) (hS : S w)
    (h : wpAnyT P md ops Q S st fuel (listed.setIfInBounds i true) (a.put oi.dst v) w) : wpAnyT P md ops Q S st (fuel + 1) listed a w :=
  wpAnyT_first hi (Region.noSelect_spec hs) hw hQ fuel listed a w (Region.free_spec hi hf) (by simpa using hr) hy hS h
theorem wpAnyT_pure {st : Nat} (i : Nat) (v : Value) {oi : Oper} {fuel : Nat} {listed : Array Bool} {a : Act} {w : World} (hi : ops[i]? = some oi)
    (hs : Region.noSelect ops = true) (hf : Region.free md ops listed i = true) (hr : (Region.ready md ops listed).contains i = true) (hw : waits md ops st i = true)
    (hQ : ∀ c a w, Q (.panic c) (a.put oi.dst v) w → Q (.panic c) a w) (hS : S w) (hwant : Region.wanted oi (yielded ops a.tmps) = true)
    (hrun : ∀ w, S w → (execOp a.eval oi).run P w = .ok (.value v) w)
    (h : wpAnyT P md ops Q S st fuel (listed.setIfInBounds i true) (a.put oi.dst v) w) : wpAnyT P md ops Q S st (fuel + 1) listed a w :=
  wpAnyT_take hi hs hf hr hw hQ (.inl ⟨hwant, hrun⟩) hS h
theorem wpOp_of_list {i : Nat} {o : Oper} {K : Act → World → Prop} {a : Act} {w : World} (ho : ops[i]? = some o) (h : wpList P ops (Exit.then K Q) [o] a w) : wpOp P ops Q i K a w := by
  have key : o.wp P a w K (Exit.then K Q) → o.wp P a w K Q := by
    unfold Oper.wp
    generalize (execOp a.eval o).run P w = r
    cases r with
    | ok n w' => cases n <;> exact fun h => h
    | halt x w' => cases x <;> exact fun h => h
  unfold wpOp
  rw [ho]
  show if Region.wanted o (yielded ops a.tmps) then o.wp P a w K Q ∨ (o.asks P a w ∧ LetsOut Q) else K (a.put o.dst undef) w
  have h' : if Region.wanted o (yielded ops a.tmps) then o.wp P a w K (Exit.then K Q) ∨ (o.asks P a w ∧ LetsOut (Exit.then K Q)) else K (a.put o.dst undef) w := h
  split
  · rename_i hw
    rw [if_pos hw] at h'
    exact h'.imp key id
  · rename_i hw
    rw [if_neg hw] at h'
    exact h'
theorem wpAnyT_all {st : Nat} {rs : List Nat} {fuel : Nat} {listed : Array Bool} {a : Act} {w : World} (hr : Region.ready md ops listed = rs) (hne : rs ≠ [])
    (h : ∀ i ∈ rs, wpOp P ops Q i (fun a' w' => (i ≠ st → S w') ∧ wpAnyT P md ops Q S st fuel (listed.setIfInBounds i true) a' w') a w) : wpAnyT P md ops Q S st (fuel + 1) listed a w :=
  ⟨fun h0 => absurd (hr ▸ h0) hne, hr ▸ h⟩
theorem wpAnyT_done {st : Nat} {listed : Array Bool} {a : Act} {w : World} (hr : Region.ready md ops listed = []) (h : Q .normal a w) : ∀ fuel, wpAnyT P md ops Q S st fuel listed a w
  | 0 => ⟨hr, h⟩
  | _ + 1 => ⟨fun _ => h, by rw [hr]; simp⟩
theorem wp_region_T {st : Nat} {id : Nat} {a : Act} {w : World} (hm : P.follows .mixedOrders = true)
    (h : wpAnyT P .any ops Q S st ops.size (Array.replicate ops.size false) a { w with drawn := w.drawn + 1 }) : (Code.region id ops true).wp P Q a w :=
  wp_region_any hm (wpAny_of_T _ _ _ _ h)
end
end Go.Proofs.YtipnhmdibkkifaaGreatDoor
set_option linter.unusedVariables false
set_option linter.unusedSimpArgs false
set_option linter.unusedSectionVars false
namespace Go.Proofs.YtipnhmdibkkifaaGreatDoor
open Go
theorem wp_region_D {P : Program} {ops : Array Oper} {Q : Exit → Act → World → Prop} {S : World → Prop} {st : Nat} {id : Nat} {a : Act} {w : World} (hm : P.follows .mixedOrders = true)
    (h : wpAnyT P .any ops Q S st ops.size (Array.replicate ops.size false) a (w.drewN 1)) : (Code.region id ops true).wp P Q a w := wp_region_T hm h
end Go.Proofs.YtipnhmdibkkifaaGreatDoor
set_option linter.unusedVariables false
set_option linter.unusedSimpArgs false
set_option linter.unusedSectionVars false
namespace Go.Proofs.YtipnhmdibkkifaaGreatDoor
open Go
theorem put_mk (t : Array Value) (d : List Deferred) (i : Nat) (v : Value) : Act.put ⟨t, d⟩ (some i) v = ⟨t.setIfInBounds i v, d⟩ := rfl
theorem put_no (a : Act) (v : Value) : Act.put a none v = a := rfl
section
variable {P : Program} {ops : Array Oper} {Q : Exit → Act → World → Prop} {md : Region.Mode} {S : World → Prop}
def chainOk (md : Region.Mode) (ops : Array Oper) (st : Nat) : Nat → List Nat → Bool
  | i, [] => waits md ops st i
  | i, c :: r => waits md ops c i && chainOk md ops st c r
theorem chain_no {st : Nat} {listed : Array Bool} : ∀ (cs : List Nat) (i : Nat), chainOk md ops st i cs = true → listed.getD i true = false → (∀ c ∈ cs, listed.getD c true = false) → (∀ c ∈ cs, c ∉ Region.ready md ops listed) ∧ st ∉ Region.ready md ops listed
  | [], i, h, hi, _ => ⟨(fun c hc => by cases hc), fun hr => not_ready_of_waits h (listed_false hi) hr⟩
  | c :: r, i, h, hi, hc => by
    unfold chainOk at h
    simp only [Bool.and_eq_true] at h
    have h1 := chain_no r c h.2 (hc c (by simp)) (fun d hd => hc d (by simp [hd]))
    refine ⟨fun d hd => ?_, h1.2⟩
    rcases List.mem_cons.1 hd with rfl | hd
    · exact fun hr => not_ready_of_waits h.1 (listed_false hi) hr
    · exact h1.1 d hd
theorem wpAnyT_firstC {st i : Nat} {oi : Oper} {v : Value} (cs : List Nat) (hi : ops[i]? = some oi) (hsel : ∀ (j : Nat) (o : Oper) cs b, ops[j]? = some o → o.op ≠ .select cs b) (hw : chainOk md ops st i cs = true)
    (hQ : ∀ c a w, Q (.panic c) (a.put oi.dst v) w → Q (.panic c) a w) :
    ∀ (fuel : Nat) (listed : Array Bool) (a : Act) (w : World),
      (∀ j oj, ops[j]? = some oj → j ≠ i → listed.getD j true = false → (∀ e ∈ oj.after, Region.binds md e = true → e.on ≠ i) → oi.apart ops oj = true) →
      (∀ c ∈ cs, listed.getD c true = false) →
      i ∈ Region.ready md ops listed → YieldsIf P ops S oi v a → S w →
      wpAnyT P md ops Q S st fuel (listed.setIfInBounds i true) (a.put oi.dst v) w → wpAnyT P md ops Q S st (fuel + 1) listed a w := by
  intro fuel
  induction fuel with
  | zero =>
    intro listed a w _ _ hr hy hS H
    refine ⟨fun h => (by rw [h] at hr; cases hr), fun j hj => ?_⟩
    by_cases hji : j = i
    · subst hji; exact hy.wpOp hi hS ⟨fun _ => hS, H⟩
    · have := ready_mono hj hji
      rw [H.1] at this
      cases this
  | succ fuel ih =>
    intro listed a w hfree hcs hr hy hS H
    refine ⟨fun h => (by rw [h] at hr; cases hr), fun j hj => ?_⟩
    by_cases hji : j = i
    · subst hji; exact hy.wpOp hi hS ⟨fun _ => hS, H⟩
    · have hiun := listed_false (mem_ready.1 hr).1
      have hno := chain_no cs i hw (mem_ready.1 hr).1 hcs
      have hjst : j ≠ st := fun h => hno.2 (h ▸ hj)
      have hjc : ∀ c ∈ cs, j ≠ c := fun c hc h => hno.1 c hc (h ▸ hj)
      obtain ⟨hjun, oj, hoj, hall⟩ := mem_ready.1 hj
      have hnot : ∀ e ∈ oj.after, Region.binds md e = true → e.on ≠ i := fun e he hb heq => by
        have h1 := hall e he hb
        rw [heq, hiun] at h1
        cases h1
      have hstep := wpOp_putIf hoj (hfree j oj hoj hji hjun hnot) (fun cs b => hsel i oi cs b hi) (fun cs b => hsel j oj cs b hoj) hQ hy (H.2 j (ready_mono hj hji))
      refine wpOp_mono (fun a' w' h3 => ⟨h3.2.1, ih (listed.setIfInBounds j true) a' w' ?_ ?_ (ready_mono hr (Ne.symm hji)) h3.1 (h3.2.1 hjst) ?_⟩) hstep
      · intro k ok hk hki hun hno
        refine hfree k ok hk hki ?_ hno
        by_cases hjk : j = k
        · subst hjk; exact hjun
        · rw [getD_set_ne true hjk] at hun; exact hun
      · intro c hc
        rw [getD_set_ne true (hjc c hc)]
        exact hcs c hc
      · rw [Array.setIfInBounds_comm _ _ hji]
        exact h3.2.2
theorem wpAnyT_pureC {st : Nat} (i : Nat) (d : Option Tmp) (cs : List Nat) (v : Value) {oi : Oper} {fuel : Nat} {listed : Array Bool} {a : Act} {w : World} (hi : ops[i]? = some oi)
    (hs : Region.noSelect ops = true) (hf : Region.free md ops listed i = true) (hr : (Region.ready md ops listed).contains i = true) (hw : (chainOk md ops st i cs && cs.all fun c => !listed.getD c true) = true)
    (hQ : ∀ c a w, Q (.panic c) (a.put oi.dst v) w → Q (.panic c) a w) (hS : S w) (hwant : Region.wanted oi (yielded ops a.tmps) = true)
    (hd : oi.dst = d) (hrun : ∀ w, S w → (execOp a.eval oi).run P w = .ok (.value v) w)
    (h : wpAnyT P md ops Q S st fuel (listed.setIfInBounds i true) (a.put d v) w) : wpAnyT P md ops Q S st (fuel + 1) listed a w := by
  subst hd
  simp only [Bool.and_eq_true, List.all_eq_true, Bool.not_eq_true'] at hw
  exact wpAnyT_firstC cs hi (Region.noSelect_spec hs) hw.1 hQ fuel listed a w (Region.free_spec hi hf) hw.2 (by simpa using hr) (.inl ⟨hwant, hrun⟩) hS h
theorem wpAnyT_pureD {st : Nat} (i : Nat) (d : Option Tmp) (v : Value) {oi : Oper} {fuel : Nat} {listed : Array Bool} {a : Act} {w : World} (hi : ops[i]? = some oi)
    (hs : Region.noSelect ops = true) (hf : Region.free md ops listed i = true) (hr : (Region.ready md ops listed).contains i = true) (hw : waits md ops st i = true)
    (hQ : ∀ c a w, Q (.panic c) (a.put oi.dst v) w → Q (.panic c) a w) (hS : S w) (hwant : Region.wanted oi (yielded ops a.tmps) = true)
    (hd : oi.dst = d) (hrun : ∀ w, S w → (execOp a.eval oi).run P w = .ok (.value v) w)
    (h : wpAnyT P md ops Q S st fuel (listed.setIfInBounds i true) (a.put d v) w) : wpAnyT P md ops Q S st (fuel + 1) listed a w := by
  subst hd
  exact wpAnyT_pure i v hi hs hf hr hw hQ hS hwant hrun h
theorem wpAnyT_call {st : Nat} (i : Nat) (d : Option Tmp) (fn : FuncId) (vals : Array Value) {oi : Oper} {fuel : Nat} {listed : Array Bool} {a : Act} {w : World} (hi : ops[i]? = some oi)
    (hr : Region.ready md ops listed = [i]) (hwant : Region.wanted oi (yielded ops a.tmps) = true) (hrun : (execOp a.eval oi).run P w = .ok (.enter fn vals) w) (hd : oi.dst = d)
    (hc : Calls P fn vals w fun e w' => ∃ v, e = .returned v ∧ (i ≠ st → S w') ∧ wpAnyT P md ops Q S st fuel (listed.setIfInBounds i true) (a.put d v) w') : wpAnyT P md ops Q S st (fuel + 1) listed a w := by
  subst hd
  refine wpAnyT_all hr (by simp) fun j hj => ?_
  obtain rfl : j = i := by simpa using hj
  unfold wpOp
  rw [hi]
  show if Region.wanted oi (yielded ops a.tmps) then _ else _
  rw [if_pos hwant]
  left
  unfold Oper.wp
  rw [hrun, Oper.upon_enter]
  refine hc.mono ?_
  rintro e w' ⟨v, rfl, h1, h2⟩
  exact ⟨h1, h2⟩
theorem wpAnyT_step {st : Nat} (i : Nat) (d : Option Tmp) (w' : World) {oi : Oper} {fuel : Nat} {listed : Array Bool} {a : Act} {w : World} (hi : ops[i]? = some oi)
    (hr : Region.ready md ops listed = [i]) (hwant : Region.wanted oi (yielded ops a.tmps) = true) (hrun : (execOp a.eval oi).run P w = .ok .skip w') (hd : oi.dst = d)
    (hS : i ≠ st → S w') (h : wpAnyT P md ops Q S st fuel (listed.setIfInBounds i true) (a.put d undef) w') : wpAnyT P md ops Q S st (fuel + 1) listed a w := by
  subst hd
  refine wpAnyT_all hr (by simp) fun j hj => ?_
  obtain rfl : j = i := by simpa using hj
  unfold wpOp
  rw [hi]
  show if Region.wanted oi (yielded ops a.tmps) then _ else _
  rw [if_pos hwant]
  left
  unfold Oper.wp
  rw [hrun, Oper.upon_skip]
  exact ⟨hS, h⟩
theorem wpAnyT_value {st : Nat} (i : Nat) (d : Option Tmp) (v : Value) (w' : World) {oi : Oper} {fuel : Nat} {listed : Array Bool} {a : Act} {w : World} (hi : ops[i]? = some oi)
    (hr : Region.ready md ops listed = [i]) (hwant : Region.wanted oi (yielded ops a.tmps) = true) (hrun : (execOp a.eval oi).run P w = .ok (.value v) w') (hd : oi.dst = d)
    (hS : i ≠ st → S w') (h : wpAnyT P md ops Q S st fuel (listed.setIfInBounds i true) (a.put d v) w') : wpAnyT P md ops Q S st (fuel + 1) listed a w := by
  subst hd
  refine wpAnyT_all hr (by simp) fun j hj => ?_
  obtain rfl : j = i := by simpa using hj
  unfold wpOp
  rw [hi]
  show if Region.wanted oi (yielded ops a.tmps) then _ else _
  rw [if_pos hwant]
  left
  unfold Oper.wp
  rw [hrun, Oper.upon_value]
  exact ⟨hS, h⟩
end
end Go.Proofs.YtipnhmdibkkifaaGreatDoor
