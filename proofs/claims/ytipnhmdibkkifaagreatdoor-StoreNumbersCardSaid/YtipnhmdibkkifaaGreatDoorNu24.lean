/- A part of the proof. -/
import Derived.Test.YtipnhmdibkkifaaGreatDoorNu21
import Derived.Deep.LoopGhost
set_option linter.unusedVariables false
set_option linter.unusedSimpArgs false
set_option linter.unusedVariables false
set_option linter.unusedSimpArgs false
set_option linter.unusedSectionVars false
namespace Go.Proofs.YtipnhmdibkkifaaGreatDoor
open Go.RowKit
variable [Base]
theorem PSt.grown {B bp : Nat} {T : List Tok} {s : PS} {w w' : World} (h : PSt B bp T s w) {v : Value} {base n sz : Nat} {U : TypeId} {xs : List Value} (hg : w.grownBy w' v.ownBlock) (ho : w.ownsRow base U sz v n xs) (hne : 78 ≠ U) (hb : bp < base) (hs : base ≤ w.heap.size) : PSt B bp T s w' := by
  have hbel := Below.of_grown hg ho hs
  exact h.keep (hbel.block bp hb) (fun k hk => hbel.block k (by have := h.ge; omega)) (SameT.grown hg ho hne (by have := h.kw.bs; have := h.ge; omega))
theorem own_form {w : World} {base n sz : Nat} {U : TypeId} {v : Value} {xs : List Value} (h : w.ownsRow base U sz v n xs) : ∃ a c, v = .slice a n c := by
  rcases h.2 with ⟨rfl, rfl⟩ | ⟨g, cap, cur, rfl, _⟩
  · exact ⟨none, 0, rfl⟩
  · exact ⟨_, _, rfl⟩
def NamesPost (B bp : Nat) (T : List Tok) (r : List Str × PS) (w : World) (e : Ending) (w' : World) : Prop :=
  ∃ a n c, e = .returned (.slice a n c) ∧ PSt B bp T r.2 w' ∧ But bp w w' ∧ (r.2.err = 0 → StrsAt w' (.slice a n c) r.1)
def NmIn (B bp : Nat) (T : List Tok) (R : List Str × PS) (w0 : World) (g : Nat) (w : World) (v : Value) : Prop :=
  ∃ (s : PS) (n : Nat) (cs : List Value), PSt B bp T s w ∧ But bp w0 w ∧ w.ownsRow w0.heap.size 9 1 v n cs ∧ g + n = 6 ∧
    ((∃ m acc, namesM T m acc s = R ∧ n = acc.length ∧ n + m = 4 ∧ cs = acc.map sv) ∨ (s.err ≠ 0 ∧ R.2 = s))
theorem namesM_no {T : List Tok} {s : PS} {m : Nat} {acc : List Str} (h : isN T s = false) : namesM T m acc s = (acc, s) := by
  cases m <;> unfold namesM <;> rw [h] <;> rfl
theorem namesM_yes {T : List Tok} {s : PS} {m : Nat} {acc : List Str} (h : isN T s = true) : namesM T (m + 1) acc s = namesM T m (acc ++ [nameV T s]) s.step := by
  conv => lhs; unfold namesM
  rw [if_pos h]
theorem namesM_full {T : List Tok} {s : PS} {acc : List Str} (h : isN T s = true) : namesM T 0 acc s = (acc, s.fail 7) := by
  unfold namesM
  rw [if_pos h]
theorem fail_ne {s : PS} (h : s.err = 0) {e : Int} (he : e ≠ 0) : (s.fail e).err ≠ 0 := by unfold PS.fail; rw [if_pos h]; exact he
set_option maxHeartbeats 1000000 in
theorem names_any {B bp : Nat} {T : List Tok} {s : PS} {w : World} (h : PSt B bp T s w) (hT : T.length ≤ 1000000) :
    Calls Tryz.prog 104 #[.pointer (some ⟨bp, 0, none⟩)] w (NamesPost B bp T (namesM T 4 [] s) w) := by
  obtain ⟨R, hR⟩ : ∃ R, namesM T 4 [] s = R := ⟨_, rfl⟩
  rw [hR]
  have hlt := h.lt
  have I : Hid (NmIn B bp T R w 6 w (.slice none 0 0)) := ⟨s, 0, [], h, But.refl _ _, World.ownsRow_nil _ _ _ _, rfl, .inl ⟨4, [], hR, rfl, rfl, rfl⟩⟩
  clear h hR
  go_enter Tryz.func104, Tryz.ntmps104
  go_wp2
  go_loopg [3] 6 (fun g v wr => Hid (NmIn B bp T R w g wr v))
  case atStart => exact I
  case round =>
    obtain ⟨s1, n, cs, h1, b1, hown, hgn, hmode⟩ := hrel.out
    have H1 := Lib.hid h1
    have B1 := Lib.hid b1
    have HO := Lib.hid hown
    have HM := Lib.hid hmode
    have hwz := b1.size
    obtain ⟨va, vc, rfl⟩ := own_form hown
    clear h1 b1 hown hmode hrel I
    cases hN : isN T s1
    · have HN := Lib.hid hN
      go_wp2_with fail
      refine (isName_any H1.out).mono ?_
      rintro e w2 ⟨rfl, h2, b2⟩
      have H2 := Lib.hid h2
      have B2 := Lib.hid (B1.out.trans b2)
      have HO2 := Lib.hid (ownsRow_but HO.out b2 hlt)
      clear h2 b2
      rw [HN.out]
      go_wp2
      go_ret
      rcases HM.out with ⟨m, acc, hm, hn, hnm, hcs⟩ | ⟨he, hs⟩
      · rw [namesM_no HN.out] at hm
        refine ⟨_, _, _, rfl, by rw [← hm]; exact H2.out, B2.out, fun _ => ?_⟩
        rw [← hm]
        have h3 := SliceAt.of_owns HO2.out
        rw [hcs] at h3
        exact h3
      · exact ⟨_, _, _, rfl, by rw [hs]; exact H2.out, B2.out, fun h0 => absurd (by rw [hs] at h0; exact h0) he⟩
    · have HN := Lib.hid hN
      obtain ⟨herr, tk, htk, _, _, hnv⟩ := isN_in hN
      obtain ⟨m, acc, hm, hn, hnm, hcs⟩ : ∃ m acc, namesM T m acc s1 = R ∧ n = acc.length ∧ n + m = 4 ∧ cs = acc.map sv := by
        rcases HM.out with h | ⟨he, _⟩
        · exact h
        · exact absurd herr he
      have HRm := Lib.hid hm
      have HCs := Lib.hid hcs
      have HErr := Lib.hid herr
      have HNn := Lib.hid hn
      clear HM hm hcs herr htk hnv hn
      go_wp2_with fail
      refine (isName_any H1.out).mono ?_
      rintro e w2 ⟨rfl, h2, b2⟩
      have H2 := Lib.hid h2
      have B2 := Lib.hid (B1.out.trans b2)
      have HO2 := Lib.hid (ownsRow_but HO.out b2 hlt)
      have hwz2 := b2.size
      clear h2 b2 HO H1 B1
      rw [HN.out]
      go_wp2_with fail
      refine (room_any H2.out n 4).mono ?_
      rintro e w3 ⟨rfl, h3, b3⟩
      have B3 := Lib.hid (B2.out.trans b3)
      have HO3 := Lib.hid (ownsRow_but HO2.out b3 hlt)
      have hwz3 := b3.size
      by_cases hn4 : (n : Int) = 4
      · rw [if_pos hn4] at h3
        have H3 := Lib.hid h3
        have hE := Lib.hid (fail_ne HErr.out (e := 7) (by decide))
        clear h3 b3 HO2 H2 B2
        go_wp2_with fail
        refine (name_any' H3.out hT).mono ?_
        rintro e w4 ⟨rfl, h4, b4⟩
        have e1 : nameM T (s1.fail 7) = s1.fail 7 := by unfold nameM; rw [isN_err hE.out, take_err hE.out]
        rw [e1] at h4
        have e2 : nameV T (s1.fail 7) = [] := by unfold nameV textM; rw [isN_err hE.out]; rfl
        rw [e2]
        have H4 := Lib.hid h4
        have B4 := Lib.hid (B3.out.trans b4)
        have HO4 := Lib.hid (ownsRow_but HO3.out b4 hlt)
        have hwz4 := b4.size
        clear h4 b4 HO3 H3 B3 e1 e2
        go_wp2_with (at_builtin; refine wpList_pushH [.string ⟨#[]⟩] rfl _ _ 30 rfl w.heap.size 9 _ 1 16 Tryz.underlying30 infoStr rfl (by omega) _ _ _ HO4.out rfl _ rfl (by simp) rfl rfl (by unfold maxLen; omega) (by omega) (by omega) ?_; intro g cap w6 hown1 hg1 hg2 hg3; have H6 := Lib.hid (PSt.grown H4.out hg1 HO4.out (by decide) hlt (by omega)); have B6 := Lib.hid (B4.out.belowB (Below.of_grown hg1 HO4.out (by omega)) (Nat.le_refl _)); have HO6 := Lib.hid hown1; clear hown1 hg1 hg2 hg3)
        have hr2 : R.2 = s1.fail 7 := by
          have := HRm.out
          have hm0 : m = 0 := by omega
          rw [hm0, namesM_full HN.out] at this
          rw [← this]
        go_roundg (gk - 1)
        case measure => omega
        case rel => exact ⟨_, n + 1, _, H6.out, B6.out, HO6.out, by omega, .inr ⟨hE.out, hr2⟩⟩
      · rw [if_neg hn4] at h3
        have H3 := Lib.hid h3
        clear h3 b3 HO2 H2 B2
        go_wp2_with fail
        refine (name_any' H3.out hT).mono ?_
        rintro e w4 ⟨rfl, h4, b4⟩
        have e1 : nameM T s1 = s1.step := by unfold nameM; rw [HN.out]; rfl
        rw [e1] at h4
        have H4 := Lib.hid h4
        have B4 := Lib.hid (B3.out.trans b4)
        have HO4 := Lib.hid (ownsRow_but HO3.out b4 hlt)
        have hwz4 := b4.size
        obtain ⟨nv, hnv⟩ : ∃ x, nameV T s1 = x := ⟨_, rfl⟩
        rw [hnv]
        have HNV := Lib.hid hnv
        clear h4 b4 HO3 H3 B3 e1 hnv
        go_wp2_with (at_builtin; refine wpList_pushH [sv nv] rfl _ _ 30 rfl w.heap.size 9 _ 1 16 Tryz.underlying30 infoStr rfl (by omega) _ _ _ HO4.out rfl _ rfl (by simp) rfl rfl (by unfold maxLen; omega) (by omega) (by omega) ?_; intro g cap w6 hown1 hg1 hg2 hg3; have H6 := Lib.hid (PSt.grown H4.out hg1 HO4.out (by decide) hlt (by omega)); have B6 := Lib.hid (B4.out.belowB (Below.of_grown hg1 HO4.out (by omega)) (Nat.le_refl _)); have HO6 := Lib.hid hown1; clear hown1 hg1 hg2 hg3)
        obtain ⟨m', rfl⟩ : ∃ m', m = m' + 1 := ⟨m - 1, by omega⟩
        have hr2 : namesM T m' (acc ++ [nv]) s1.step = R := by
          have h5 := HRm.out
          rw [namesM_yes HN.out, HNV.out] at h5
          exact h5
        go_roundg (gk - 1)
        case measure => omega
        case rel => exact ⟨_, n + 1, _, H6.out, B6.out, HO6.out, by omega, .inl ⟨m', acc ++ [nv], hr2, by have := HNn.out; simp; omega, by omega, by rw [HCs.out]; simp⟩⟩
end Go.Proofs.YtipnhmdibkkifaaGreatDoor
