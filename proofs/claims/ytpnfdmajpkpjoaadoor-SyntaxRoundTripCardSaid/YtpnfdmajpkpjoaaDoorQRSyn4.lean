/- The reference's parser: names. Printed by wip/gen_rsyn4.py. -/
import Derived.Test.YtpnfdmajpkpjoaaDoorQRSyn3
import Derived.Deep.LoopGhost
set_option linter.unusedVariables false
set_option linter.unusedSimpArgs false
namespace Go.Proofs.YtpnfdmajpkpjoaaDoor.R
open Go.RowKit

theorem PSt.grown {B bp : Nat} {T : List Tok} {s : PS} {w w' : World} (h : PSt B bp T s w) {v : Value} {base n sz : Nat} {U : TypeId} {xs : List Value} (hg : w.grownBy w' v.ownBlock) (ho : w.ownsRow base U sz v n xs) (hne : 64 ≠ U) (hb : bp < base) (hs : base ≤ w.heap.size) : PSt B bp T s w' := by
  have hbel := Below.of_grown hg ho hs
  exact h.keep (hbel.block bp hb) (fun k hk => hbel.block k (by have := h.ge; omega)) (SameT.grown hg ho hne)
/-- What the reading of a list leaves. -/
def NamesPost (B bp : Nat) (T : List Tok) (r : List Str × PS) (w : World) (e : Ending) (w' : World) : Prop :=
  ∃ a n c, e = .returned (.slice a n c) ∧ PSt B bp T r.2 w' ∧ But bp w w' ∧ ∃ l, l.length = n ∧ n ≤ 4 ∧ StrsAt w' (.slice a n c) l ∧ (r.2.err = 0 → l = r.1)
/-- The loop: in step with the model. -/
def NmIn (mx B bp : Nat) (T : List Tok) (R : List Str × PS) (w0 : World) (g : Nat) (w : World) (v : Value) : Prop :=
  ∃ (s : PS) (n : Nat) (cs : List Value), PSt B bp T s w ∧ But bp w0 w ∧ w.ownsRow w0.heap.size 9 1 v n cs ∧ g + n = 6 ∧
    ∃ m acc, namesM T m acc s = R ∧ n = acc.length ∧ n + m = mx ∧ cs = acc.map sv

set_option maxHeartbeats 1000000 in
theorem names_any {B bp : Nat} {T : List Tok} {s : PS} {w : World} (h : PSt B bp T s w) (hT : T.length ≤ 1000000) :
    Calls Tryd.prog 96 #[.pointer (some ⟨bp, 0, none⟩)] w (NamesPost B bp T (namesM T 4 [] s) w) := by
  obtain ⟨R, hR⟩ : ∃ R, namesM T 4 [] s = R := ⟨_, rfl⟩
  rw [hR]
  have hlt := h.lt
  have I : Hid (NmIn 4 B bp T R w 6 w (.slice none 0 0)) := ⟨s, 0, [], h, But.refl _ _, World.ownsRow_nil _ _ _ _, rfl, 4, [], hR, rfl, rfl, rfl⟩
  clear h hR
  go_enter Tryd.func96, Tryd.ntmps96
  go_wp2
  go_loopg [3] 6 (fun g v wr => Hid (NmIn 4 B bp T R w g wr v))
  case atStart => exact I
  case round =>
    obtain ⟨s1, n, cs, h1, b1, hown, hgn, m, acc, hm, hn, hnm, hcs⟩ := hrel.out
    have H1 := Lib.hid h1
    have B1 := Lib.hid b1
    have HO := Lib.hid hown
    have HRm := Lib.hid hm
    have HCs := Lib.hid hcs
    have HNn := Lib.hid hn
    have hwz := b1.size
    obtain ⟨va, vc, rfl⟩ := own_form hown
    clear h1 b1 hown hm hcs hn hrel I
    cases hN : isN T s1
    · have HN := Lib.hid hN
      clear hN
      go_wp2_with fail
      refine (isName_any H1.out).mono ?_
      rintro e w2 ⟨rfl, h2, b2⟩
      have H2 := Lib.hid h2
      have B2 := Lib.hid (B1.out.trans b2)
      have HO2 := Lib.hid (ownsRow_but HO.out b2 hlt)
      clear h2 b2
      rw [HN.out]
      go_wp2
      go_ret
      have hm := HRm.out
      rw [namesM_no HN.out] at hm
      have h3 := SliceAt.of_owns HO2.out
      rw [HCs.out] at h3
      refine ⟨_, _, _, rfl, by rw [← hm]; exact H2.out, B2.out, acc, HNn.out.symm, by omega, h3, fun _ => by rw [← hm]⟩
    · have HN := Lib.hid hN
      obtain ⟨herr, tk, htk, _, _, hnv⟩ := isN_in hN
      have HErr := Lib.hid herr
      clear herr htk hnv hN
      go_wp2_with fail
      refine (isName_any H1.out).mono ?_
      rintro e w2 ⟨rfl, h2, b2⟩
      have H2 := Lib.hid h2
      have B2 := Lib.hid (B1.out.trans b2)
      have HO2 := Lib.hid (ownsRow_but HO.out b2 hlt)
      have hwz2 := b2.size
      clear h2 b2 HO H1 B1
      rw [HN.out]
      cases hfull : ((n : Int) == 4)
      · have h5 : ¬ ((n : Int) = 4) := by simpa using hfull
        have hlt4 : n < 4 := by omega
        clear h5
        go_wp2_with fail
        refine (name_any H2.out hT).mono ?_
        rintro e w4 ⟨rfl, h4, b4⟩
        have e1 : nameM T s1 = s1.step := by unfold nameM; rw [HN.out]; rfl
        rw [e1] at h4
        have H4 := Lib.hid h4
        have B4 := Lib.hid (B2.out.trans b4)
        have HO4 := Lib.hid (ownsRow_but HO2.out b4 hlt)
        have hwz4 := b4.size
        obtain ⟨nv, hnv⟩ : ∃ x, nameV T s1 = x := ⟨_, rfl⟩
        rw [hnv]
        have HNV := Lib.hid hnv
        clear h4 b4 HO2 H2 B2 e1 hnv
        go_wp2_with (at_builtin; refine wpList_pushH [sv nv] rfl _ _ 39 rfl w.heap.size 9 _ 1 16 Tryd.underlying39 infoStr rfl (by omega) _ _ _ HO4.out rfl _ rfl (by simp) rfl rfl (by unfold maxLen; omega) (by omega) (by omega) ?_; intro g cap w6 hown1 hg1 hg2 hg3; have H6 := Lib.hid (PSt.grown H4.out hg1 HO4.out (by decide) hlt (by omega)); have B6 := Lib.hid (B4.out.belowB (Below.of_grown hg1 HO4.out (by omega)) (Nat.le_refl _)); have HO6 := Lib.hid hown1; clear hown1 hg1 hg2 hg3)
        obtain ⟨m', rfl⟩ : ∃ m', m = m' + 1 := ⟨m - 1, by omega⟩
        have hr2 : namesM T m' (acc ++ [nv]) s1.step = R := by
          have h5 := HRm.out
          rw [namesM_yes HN.out, HNV.out] at h5
          exact h5
        go_roundg (gk - 1)
        case measure => omega
        case rel => exact ⟨_, n + 1, _, H6.out, B6.out, HO6.out, by omega, m', acc ++ [nv], hr2, by have := HNn.out; simp; omega, by omega, by rw [HCs.out]; simp⟩
      · have h5 : (n : Int) = 4 := by simpa using hfull
        have hm0 : m = 0 := by omega
        clear h5
        subst hm0
        have hE := Lib.hid (fail_ne HErr.out (e := 7) (by decide))
        go_wp2_with fail
        refine (fail_any H2.out 7 (by decide)).mono ?_
        rintro e w3 ⟨rfl, h3, b3⟩
        have H3 := Lib.hid h3
        have B3 := Lib.hid (B2.out.trans b3)
        clear h3 b3
        go_wp2
        go_ret
        have hm := HRm.out
        rw [namesM_full HN.out] at hm
        refine ⟨_, _, _, rfl, by rw [← hm]; exact H3.out, B3.out, [], rfl, by omega, SliceAt.nil, fun h0 => absurd (by rw [← hm] at h0; exact h0) hE.out⟩

set_option maxHeartbeats 1000000 in
theorem more_any {B bp : Nat} {T : List Tok} {s : PS} {w : World} (h : PSt B bp T s w) (hT : T.length ≤ 1000000) :
    Calls Tryd.prog 95 #[.pointer (some ⟨bp, 0, none⟩), .int .i64 1] w (NamesPost B bp T (namesM T 3 [] s) w) := by
  obtain ⟨R, hR⟩ : ∃ R, namesM T 3 [] s = R := ⟨_, rfl⟩
  rw [hR]
  have hlt := h.lt
  have I : Hid (NmIn 3 B bp T R w 6 w (.slice none 0 0)) := ⟨s, 0, [], h, But.refl _ _, World.ownsRow_nil _ _ _ _, rfl, 3, [], hR, rfl, rfl, rfl⟩
  clear h hR
  go_enter Tryd.func95, Tryd.ntmps95
  go_wp2
  go_loopg [5] 6 (fun g v wr => Hid (NmIn 3 B bp T R w g wr v))
  case atStart => exact I
  case round =>
    obtain ⟨s1, n, cs, h1, b1, hown, hgn, m, acc, hm, hn, hnm, hcs⟩ := hrel.out
    have H1 := Lib.hid h1
    have B1 := Lib.hid b1
    have HO := Lib.hid hown
    have HRm := Lib.hid hm
    have HCs := Lib.hid hcs
    have HNn := Lib.hid hn
    have hwz := b1.size
    obtain ⟨va, vc, rfl⟩ := own_form hown
    clear h1 b1 hown hm hcs hn hrel I
    cases hN : isN T s1
    · have HN := Lib.hid hN
      clear hN
      go_wp2_with fail
      refine (isName_any H1.out).mono ?_
      rintro e w2 ⟨rfl, h2, b2⟩
      have H2 := Lib.hid h2
      have B2 := Lib.hid (B1.out.trans b2)
      have HO2 := Lib.hid (ownsRow_but HO.out b2 hlt)
      clear h2 b2
      rw [HN.out]
      go_wp2
      go_ret
      have hm := HRm.out
      rw [namesM_no HN.out] at hm
      have h3 := SliceAt.of_owns HO2.out
      rw [HCs.out] at h3
      refine ⟨_, _, _, rfl, by rw [← hm]; exact H2.out, B2.out, acc, HNn.out.symm, by omega, h3, fun _ => by rw [← hm]⟩
    · have HN := Lib.hid hN
      obtain ⟨herr, tk, htk, _, _, hnv⟩ := isN_in hN
      have HErr := Lib.hid herr
      clear herr htk hnv hN
      go_wp2_with fail
      refine (isName_any H1.out).mono ?_
      rintro e w2 ⟨rfl, h2, b2⟩
      have H2 := Lib.hid h2
      have B2 := Lib.hid (B1.out.trans b2)
      have HO2 := Lib.hid (ownsRow_but HO.out b2 hlt)
      have hwz2 := b2.size
      clear h2 b2 HO H1 B1
      rw [HN.out]
      cases hfull : (1 + (n : Int) == 4)
      · have h5 : ¬ (1 + (n : Int) = 4) := by simpa using hfull
        have hlt4 : n < 3 := by omega
        clear h5
        go_wp2_with fail
        refine (name_any H2.out hT).mono ?_
        rintro e w4 ⟨rfl, h4, b4⟩
        have e1 : nameM T s1 = s1.step := by unfold nameM; rw [HN.out]; rfl
        rw [e1] at h4
        have H4 := Lib.hid h4
        have B4 := Lib.hid (B2.out.trans b4)
        have HO4 := Lib.hid (ownsRow_but HO2.out b4 hlt)
        have hwz4 := b4.size
        obtain ⟨nv, hnv⟩ : ∃ x, nameV T s1 = x := ⟨_, rfl⟩
        rw [hnv]
        have HNV := Lib.hid hnv
        clear h4 b4 HO2 H2 B2 e1 hnv
        go_wp2_with (at_builtin; refine wpList_pushH [sv nv] rfl _ _ 39 rfl w.heap.size 9 _ 1 16 Tryd.underlying39 infoStr rfl (by omega) _ _ _ HO4.out rfl _ rfl (by simp) rfl rfl (by unfold maxLen; omega) (by omega) (by omega) ?_; intro g cap w6 hown1 hg1 hg2 hg3; have H6 := Lib.hid (PSt.grown H4.out hg1 HO4.out (by decide) hlt (by omega)); have B6 := Lib.hid (B4.out.belowB (Below.of_grown hg1 HO4.out (by omega)) (Nat.le_refl _)); have HO6 := Lib.hid hown1; clear hown1 hg1 hg2 hg3)
        obtain ⟨m', rfl⟩ : ∃ m', m = m' + 1 := ⟨m - 1, by omega⟩
        have hr2 : namesM T m' (acc ++ [nv]) s1.step = R := by
          have h5 := HRm.out
          rw [namesM_yes HN.out, HNV.out] at h5
          exact h5
        go_roundg (gk - 1)
        case measure => omega
        case rel => exact ⟨_, n + 1, _, H6.out, B6.out, HO6.out, by omega, m', acc ++ [nv], hr2, by have := HNn.out; simp; omega, by omega, by rw [HCs.out]; simp⟩
      · have h5 : 1 + (n : Int) = 4 := by simpa using hfull
        have hm0 : m = 0 := by omega
        clear h5
        subst hm0
        have hE := Lib.hid (fail_ne HErr.out (e := 7) (by decide))
        go_wp2_with fail
        refine (fail_any H2.out 7 (by decide)).mono ?_
        rintro e w3 ⟨rfl, h3, b3⟩
        have H3 := Lib.hid h3
        have B3 := Lib.hid (B2.out.trans b3)
        clear h3 b3
        go_wp2
        go_ret
        have hm := HRm.out
        rw [namesM_full HN.out] at hm
        refine ⟨_, _, _, rfl, by rw [← hm]; exact H3.out, B3.out, [], rfl, by omega, SliceAt.nil, fun h0 => absurd (by rw [← hm] at h0; exact h0) hE.out⟩
end Go.Proofs.YtpnfdmajpkpjoaaDoor.R

