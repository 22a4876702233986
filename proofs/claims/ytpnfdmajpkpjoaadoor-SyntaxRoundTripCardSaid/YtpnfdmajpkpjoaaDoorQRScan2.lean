/- The reference's scanner, the whole. -/
import Derived.Test.YtpnfdmajpkpjoaaDoorQRScan
set_option linter.unusedVariables false
set_option linter.unusedSimpArgs false
namespace Go.Proofs.YtpnfdmajpkpjoaaDoor
open Go.RowKit

set_option maxRecDepth 100000 in
set_option maxHeartbeats 1000000 in
theorem rscan_last (s : ByteArray) (w0 : World) (B : Nat) (R : Scanned) (w : World) (u : Nat → Value) (toks : List Tok) (line col : Nat) (op : Bool) (v : Value) (Q : Exit → Act → World → Prop)
    (hexit : ∀ a w, RExit s w0 B R a w → Q (.exit 0) a w)
    (hown : w.ownsRow B 64 4 v toks.length (toks.map tokCells).flatten) (hbel : Hid (Below B w0 w)) (hBw : B ≤ w.heap.size) (hbd : BdR s toks s.size line col op) (hR : Hid (lex [] line col op toks = R)) :
    rscanBody.wp Tryd.prog (Exit.then (fun a' w' => RInv s w0 B R a' w' ∧ RMu s a' w' < RMu s (frR s v line col op s.size u) w) Q) (frR s v line col op s.size u) w := by
  have b1 := hbd.size
  have HO := Lib.hid hown
  have HBD := Lib.hid hbd
  have hexit' := Lib.hid hexit
  clear hbd hown hexit
  conv => arg 2; whnf
  unfold frR
  go_wp2
  exact hexit'.out _ _ ⟨toks, line, col, op, v, rfl, HO.out, hbel.out, hBw, HBD.out, hR.out⟩

theorem rscan_round (s : ByteArray) (w0 : World) (B : Nat) (R : Scanned) (hB : Hid (w0.heap.size = B)) (Q : Exit → Act → World → Prop)
    (hret : ∀ a w, bodyPost Tryd.prog Tryd.f38 (ScanPost w0 R) .ret a w → Q .ret a w) (hexit : ∀ a w, RExit s w0 B R a w → Q (.exit 0) a w)
    (a : Act) (w : World) (h : RInv s w0 B R a w) : rscanBody.wp Tryd.prog (Exit.then (fun a' w' => RInv s w0 B R a' w' ∧ RMu s a' w' < RMu s a w) Q) a w := by
  obtain ⟨toks, i, line, col, op, v, ha, hown, hbel, hBw, hbd, hR⟩ := h
  rw [ha]
  generalize slots a = u
  by_cases hi : i < s.size
  · by_cases h1 : s[i].toNat = 32
    · exact rscan_space s w0 B R w u toks i line col op v hB Q hret hown hbel hBw hbd hi h1 hR
    by_cases h2 : s[i].toNat = 9
    · exact rscan_tab s w0 B R w u toks i line col op v hB Q hret hown hbel hBw hbd hi h2 hR
    by_cases h3 : s[i].toNat = 59
    · exact rscan_semi s w0 B R w u toks i line col op v hB Q hret hown hbel hBw hbd hi h3 hR
    by_cases h4 : s[i].toNat = 35
    · exact rscan_hash s w0 B R w u toks i line col op v hB Q hret hown hbel hBw hbd hi h4 hR
    by_cases h5 : s[i].toNat = 10
    · exact rscan_line s w0 B R w u toks i line col op v hB Q hret hown hbel hBw hbd hi h5 hR
    by_cases h6 : s[i].toNat = 61
    · exact rscan_equal s w0 B R w u toks i line col op v hB Q hret hown hbel hBw hbd hi h6 hR
    cases hp : isPart (s[i].toNat : Int)
    · exact rscan_other s w0 B R w u toks i line col op v hB Q hret hown hbel hBw hbd hi ⟨⟨h1, h2, h3, h4, h5, h6⟩, hp⟩ hR
    · rw [isPart_split] at hp
      cases hd : isDig (s[i].toNat : Int)
      · exact rscan_letter s w0 B R w u toks i line col op v hB Q hret hown hbel hBw hbd hi ⟨⟨h1, h2, h3, h4, h5, h6⟩, by simpa [hd] using hp, hd⟩ hR
      · refine rscan_digit s w0 B R w u toks i line col op v hB Q hret hown hbel hBw hbd hi ⟨⟨h1, h2, h3, h4, h5, h6⟩, ?_, hd⟩ hR
        unfold isDig at hd
        unfold isLetU isLet
        simp at hd ⊢
        omega
  · have hi2 : i = s.size := by have := hbd.at_; omega
    subst hi2
    exact rscan_last s w0 B R w u toks line col op v Q hexit hown hbel hBw hbd (by rw [drop_end s s.size (Nat.le_refl _)] at hR; exact hR)

set_option maxRecDepth 100000 in
set_option maxHeartbeats 1000000 in
theorem rscan_big (s : ByteArray) (w : World) (hs : 4096 < s.size) :
    Calls Tryd.prog 38 #[.string s] w (ScanPost w ⟨[], 0, 0, 7⟩) := by
  go_enter Tryd.func38, Tryd.ntmps38
  go_wp2
  refine bodyPost_ret (results_tmp4 rfl _ _ _) rfl ?_
  exact ⟨_, rfl, SliceAt.nil, Below.refl _ _⟩

set_option maxRecDepth 100000 in
set_option maxHeartbeats 1000000 in
theorem rscan_small (s : ByteArray) (w : World) (hs : s.size ≤ 4096) :
    Calls Tryd.prog 38 #[.string s] w (ScanPost w (lex s.data.toList 1 1 false [])) := by
  obtain ⟨R, hR⟩ : ∃ R, R = lex s.data.toList 1 1 false [] := ⟨_, rfl⟩
  rw [← hR]
  obtain ⟨B, hB⟩ : ∃ B, w.heap.size = B := ⟨_, rfl⟩
  have HR := Lib.hid hR
  have HB := Lib.hid hB
  clear hR hB
  go_enter Tryd.func38, Tryd.ntmps38
  go_wp2
  rename_i K hK
  refine wp_loop (RInv s w B R) (RMu s) ?_ ?_
  · exact ⟨[], 0, 1, 1, false, _, rfl, World.ownsRow_nil _ _ _ _, Below.refl _ _, by rw [HB.out]; exact Nat.le_refl _, ⟨hs, by omega, by omega, by omega, by simp⟩, HR.out.symm⟩
  · intro a' w' hI
    refine rscan_round s w B R HB _ ?_ ?_ a' w' hI
    · intro a w h
      exact h
    · rintro a w1 ⟨toks, line, col, op, v, ha, hown, hbel, hBw, hbd, hl⟩
      rw [ha]
      generalize slots a = u
      have b1 := hbd.size
      have b2 := hbd.toks
      have HO := Lib.hid hown
      have HBl := Lib.hid hbel
      have HL := Lib.hid hl
      clear hown hbel hl hbd hI
      simp only [Exit.inBlock, Exit.then, if_true]
      refine hK _ _ ?_
      unfold frR
      cases op
      · go_wp2
        refine bodyPost_ret (results_tmp4 rfl _ _ _) rfl ?_
        rw [← HL.out, lex_nil]
        exact ⟨_, rfl, tokens_of HO.out, by rw [HB.out]; exact HBl.out⟩
      · go_wp2_with (at_builtin; refine wpList_push [.int .i64 3, .string ⟨#[]⟩, .int .i64 line, .int .i64 col] rfl _ _ 54 rfl B 64 _ 4 40 Tryd.underlying54 infoTok rfl (by omega) _ _ _ HO.out rfl rfl rfl rfl (by unfold maxLen; omega) (by omega) hBw ?_; intro g cap w2 hown1 hgrow hg1 hg2; have hb1 := Below.of_grown hgrow HO.out hBw; have hsz := hb1.size; have HO1 := Lib.hid hown1; have HB1 := Lib.hid (HBl.out.trans hb1); clear hown1 hgrow hb1)
        refine bodyPost_ret (results_tmp4 rfl _ _ _) rfl ?_
        rw [← HL.out, lex_nil]
        exact ⟨_, rfl, tokens_of (row_snoc ⟨3, [], line, col⟩ HO1.out), by rw [HB.out]; exact HB1.out⟩

/-- WHAT THE REFERENCE's SCANNER COMPUTES. -/
theorem rscan_any (s : ByteArray) (w : World) : Calls Tryd.prog 38 #[.string s] w (ScanPost w (scanned s.data.toList)) := by
  have hl : s.data.toList.length = s.size := by simp
  unfold scanned
  rw [hl]
  split
  · rename_i h; exact rscan_big s w h
  · rename_i h; exact rscan_small s w (by omega)
end Go.Proofs.YtpnfdmajpkpjoaaDoor

