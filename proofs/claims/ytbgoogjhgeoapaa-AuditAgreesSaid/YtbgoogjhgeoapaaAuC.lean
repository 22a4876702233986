/- Walks: audit.Check. -/
import Derived.Test.YtbgoogjhgeoapaaAuN
set_option linter.unusedVariables false
set_option linter.unusedSimpArgs false
set_option linter.unusedSectionVars false
namespace Go.Proofs.Ytbgoogjhgeoapaa
open Go.RowKit
variable [Base]

def PairQ (r : Int × Int) (w : World) (e : Ending) (w' : World) : Prop := e = .returned (.tuple #[iv r.1, iv r.2]) ∧ Below w.heap.size w w'
theorem cells7' {b : Nat} {w : World} {v0 v1 v2 v3 v4 v5 v6 : Value} {t : TypeId} (h : w.heap[b]? = some (.cells #[v0, v1, v2, v3, v4, v5, v6] t (0, 0))) :
    w.cell? ⟨b, 0, none⟩ = some v0 ∧ w.cell? ⟨b, 1, none⟩ = some v1 ∧ w.cell? ⟨b, 2, none⟩ = some v2 ∧ w.cell? ⟨b, 3, none⟩ = some v3 ∧ w.cell? ⟨b, 4, none⟩ = some v4 ∧ w.cell? ⟨b, 5, none⟩ = some v5 ∧ w.cell? ⟨b, 6, none⟩ = some v6 := by
  have := (lies_cells h).1
  exact ⟨this 0, this 1, this 2, this 3, this 4, this 5, this 6⟩
theorem cvalid_eq {c : CV} {r : Bool} (h : cfgB c = r) (w : World) : Calls Try.prog 20 #[cfgV c] w (BoolQ r w) := h ▸ cvalid_any c w
theorem auditGo_drop {c : CV} {l : List TV} {x : TV} {i : Nat} (h : l[i]? = some x) (s : Aud) : auditGo c s i (l.drop i) = match entryA c s x with | none => ((i : Int), 15) | some s' => auditGo c s' (i + 1) (l.drop (i + 1)) := by
  obtain ⟨h1, rfl⟩ := List.getElem?_eq_some_iff.1 h
  rw [List.drop_eq_getElem_cons h1]
  rfl
theorem auditGo_end {c : CV} {l : List TV} {i : Nat} (h : l.length ≤ i) (s : Aud) : auditGo c s i (l.drop i) = ((i : Int), 0) := by
  rw [List.drop_eq_nil_of_le h]; rfl
/-- The audit's state at the start. -/
theorem AudAt.start {B km b : Nat} {w : World} {c : CV} (hm : MapP w km 0 (fun _ => none)) (hb : w.heap[b]? = some (.cells #[iv c.p, iv c.pe, iv c.me, iv c.no, iv c.ed, iv c.ba, iv c.ag, .map (some km), iv 0, .bool false] 62 (0, 0))) (h1 : B ≤ km) (h2 : B ≤ b) (hne : km ≠ b) :
    AudAt B 0 0 w b c ⟨[], 0, false⟩ km (fun q => if q = b then some (0, 0) else if q = km then some (1, 0) else none) (fun _ => 0) (fun _ => 0) := by
  have hlb := lt_heap hb
  have hlk := MapF.lt hm
  refine ⟨hb, ?_, (by intro a h; cases h), (by intro y h; cases h), if_pos rfl, ?_, (by intro a h; cases h), (by intro a h; cases h), fun q hq => ?_, fun q hq => ?_, (by intro a h; cases h), by omega⟩
  · exact MapF.congr hm (fun k => rfl) (fun k => rfl)
  · show (if km = b then _ else if km = km then _ else _) = _
    rw [if_neg hne, if_pos rfl]
  · show (if q = b then _ else if q = km then _ else _) = none
    rw [if_neg (by omega), if_neg (by omega)]
  · show (if q = b then _ else if q = km then _ else _) = none
    rw [if_neg (by omega), if_neg (by omega)]
set_option maxRecDepth 100000 in
set_option maxHeartbeats 4000000 in
theorem check_any (c : CV) (l : List TV) (v : Value) (w : World) (h : TurnsAt w v l) : Calls Try.prog 9 #[cfgV c, v] w (PairQ (auditT c l) w) := by
  have HT := Lib.hid h
  obtain ⟨ea, ec, rfl, hn, -, -, hc⟩ := h.cell
  have HC := Lib.hid hc
  obtain ⟨n, hl⟩ : ∃ n, l.length = n := ⟨_, rfl⟩
  rw [hl] at hn HT ⊢
  have HL := Lib.hid hl
  clear hc h hl
  unfold maxLen at hn
  unfold cfgV
  obtain ⟨W, hW⟩ : ∃ W, w.alloc (.cells #[iv c.p, iv c.pe, iv c.me, iv c.no, iv c.ed, iv c.ba, iv c.ag] 26) = W := ⟨_, rfl⟩
  have HB := Lib.hid (show W.heap[w.heap.size]? = some (.cells #[iv c.p, iv c.pe, iv c.me, iv c.no, iv c.ed, iv c.ba, iv c.ag] 26 (0, 0)) by rw [← hW]; exact heap_alloc_new _ _)
  have BW := Lib.hid (show Below w.heap.size w W by rw [← hW]; exact (Below.refl _ _).alloc (Nat.le_refl _) _)
  have HW := Lib.hid hW
  have hud : ∀ b : Bool, (undef = Value.bool b) = False := fun b => by simp [undef]
  obtain ⟨x0, x1, x2, x3, x4, x5, x6⟩ := cells7' HB.out
  clear hW
  rcases Bool.eq_false_or_eq_true (cfgB c) with hv | hv
  rotate_left
  · have HR := Lib.hid (show auditT c l = (0, 1) by unfold auditT; rw [if_pos (.inl hv)])
    rw [HR.out]
    go_enter Try.func9, Try.ntmps9
    go_wp2_with fail
    rw [show w.alloc (.cells #[iv c.p, iv c.pe, iv c.me, iv c.no, iv c.ed, iv c.ba, iv c.ag] 26) = W from HW.out]
    go_wp2_with (go_at_call 20; refine (cvalid_eq hv _).mono ?_; rintro e w1 ⟨rfl, b1⟩; have B1 := Lib.hid b1; clear b1)
    go_ret2
    exact ⟨rfl, BW.out.trans (B1.out.mono BW.out.size)⟩
  rcases Bool.eq_false_or_eq_true (logB l) with hlg | hlg
  rotate_left
  · have HR := Lib.hid (show auditT c l = (0, 1) by unfold auditT; rw [if_pos (.inr hlg)])
    rw [HR.out]
    go_enter Try.func9, Try.ntmps9
    go_wp2_with fail
    rw [show w.alloc (.cells #[iv c.p, iv c.pe, iv c.me, iv c.no, iv c.ed, iv c.ba, iv c.ag] 26) = W from HW.out]
    go_wp2_with first
      | (go_at_call 20; refine (cvalid_eq hv _).mono ?_; rintro e w1 ⟨rfl, b1⟩; have B1 := Lib.hid b1; clear b1)
      | (go_at_call 21; refine (lvalid_eq hlg _ _ ((HT.out.below BW.out).below B1.out)).mono ?_; rintro e w2 ⟨rfl, b2⟩; have B2 := Lib.hid (B1.out.trans (b2.mono B1.out.size)); clear b2)
    go_ret2
    exact ⟨rfl, BW.out.trans (B2.out.mono BW.out.size)⟩
  have HR := Lib.hid (show auditT c l = auditGo c ⟨[], 0, false⟩ 0 l by unfold auditT; rw [if_neg]; rintro (e | e); rw [hv] at e; cases e; rw [hlg] at e; cases e)
  have HLG := Lib.hid hlg
  have hlen : n ≤ 4096 := by have := logB_len hlg; have := HL.out; omega
  have hmm := @run_makeMap Try.prog
  go_enter Try.func9, Try.ntmps9
  go_wp2_with fail
  rw [show w.alloc (.cells #[iv c.p, iv c.pe, iv c.me, iv c.no, iv c.ed, iv c.ba, iv c.ag] 26) = W from HW.out]
  go_wp2_with first
    | (go_at_call 20; refine (cvalid_eq hv _).mono ?_; rintro e w1 ⟨rfl, b1⟩; have B1 := Lib.hid b1; clear b1)
    | (go_at_call 21; refine (lvalid_eq hlg _ _ ((HT.out.below BW.out).below B1.out)).mono ?_; rintro e w2 ⟨rfl, b2⟩; have B2 := Lib.hid (B1.out.trans (b2.mono B1.out.size)); have HZ2 := Lib.hid (lies_below HB.out B2.out (lt_heap HB.out)); obtain ⟨z0, z1, z2, z3, z4, z5, z6⟩ := cells7' HZ2.out; clear b2)
  obtain ⟨V, hV⟩ : ∃ V, (w2.alloc (.map #[] 0)).alloc (.cells #[iv c.p, iv c.pe, iv c.me, iv c.no, iv c.ed, iv c.ba, iv c.ag, .map (some w2.heap.size), iv 0, .bool false] 62) = V := ⟨_, rfl⟩
  rw [show (w2.alloc (.map #[] 0)).alloc (.cells #[iv c.p, iv c.pe, iv c.me, iv c.no, iv c.ed, iv c.ba, iv c.ag, .map (some w2.heap.size), .int .i64 0, .bool false] 62) = V from hV]
  have hw2 : w.heap.size ≤ w2.heap.size := Nat.le_trans BW.out.size B2.out.size
  have HA0 := Lib.hid (show AudAt w.heap.size 0 0 V (w2.heap.size + 1) c ⟨[], 0, false⟩ w2.heap.size _ (fun _ => 0) (fun _ => 0) from AudAt.start (by
    rw [← hV]
    exact MapF.block (MapF.made ptrEnc w2) (Below.heap_alloc _ _ _ (by simp))) (by rw [← hV]; exact lies_new2 _ _) hw2 (by omega) (by omega))
  have HBV := Lib.hid (show Below w.heap.size w V by rw [← hV]; exact ((BW.out.trans (B2.out.mono BW.out.size)).alloc hw2 _).alloc (by simp; omega) _)
  obtain ⟨ρ0, hρ0⟩ : ∃ r : Rho, (fun q => if q = w2.heap.size + 1 then some (0, 0) else if q = w2.heap.size then some (1, 0) else none) = r := ⟨_, rfl⟩
  rw [hρ0] at HA0
  obtain ⟨bb, hbb⟩ : ∃ b, w2.heap.size + 1 = b := ⟨_, rfl⟩
  obtain ⟨km, hkm⟩ : ∃ b, w2.heap.size = b := ⟨_, rfl⟩
  rw [hbb] at HA0 ⊢
  rw [hkm] at HA0
  clear hV hρ0 hbb hkm hw2 hmm x0 x1 x2 x3 x4 x5 x6 z0 z1 z2 z3 z4 z5 z6 hlg hv
  go_loopw [23] (fun y wr => ∃ (i : Nat) (s : Aud) (N : Nat) (ρ : Rho) (pt sm : Int → Nat), i ≤ n ∧ y = .int .i64 i ∧ N ≤ 4200 * i ∧ Hid (AudAt w.heap.size i N wr bb c s km ρ pt sm) ∧ Hid (Below w.heap.size w wr) ∧ Hid (auditT c l = auditGo c s i (l.drop i))) (fun y _ => n - (intOf y).toNat)
  case atStart => exact ⟨0, _, 0, _, _, _, Nat.zero_le _, rfl, Nat.le_refl _, HA0.out, HBV.out, HR.out⟩
  case round =>
    obtain ⟨i, s, N, ρ, pt, sm, hi, rfl, hN, HA, HBE, HF⟩ := hrel
    clear HA0 HBV HR
    by_cases hlt : i < n
    rotate_left
    · have FE := Lib.hid (HF.out.trans (auditGo_end (by have := HL.out; omega) s))
      obtain rfl : i = n := by omega
      go_wp2
      go_ret2
      exact ⟨by rw [FE.out]; rfl, HBE.out⟩
    obtain ⟨x, hx⟩ : ∃ x, l[i]? = some x := ⟨_, List.getElem?_eq_getElem (show i < l.length by have := HL.out; omega)⟩
    obtain ⟨rb, off, rfl, hrb, hcs⟩ := HC.out i x hx
    have g0 := (HBE.out.cell (p := ⟨rb, off + i * 5 + 0, none⟩) hrb).trans (hcs 0 (by omega))
    have g1 := (HBE.out.cell (p := ⟨rb, off + i * 5 + 1, none⟩) hrb).trans (hcs 1 (by omega))
    have g2 := (HBE.out.cell (p := ⟨rb, off + i * 5 + 2, none⟩) hrb).trans (hcs 2 (by omega))
    have g3 := (HBE.out.cell (p := ⟨rb, off + i * 5 + 3, none⟩) hrb).trans (hcs 3 (by omega))
    have g4 := (HBE.out.cell (p := ⟨rb, off + i * 5 + 4, none⟩) hrb).trans (hcs 4 (by omega))
    simp only [turnC, List.getElem?_cons_zero, List.getElem?_cons_succ, Nat.add_zero] at g0 g1 g2 g3 g4
    obtain ⟨U, hU⟩ : ∃ U, wr.alloc (.cells #[iv x.q, iv x.qu, iv x.st, iv x.co, .bool x.fin] 53) = U := ⟨_, rfl⟩
    have HX := Lib.hid (show U.heap[wr.heap.size]? = some (.cells #[iv x.q, iv x.qu, iv x.st, iv x.co, .bool x.fin] 53 (0, 0)) by rw [← hU]; exact heap_alloc_new _ _)
    obtain ⟨x0, x1, x2, x3, x4⟩ := cells5 HX.out
    have HAU := Lib.hid (show AudAt w.heap.size i N U bb c s km ρ pt sm by rw [← hU]; exact HA.out.alloc _)
    have HBU := Lib.hid (show Below w.heap.size w U by rw [← hU]; exact HBE.out.alloc HBE.out.size _)
    have HU := Lib.hid hU
    have HTX := Lib.hid (logB_turn HLG.out hx)
    have FD := Lib.hid (HF.out.trans (auditGo_drop hx s))
    clear hcs hx hU HF HA HC
    go_wp2_with fail
    rw [show wr.alloc (.cells #[iv x.q, iv x.qu, iv x.st, iv x.co, .bool x.fin] 53) = U from HU.out]
    go_wp2_with (go_at_call 22; refine (entry_any HAU.out x HTX.out (by omega) (by omega)).mono ?_)
    rintro e w3 (⟨he, rfl, hf3⟩ | ⟨s3, N3, ρ3, pt3, sm3, he, rfl, ha3, hf3, hr3, hn3⟩)
    · have FE := Lib.hid (show auditT c l = ((i : Int), 15) by rw [FD.out, he])
      have B3 := Lib.hid (HBU.out.trans (hf3.below HAU.out.out HAU.out.big))
      clear he hf3
      go_wp2
      go_ret2
      exact ⟨by rw [FE.out]; rfl, B3.out⟩
    · have FE := Lib.hid (show auditT c l = auditGo c s3 (i + 1) (l.drop (i + 1)) by rw [FD.out, he])
      have B3 := Lib.hid (HBU.out.trans (hf3.below HAU.out.out HAU.out.big))
      have A3 := Lib.hid ha3
      have hn4 : N3 ≤ 4200 * (i + 1) := by omega
      clear he hf3 ha3 hr3 hn3
      go_wp2
      go_roundw
      case rel => exact ⟨i + 1, s3, N3, ρ3, pt3, sm3, by omega, by go_num, hn4, A3, B3, FE⟩
      case measure => simp [intOf]; omega
end Go.Proofs.Ytbgoogjhgeoapaa
