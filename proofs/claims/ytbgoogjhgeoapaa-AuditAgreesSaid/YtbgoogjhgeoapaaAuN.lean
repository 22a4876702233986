/- Walks: the audit's entry. Printed by wip/gen_aun.py. -/
import Derived.Test.YtbgoogjhgeoapaaAuB
import Derived.Test.YtbgoogjhgeoapaaAuW5
set_option linter.unusedVariables false
set_option linter.unusedSimpArgs false
set_option linter.unusedSectionVars false
namespace Go.Proofs.Ytbgoogjhgeoapaa
open Go.RowKit
variable [Base]

def EntQ (B M N : Nat) (w : World) (b : Nat) (c : CV) (s : Aud) (km : Nat) (ρ : Rho) (x : TV) (e : Ending) (w' : World) : Prop :=
  (entryA c s x = none ∧ e = .returned (.bool false) ∧ Fr ρ w w') ∨
  ∃ s' N' ρ' pt' sm', entryA c s x = some s' ∧ e = .returned (.bool true) ∧ AudAt B (M + 1) N' w' b c s' km ρ' pt' sm' ∧ Fr ρ w w' ∧ Same ρ ρ' w.heap.size ∧ N' ≤ N + M + 3
theorem leave_eq {x : TV} {r : Bool} (h : leaveB x = r) (w : World) : Calls Try.prog 36 #[turnV x] w (BoolQ r w) := h ▸ leave_any x w
theorem goneAcc_put {l : List Acc} (hu : Uq l) {q : Int} (hs : (accOf l q).isSome) : goneAcc l q = putAcc l { getAcc l q with gone := true } := by
  unfold goneAcc putAcc
  refine List.map_congr_left fun y hy => ?_
  have h1 : (getAcc l q).id = q := getAcc_id l q
  show (if y.id = q then { y with gone := true } else y) = if y.id = (getAcc l q).id then _ else y
  rw [h1]
  by_cases e : y.id = q
  · rw [if_pos e, if_pos e]
    have := hu.get hy
    rw [e] at this
    rw [this]
  · rw [if_neg e, if_neg e]
theorem cells10_set {cs : Array Value} {w : World} {b : Nat} {t : TypeId} {v0 v1 v2 v3 v4 v5 v6 v7 v8 v9 : Value} (h : w.heap[b]? = some (.cells #[v0, v1, v2, v3, v4, v5, v6, v7, v8, v9] t (0, 0))) (u8 u9 : Value) :
    ((w.setCell ⟨b, 8, none⟩ u8).setCell ⟨b, 9, none⟩ u9).heap[b]? = some (.cells #[v0, v1, v2, v3, v4, v5, v6, v7, u8, u9] t (0, 0)) := set_cells (set_cells h)
theorem begin_some {c : CV} {l l' : List Acc} {x : TV} (h : beginA c l x = some l') (hs : (accOf l x.q).isSome) : (accOf l' x.q).isSome := by
  unfold beginA at h
  simp only at h
  split at h
  · cases h
  · split at h
    · cases h
    · cases h
      exact isSome_map (putAcc_id _) (isSome_map (bumpAcc_id _) hs)
theorem OnlyAt.trans {p : Nat} {a b' c' : World} (h : OnlyAt p a b') (k : OnlyAt p b' c') : OnlyAt p a c' := ⟨k.os.trans h.os, k.tape.trans h.tape, k.output.trans h.output, k.size.trans h.size, fun q hq => (k.block q hq).trans (h.block q hq)⟩
/-- Behind an entry's cost. -/
theorem AudAt.spent {B M N : Nat} {w3 V3 V5 : World} {b : Nat} {c : CV} {s : Aud} {l : List Acc} {km : Nat} {ρ : Rho} {pt sm : Int → Nat} (h : AudAt B M N w3 b c { s with known := l } km ρ pt sm) {q : Int} (hs : (accOf l q).isSome) {p : Nat} (hp : pt q = p) {a : Acc} (ha : getAcc l q = a)
    {n0 n1 n2 n3 : Bool} {sv : Value} {df last : Int} {fin op : Bool} (he1 : a.may = [n0, n1, n2, n3]) (he2 : w3.heap[p]? = some (.cells #[iv a.turns, .bool n0, .bool n1, .bool n2, .bool n3, iv a.df, .bool a.gone, sv] 78 (0, 0)))
    (he3 : (a.turns = 0 ∧ sv = .map none) ∨ (0 < a.turns ∧ sv = .map (some (sm q)) ∧ MapI w3 (sm q) N a.since)) (hac : AccAt w3 N p (sm q) a)
    (h3 : OnlyAt p w3 V3) (hc : V3.heap[p]? = some (.cells #[iv a.turns, .bool n0, .bool n1, .bool n2, .bool n3, iv df, .bool fin, sv] 78 (0, 0))) (hd : -7 ≤ df ∧ df ≤ 64 * (N + 1 : Nat)) (h5 : OnlyAt b V3 V5)
    (hm : V5.heap[b]? = some (.cells #[iv c.p, iv c.pe, iv c.me, iv c.no, iv c.ed, iv c.ba, iv c.ag, .map (some km), iv last, .bool op] 62 (0, 0))) :
    AudAt B M (N + 1) V5 b c ⟨putAcc l { a with df := df, gone := fin }, last, op⟩ km ρ pt sm := by
  have hid : a.id = q := by rw [← ha]; exact getAcc_id _ _
  have hg := h.get hs
  have h1 : AudAt B M (N + 1) V3 b c { s with known := putAcc l { a with df := df, gone := fin } } km ρ pt sm := by
    refine AudAt.smq (AudAt.put (m' := sm q) (ρ' := ρ) h { a with df := df, gone := fin } (by show (accOf l a.id).isSome; rw [hid]; exact hs) ?_ (Nat.le_succ N) (Nat.le_of_eq h3.size.symm) (fun r _ e _ => h3.block r (fun e2 => e (by rw [e2, ← hp, ← hid]))) (fun _ _ => rfl) (fun ht => ?_) (fun r hr => h.new r (by rw [← h3.size]; exact hr))) (fun k => ?_)
    · show AccAt V3 (N + 1) (pt a.id) (sm q) { a with df := df, gone := fin }
      rw [hid, hp]
      refine ⟨⟨n0, n1, n2, n3, sv, he1, hc, ?_⟩, ⟨hac.tu.1, by have := hac.tu.2; show a.turns ≤ _; omega⟩, hd, fun k => ⟨(hac.si k).1, by have := (hac.si k).2; show a.since k ≤ _; omega⟩⟩
      rcases he3 with e3 | ⟨e3, e4, e5⟩
      · exact .inl e3
      · refine .inr ⟨e3, e4, (e5.block (h3.block _ (fun e => ?_))).mono (Nat.le_succ N)⟩
        obtain ⟨es, cl, h1⟩ := e5.isMap
        rw [e, he2] at h1; cases h1
    · show ρ (sm q) = some (3, a.id)
      have h3 := h.rs _ hg.1
      rw [hg.2] at h3
      rw [hid]
      refine h3 ?_
      show 0 < (getAcc l q).turns
      rw [ha]; exact ht
    · show (if k = a.id then sm q else sm k) = sm k
      rw [hid]
      split
      · rename_i e; rw [e]
      · rfl
  exact AudAt.setMain h1 last op hm h5.size (fun r hr => h5.block r hr)
set_option maxRecDepth 100000 in
set_option maxHeartbeats 4000000 in
theorem entry_any {B M N : Nat} {w : World} {b : Nat} {c : CV} {s : Aud} {km : Nat} {ρ : Rho} {pt sm : Int → Nat} (h : AudAt B M N w b c s km ρ pt sm) (x : TV) (hx : turnB x = true) (hN : N + M ≤ 900000000) (hM : M ≤ 8192) :
    Calls Try.prog 22 #[pv b, turnV x] w (EntQ B M N w b c s km ρ x) := by
  unfold turnV
  obtain ⟨W, hW⟩ : ∃ W, w.alloc (.cells #[iv x.q, iv x.qu, iv x.st, iv x.co, .bool x.fin] 53) = W := ⟨_, rfl⟩
  have HX := Lib.hid (show W.heap[w.heap.size]? = some (.cells #[iv x.q, iv x.qu, iv x.st, iv x.co, .bool x.fin] 53 (0, 0)) by rw [← hW]; exact heap_alloc_new _ _)
  have HA := Lib.hid (show AudAt B M N W b c s km ρ pt sm by rw [← hW]; exact h.alloc _)
  have HRX := Lib.hid (show ρ w.heap.size = none from h.new _ (Nat.le_refl _))
  have HF0 := Lib.hid (show Fr ρ w W by rw [← hW]; exact (Fr.refl ρ w).alloc _)
  have HW := Lib.hid hW
  have HTB := Lib.hid hx
  have HTU := Lib.hid (turnB_co' hx)
  obtain ⟨xb, hxb⟩ : ∃ xb, w.heap.size = xb := ⟨_, rfl⟩
  rw [hxb] at HX HRX
  have HXB := Lib.hid hxb
  have HBIG := Lib.hid hN
  have HMB := Lib.hid hM
  obtain ⟨x0, x1, x2, x3, x4⟩ := cells5 HX.out
  clear h hx hW hN hM
  go_enter Try.func22, Try.ntmps22
  go_wp2_with fail
  rw [show w.alloc (.cells #[iv x.q, iv x.qu, iv x.st, iv x.co, .bool x.fin] 53) = W from HW.out]
  clear hxb
  refine (account_any HA.out HMB.out ⟨HTU.out.1, HTU.out.2.1⟩).mono ?_
  rintro e w1 ⟨ρ1, pt1, rfl, ha1, hf1, hr1⟩
  have HRX1 := Lib.hid (show ρ1 xb = none by rw [hr1 xb (lt_heap HX.out)]; exact HRX.out)
  have HX1 := Lib.hid (show w1.heap[xb]? = _ from (hf1.block xb (lt_heap HX.out) HRX.out).trans HX.out)
  have HF1 := Lib.hid (show Fr ρ w w1 from HF0.out.trans hf1 (fun _ _ => rfl))
  have HR1 := Lib.hid (show Same ρ ρ1 w.heap.size from fun q hq => hr1 q (Nat.lt_of_lt_of_le hq HF0.out.size))
  have HA1 := Lib.hid ha1
  have HSS := Lib.hid (isSome_ensure s.known x.q)
  obtain ⟨p, hp⟩ : ∃ p, pt1 x.q = p := ⟨_, rfl⟩
  have HP := Lib.hid hp
  rw [hp]
  clear ha1 hf1 hr1 hp x0 x1 x2 x3 x4
  obtain ⟨x0, x1, x2, x3, x4⟩ := cells5 HX1.out
  go_wp2_with fail
  rcases Bool.eq_false_or_eq_true (leaveB x) with hlv | hlv
  · refine (leave_eq hlv _).mono ?_
    rintro e w2 ⟨rfl, b2⟩
    have HA2 := Lib.hid (HA1.out.below b2)
    have HF2 := Lib.hid (HF1.out.of_below b2)
    have HX2 := Lib.hid (lies_below HX1.out b2 (lt_heap HX1.out))
    have HLV := Lib.hid hlv
    obtain ⟨hrp, hac⟩ := HA2.out.role HSS.out
    rw [HP.out] at hrp hac
    obtain ⟨a, ha⟩ : ∃ a, getAcc (ensure s.known x.q) x.q = a := ⟨_, rfl⟩
    rw [ha] at hac
    obtain ⟨n0, n1, n2, n3, sv, E1, E2, E3⟩ := hac.cells
    have HAC := Lib.hid hac
    have HGA := Lib.hid ha
    have HRP := Lib.hid hrp
    have HE1 := Lib.hid E1
    have HE2 := Lib.hid E2
    have HE3 := Lib.hid E3
    have hpb : p ≠ b := fun e => by rw [e, HA2.out.rb] at hrp; simp at hrp
    have HPB := Lib.hid hpb
    obtain ⟨d0, d1, d2, d3, d4, d5, d6, d7⟩ := cells8' E2
    have f6 := (lies_cells E2).2 6
    clear b2 hlv x0 x1 x2 x3 x4 hrp hac ha E1 E2 E3 hpb d0 d1 d2 d3 d4 d5 d7
    go_wp2_with fail
    obtain ⟨V1, hV1⟩ : ∃ V, w2.setCell ⟨p, 6, none⟩ (.bool true) = V := ⟨_, rfl⟩
    rw [hV1]
    have HO1 := Lib.hid (show OnlyAt p w2 V1 by rw [← hV1]; exact (OnlyAt.refl p w2).set 6 _)
    have HC1 := Lib.hid (show V1.heap[p]? = some (.cells #[iv a.turns, .bool n0, .bool n1, .bool n2, .bool n3, iv a.df, .bool true, sv] 78 (0, 0)) by rw [← hV1]; exact set_cells HE2.out)
    have HM1 := Lib.hid (show V1.heap[b]? = _ from (HO1.out.block b (Ne.symm HPB.out)).trans HA2.out.main)
    have hxp : xb ≠ p := fun e => by have h1 := HRX1.out; rw [e, HRP.out] at h1; cases h1
    obtain ⟨x0, x1, x2, x3, x4⟩ := cells5 ((HO1.out.block xb hxp).trans HX2.out)
    obtain ⟨y5, y6, y7, y8, y9⟩ := cells10 HM1.out
    have g9 := (lies_cells HM1.out).2 9
    obtain ⟨op0, hop⟩ : ∃ o, s.op = o := ⟨_, rfl⟩
    rw [hop] at y9
    have HOP := Lib.hid hop
    obtain ⟨nq, hnq⟩ : ∃ o, (x.q != s.last) = o := ⟨_, rfl⟩
    have HNQ := Lib.hid hnq
    have HV1 := Lib.hid hV1
    clear hV1 hxp x1 x2 x3 x4 y5 y6 y7 f6 d6 hop
    cases op0 with
    | true =>
      refine wp_region_D (S := fun w' => w'.cell? ⟨b, 9, none⟩ = some (.bool true) ∧ w'.cell? ⟨xb, 0, none⟩ = some (iv x.q) ∧ w'.cell? ⟨b, 8, none⟩ = some (iv s.last) ∧ w'.frozen? ⟨b, 9, none⟩ = false) (st := 16) (by kernel_rfl) ?_
      have hS0 : (fun w' : World => w'.cell? ⟨b, 9, none⟩ = some (.bool true) ∧ w'.cell? ⟨xb, 0, none⟩ = some (iv x.q) ∧ w'.cell? ⟨b, 8, none⟩ = some (iv s.last) ∧ w'.frozen? ⟨b, 9, none⟩ = false) (V1.drewN 1) := ⟨y9, x0, y8, g9⟩
      refine wpAnyT_pureD 0 (some 15) ?v1 rfl (by kernel_rfl) (by kernel_rfl) (by kernel_rfl) (by kernel_rfl) (fun _ _ _ h => h) hS0 (by kernel_rfl) rfl ?run1 ?rest1
      case run1 => intro w hS; obtain ⟨s0, s1, s2, s3⟩ := hS; go_simp; rfl
      refine wpAnyT_pureD 1 (some 16) ?v2 rfl (by kernel_rfl) (by kernel_rfl) (by kernel_rfl) (by kernel_rfl) (fun _ _ _ h => h) hS0 (by kernel_rfl) rfl ?run2 ?rest2
      case run2 => intro w hS; obtain ⟨s0, s1, s2, s3⟩ := hS; go_simp; rfl
      refine wpAnyT_pureD 2 (some 17) ?v3 rfl (by kernel_rfl) (by kernel_rfl) (by kernel_rfl) (by kernel_rfl) (fun _ _ _ h => h) hS0 (by kernel_rfl) rfl ?run3 ?rest3
      case run3 => intro w hS; obtain ⟨s0, s1, s2, s3⟩ := hS; go_simp; rfl
      refine wpAnyT_pureD 3 (some 18) ?v4 rfl (by kernel_rfl) (by kernel_rfl) (by kernel_rfl) (by kernel_rfl) (fun _ _ _ h => h) hS0 (by kernel_rfl) rfl ?run4 ?rest4
      case run4 => intro w hS; obtain ⟨s0, s1, s2, s3⟩ := hS; go_simp; rfl
      refine wpAnyT_pureD 4 (some 19) ?v5 rfl (by kernel_rfl) (by kernel_rfl) (by kernel_rfl) (by kernel_rfl) (fun _ _ _ h => h) hS0 (by kernel_rfl) rfl ?run5 ?rest5
      case run5 => intro w hS; obtain ⟨s0, s1, s2, s3⟩ := hS; go_simp; rfl
      refine wpAnyT_pureD 5 (some 20) ?v6 rfl (by kernel_rfl) (by kernel_rfl) (by kernel_rfl) (by kernel_rfl) (fun _ _ _ h => h) hS0 (by kernel_rfl) rfl ?run6 ?rest6
      case run6 => intro w hS; obtain ⟨s0, s1, s2, s3⟩ := hS; go_simp; rfl
      refine wpAnyT_pureD 6 (some 21) ?v7 rfl (by kernel_rfl) (by kernel_rfl) (by kernel_rfl) (by kernel_rfl) (fun _ _ _ h => h) hS0 (by kernel_rfl) rfl ?run7 ?rest7
      case run7 => intro w hS; obtain ⟨s0, s1, s2, s3⟩ := hS; go_simp; rfl
      refine wpAnyT_pureD 7 (some 22) ?v8 rfl (by kernel_rfl) (by kernel_rfl) (by kernel_rfl) (by kernel_rfl) (fun _ _ _ h => h) hS0 (by kernel_rfl) rfl ?run8 ?rest8
      case run8 => intro w hS; obtain ⟨s0, s1, s2, s3⟩ := hS; go_simp; rfl
      refine wpAnyT_pureD 8 (some 23) ?v9 rfl (by kernel_rfl) (by kernel_rfl) (by kernel_rfl) (by kernel_rfl) (fun _ _ _ h => h) hS0 (by kernel_rfl) rfl ?run9 ?rest9
      case run9 => intro w hS; obtain ⟨s0, s1, s2, s3⟩ := hS; go_simp; rfl
      refine wpAnyT_pureD 9 (some 24) ?v10 rfl (by kernel_rfl) (by kernel_rfl) (by kernel_rfl) (by kernel_rfl) (fun _ _ _ h => h) hS0 (by kernel_rfl) rfl ?run10 ?rest10
      case run10 => intro w hS; obtain ⟨s0, s1, s2, s3⟩ := hS; go_simp; rfl
      refine wpAnyT_pureD 10 (some 25) ?v11 rfl (by kernel_rfl) (by kernel_rfl) (by kernel_rfl) (by kernel_rfl) (fun _ _ _ h => h) hS0 (by kernel_rfl) rfl ?run11 ?rest11
      case run11 => intro w hS; obtain ⟨s0, s1, s2, s3⟩ := hS; go_simp; rfl
      refine wpAnyT_pureD 11 (some 26) ?v12 rfl (by kernel_rfl) (by kernel_rfl) (by kernel_rfl) (by kernel_rfl) (fun _ _ _ h => h) hS0 (by kernel_rfl) rfl ?run12 ?rest12
      case run12 => intro w hS; obtain ⟨s0, s1, s2, s3⟩ := hS; go_simp; rfl
      refine wpAnyT_pureD 12 (some 27) ?v13 rfl (by kernel_rfl) (by kernel_rfl) (by kernel_rfl) (by kernel_rfl) (fun _ _ _ h => h) hS0 (by kernel_rfl) rfl ?run13 ?rest13
      case run13 => intro w hS; obtain ⟨s0, s1, s2, s3⟩ := hS; go_simp; rfl
      refine wpAnyT_pureD 13 (some 28) ?v14 rfl (by kernel_rfl) (by kernel_rfl) (by kernel_rfl) (by kernel_rfl) (fun _ _ _ h => h) hS0 (by kernel_rfl) rfl ?run14 ?rest14
      case run14 => intro w hS; obtain ⟨s0, s1, s2, s3⟩ := hS; go_simp; rfl
      refine wpAnyT_pureC 14 (some 29) [15] ?v15 rfl (by kernel_rfl) (by kernel_rfl) (by kernel_rfl) (by kernel_rfl) (fun _ _ _ h => h) hS0 (by kernel_rfl) rfl ?run15 ?rest15
      case run15 => intro w hS; obtain ⟨s0, s1, s2, s3⟩ := hS; go_simp; rfl
      refine wpAnyT_pureD 15 (some 30) ?v16 rfl (by kernel_rfl) (by kernel_rfl) (by kernel_rfl) (by kernel_rfl) (fun _ _ _ h => h) hS0 (by kernel_rfl) rfl ?run16 ?rest16
      case run16 => intro w hS; obtain ⟨s0, s1, s2, s3⟩ := hS; go_simp; rfl
      obtain ⟨s0, s1, s2, s3⟩ := hS0
      refine wpAnyT_step 16 none ?ws17 rfl (by kernel_rfl) (by kernel_rfl) ?rs17 rfl (fun h => absurd rfl h) ?_
      case rs17 => go_simp; rfl
      refine wpAnyT_done (by kernel_rfl) ?_ _
      obtain ⟨V2, hV2⟩ : ∃ V, (V1.drewN 1).setCell ⟨b, 9, none⟩ (.bool nq) = V := ⟨_, rfl⟩
      generalize hA : Act.put _ _ _ = A0
      simp only [put_mk, put_no, List.setIfInBounds_toArray, List.set_cons_succ, List.set_cons_zero] at hA
      subst hA
      rw [hV2]
      have HV2 := Lib.hid hV2
      clear hV2 g9 x0 y8 y9
      go_wp2
      go_ret
      have hO2 : OnlyAt b V1 V2 := by rw [← HV2.out]; exact ((OnlyAt.refl b V1).drewN 1).set 9 _
      refine .inr ⟨⟨goneAcc (ensure s.known x.q) x.q, s.last, nq⟩, N + 1, ρ1, pt1, sm, ?_, rfl, ?_, ?_, HR1.out, by omega⟩
      · unfold entryA
        simp only [HLV.out, if_true, HOP.out]
        first
          | rfl
          | (rw [← HNQ.out]; simp [bne]; done)
          | (rw [← HNQ.out]; simp [bne]; rfl)
      · rw [goneAcc_put HA2.out.uq HSS.out, HGA.out]
        refine AudAt.spent (df := a.df) HA2.out HSS.out HP.out HGA.out HE1.out HE2.out HE3.out HAC.out HO1.out HC1.out ⟨HAC.out.df.1, by have := HAC.out.df.2; omega⟩ hO2 ?_
        rw [← HV2.out]
        exact set_cells HM1.out
      · exact HF2.out.trans (((Fr.refl ρ1 w2).only HO1.out (by rw [HRP.out]; simp)).only hO2 (by rw [HA2.out.rb]; simp)) HR1.out
    | false =>
      refine wp_region_D (S := fun w' => w'.cell? ⟨b, 9, none⟩ = some (.bool false) ∧ w'.cell? ⟨xb, 0, none⟩ = some (iv x.q) ∧ w'.cell? ⟨b, 8, none⟩ = some (iv s.last) ∧ w'.frozen? ⟨b, 9, none⟩ = false) (st := 16) (by kernel_rfl) ?_
      have hS0 : (fun w' : World => w'.cell? ⟨b, 9, none⟩ = some (.bool false) ∧ w'.cell? ⟨xb, 0, none⟩ = some (iv x.q) ∧ w'.cell? ⟨b, 8, none⟩ = some (iv s.last) ∧ w'.frozen? ⟨b, 9, none⟩ = false) (V1.drewN 1) := ⟨y9, x0, y8, g9⟩
      refine wpAnyT_pureD 0 (some 15) ?v18 rfl (by kernel_rfl) (by kernel_rfl) (by kernel_rfl) (by kernel_rfl) (fun _ _ _ h => h) hS0 (by kernel_rfl) rfl ?run18 ?rest18
      case run18 => intro w hS; obtain ⟨s0, s1, s2, s3⟩ := hS; go_simp; rfl
      refine wpAnyT_pureD 1 (some 16) ?v19 rfl (by kernel_rfl) (by kernel_rfl) (by kernel_rfl) (by kernel_rfl) (fun _ _ _ h => h) hS0 (by kernel_rfl) rfl ?run19 ?rest19
      case run19 => intro w hS; obtain ⟨s0, s1, s2, s3⟩ := hS; go_simp; rfl
      refine wpAnyT_pureD 2 (some 17) ?v20 rfl (by kernel_rfl) (by kernel_rfl) (by kernel_rfl) (by kernel_rfl) (fun _ _ _ h => h) hS0 (by kernel_rfl) rfl ?run20 ?rest20
      case run20 => intro w hS; obtain ⟨s0, s1, s2, s3⟩ := hS; go_simp; rfl
      refine wpAnyT_pureD 3 (some 18) ?v21 rfl (by kernel_rfl) (by kernel_rfl) (by kernel_rfl) (by kernel_rfl) (fun _ _ _ h => h) hS0 (by kernel_rfl) rfl ?run21 ?rest21
      case run21 => intro w hS; obtain ⟨s0, s1, s2, s3⟩ := hS; go_simp; rfl
      refine wpAnyT_pureD 4 (some 19) ?v22 rfl (by kernel_rfl) (by kernel_rfl) (by kernel_rfl) (by kernel_rfl) (fun _ _ _ h => h) hS0 (by kernel_rfl) rfl ?run22 ?rest22
      case run22 => intro w hS; obtain ⟨s0, s1, s2, s3⟩ := hS; go_simp; rfl
      refine wpAnyT_pureD 5 (some 20) ?v23 rfl (by kernel_rfl) (by kernel_rfl) (by kernel_rfl) (by kernel_rfl) (fun _ _ _ h => h) hS0 (by kernel_rfl) rfl ?run23 ?rest23
      case run23 => intro w hS; obtain ⟨s0, s1, s2, s3⟩ := hS; go_simp; rfl
      refine wpAnyT_skip 6 (some 21) rfl (by kernel_rfl) (by kernel_rfl) (by kernel_rfl) (by kernel_rfl) (fun _ _ _ h => h) hS0 (by kernel_rfl) rfl ?_
      refine wpAnyT_skip 7 (some 22) rfl (by kernel_rfl) (by kernel_rfl) (by kernel_rfl) (by kernel_rfl) (fun _ _ _ h => h) hS0 (by kernel_rfl) rfl ?_
      refine wpAnyT_skip 8 (some 23) rfl (by kernel_rfl) (by kernel_rfl) (by kernel_rfl) (by kernel_rfl) (fun _ _ _ h => h) hS0 (by kernel_rfl) rfl ?_
      refine wpAnyT_skip 9 (some 24) rfl (by kernel_rfl) (by kernel_rfl) (by kernel_rfl) (by kernel_rfl) (fun _ _ _ h => h) hS0 (by kernel_rfl) rfl ?_
      refine wpAnyT_skip 10 (some 25) rfl (by kernel_rfl) (by kernel_rfl) (by kernel_rfl) (by kernel_rfl) (fun _ _ _ h => h) hS0 (by kernel_rfl) rfl ?_
      refine wpAnyT_skip 11 (some 26) rfl (by kernel_rfl) (by kernel_rfl) (by kernel_rfl) (by kernel_rfl) (fun _ _ _ h => h) hS0 (by kernel_rfl) rfl ?_
      refine wpAnyT_skip 12 (some 27) rfl (by kernel_rfl) (by kernel_rfl) (by kernel_rfl) (by kernel_rfl) (fun _ _ _ h => h) hS0 (by kernel_rfl) rfl ?_
      refine wpAnyT_pureD 13 (some 28) ?v31 rfl (by kernel_rfl) (by kernel_rfl) (by kernel_rfl) (by kernel_rfl) (fun _ _ _ h => h) hS0 (by kernel_rfl) rfl ?run31 ?rest31
      case run31 => intro w hS; obtain ⟨s0, s1, s2, s3⟩ := hS; go_simp; rfl
      refine wpAnyT_pureC 14 (some 29) [15] ?v32 rfl (by kernel_rfl) (by kernel_rfl) (by kernel_rfl) (by kernel_rfl) (fun _ _ _ h => h) hS0 (by kernel_rfl) rfl ?run32 ?rest32
      case run32 => intro w hS; obtain ⟨s0, s1, s2, s3⟩ := hS; go_simp; rfl
      refine wpAnyT_pureD 15 (some 30) ?v33 rfl (by kernel_rfl) (by kernel_rfl) (by kernel_rfl) (by kernel_rfl) (fun _ _ _ h => h) hS0 (by kernel_rfl) rfl ?run33 ?rest33
      case run33 => intro w hS; obtain ⟨s0, s1, s2, s3⟩ := hS; go_simp; rfl
      obtain ⟨s0, s1, s2, s3⟩ := hS0
      refine wpAnyT_step 16 none ?ws34 rfl (by kernel_rfl) (by kernel_rfl) ?rs34 rfl (fun h => absurd rfl h) ?_
      case rs34 => go_simp; rfl
      refine wpAnyT_done (by kernel_rfl) ?_ _
      obtain ⟨V2, hV2⟩ : ∃ V, (V1.drewN 1).setCell ⟨b, 9, none⟩ (.bool false) = V := ⟨_, rfl⟩
      generalize hA : Act.put _ _ _ = A0
      simp only [put_mk, put_no, List.setIfInBounds_toArray, List.set_cons_succ, List.set_cons_zero] at hA
      subst hA
      rw [hV2]
      have HV2 := Lib.hid hV2
      clear hV2 g9 x0 y8 y9
      go_wp2
      go_ret
      have hO2 : OnlyAt b V1 V2 := by rw [← HV2.out]; exact ((OnlyAt.refl b V1).drewN 1).set 9 _
      refine .inr ⟨⟨goneAcc (ensure s.known x.q) x.q, s.last, false⟩, N + 1, ρ1, pt1, sm, ?_, rfl, ?_, ?_, HR1.out, by omega⟩
      · unfold entryA
        simp only [HLV.out, if_true, HOP.out]
        first
          | rfl
          | (rw [← HNQ.out]; simp [bne]; done)
          | (rw [← HNQ.out]; simp [bne]; rfl)
      · rw [goneAcc_put HA2.out.uq HSS.out, HGA.out]
        refine AudAt.spent (df := a.df) HA2.out HSS.out HP.out HGA.out HE1.out HE2.out HE3.out HAC.out HO1.out HC1.out ⟨HAC.out.df.1, by have := HAC.out.df.2; omega⟩ hO2 ?_
        rw [← HV2.out]
        exact set_cells HM1.out
      · exact HF2.out.trans (((Fr.refl ρ1 w2).only HO1.out (by rw [HRP.out]; simp)).only hO2 (by rw [HA2.out.rb]; simp)) HR1.out
  · refine (leave_eq hlv _).mono ?_
    rintro e w2 ⟨rfl, b2⟩
    have HA2 := Lib.hid (HA1.out.below b2)
    have HF2 := Lib.hid (HF1.out.of_below b2)
    have HX2 := Lib.hid (lies_below HX1.out b2 (lt_heap HX1.out))
    have HLV := Lib.hid hlv
    obtain ⟨hrp, hac⟩ := HA2.out.role HSS.out
    rw [HP.out] at hrp hac
    have HRP := Lib.hid hrp
    have hpb : p ≠ b := fun e => by rw [e, HA2.out.rb] at hrp; simp at hrp
    have HPB := Lib.hid hpb
    have hxp : xb ≠ p := fun e => by have h1 := HRX1.out; rw [e, hrp] at h1; cases h1
    have HXP := Lib.hid hxp
    have hxbb : xb ≠ b := fun e => by have h1 := HRX1.out; rw [e, HA2.out.rb] at h1; cases h1
    have HXBB := Lib.hid hxbb
    clear b2 hlv x0 x1 x2 x3 x4 hrp hac hpb hxp hxbb
    obtain ⟨x0, x1, x2, x3, x4⟩ := cells5 HX2.out
    obtain ⟨y5, y6, y7, y8, y9⟩ := cells10 HA2.out.main
    obtain ⟨op0, hop⟩ : ∃ o, s.op = o := ⟨_, rfl⟩
    have y9' : w2.cell? ⟨b, 9, none⟩ = some (.bool op0) := by rw [← hop]; exact y9
    have HOP := Lib.hid hop
    clear y9 hop
    rcases (by omega : 0 < x.qu ∨ x.qu ≤ 0) with hqu | hqu
    · have HQU := Lib.hid hqu
      cases op0 with
      | true =>
        go_wp2
        go_ret
        exact .inl ⟨by unfold entryA; simp only [HLV.out, HOP.out, HQU.out, if_true, Bool.false_eq_true, if_false], rfl, HF2.out⟩
      | false =>
        go_wp2_with (go_at_call 37; rw [← HP.out]; refine (begin_any HA2.out x HTB.out HSS.out (by have := HBIG.out; omega)).mono ?_; rw [HP.out])
        rintro e w3 (⟨hbg, rfl, hf3⟩ | ⟨l3, N3, ρ3, sm3, hbg, rfl, ha3, hf3, hr3, hn3⟩)
        · have HBG := Lib.hid hbg
          have HF3 := Lib.hid (HF2.out.trans hf3 (fun q hq => HR1.out q hq))
          clear hbg hf3
          go_wp2
          go_ret
          exact .inl ⟨by unfold entryA; simp only [HLV.out, HOP.out, HQU.out, if_true, Bool.false_eq_true, if_false, HBG.out], rfl, HF3.out⟩
        have HL3 := Lib.hid (show (accOf l3 x.q).isSome from begin_some hbg HSS.out)
        have HENT := Lib.hid (show entryA c s x = spendA l3 x by unfold entryA; simp only [HLV.out, HOP.out, HQU.out, if_true, Bool.false_eq_true, if_false, hbg])
        have HA3 := Lib.hid (show AudAt B (M + 1) N3 w3 b c { s with known := l3 } km ρ3 pt1 sm3 from ha3)
        have HF3 := Lib.hid (HF2.out.trans hf3 (fun q hq => HR1.out q hq))
        have HR3 := Lib.hid (show Same ρ ρ3 w.heap.size from fun q hq => (hr3 q (Nat.lt_of_lt_of_le hq HF2.out.size)).trans (HR1.out q hq))
        have HX3 := Lib.hid ((hf3.block xb (lt_heap HX2.out) HRX1.out).trans HX2.out)
        have HRX3 := Lib.hid (show ρ3 xb = none by rw [hr3 xb (lt_heap HX2.out)]; exact HRX1.out)
        have HN3 := Lib.hid (show N3 ≤ N + M + 2 by omega)
        clear hbg ha3 hf3 hr3 hn3 x0 x1 x2 x3 x4 y5 y6 y7 y8 y9' HA HA1 HA2 HX HX1 HX2 HF0 HF1 HF2 HRX1 HW HRP
        obtain ⟨a, ha⟩ : ∃ a, getAcc l3 x.q = a := ⟨_, rfl⟩
        obtain ⟨hrp, hac⟩ := HA3.out.role HL3.out
        rw [HP.out] at hrp hac
        have ha' : getAcc ({ s with known := l3 } : Aud).known x.q = a := ha
        rw [ha'] at hac
        obtain ⟨n0, n1, n2, n3, sv, E1, E2, E3⟩ := hac.cells
        have HRP := Lib.hid hrp
        have HGA := Lib.hid ha
        have HAC := Lib.hid hac
        have HE1 := Lib.hid E1
        have HE2 := Lib.hid E2
        have HE3 := Lib.hid E3
        obtain ⟨d0, d1, d2, d3, d4, d5, d6, d7⟩ := cells8' E2
        have f5 := (lies_cells E2).2 5
        obtain ⟨x0, x1, x2, x3, x4⟩ := cells5 HX3.out
        obtain ⟨df, hdf⟩ : ∃ d, a.df = d := ⟨_, rfl⟩
        rw [hdf] at d5
        have HDF := Lib.hid hdf
        have hdb := hac.df
        rw [hdf] at hdb
        have hb1 := HTU.out
        have hb2 := HBIG.out
        have hb3 := HN3.out
        have hw1 : IntKind.i64.wrap (df + x.qu) = df + x.qu := IntWalk.i64_in _ (by omega)
        have hw2 : IntKind.i64.wrap (df + x.qu - x.co) = df + x.qu - x.co := IntWalk.i64_in _ (by omega)
        have hdlo : -7 ≤ df := hdb.1
        have hdhi : df ≤ 64 * N3 := hdb.2
        clear hrp hac ha ha' E1 E2 E3 hdf hdb hb1 hb2 hb3 d0 d1 d2 d3 d4 d6 d7 x0 x2 x3 x4
        go_wp2_with fail
        refine wp_region_D (S := fun w' => w'.cell? ⟨p, 5, none⟩ = some (iv df) ∧ w'.cell? ⟨xb, 1, none⟩ = some (iv x.qu) ∧ w'.frozen? ⟨p, 5, none⟩ = false) (st := 9) (by kernel_rfl) ?_
        have hS0 : (fun w' : World => w'.cell? ⟨p, 5, none⟩ = some (iv df) ∧ w'.cell? ⟨xb, 1, none⟩ = some (iv x.qu) ∧ w'.frozen? ⟨p, 5, none⟩ = false) (w3.drewN 1) := ⟨d5, x1, f5⟩
        refine wpAnyT_pureD 0 (some 59) ?v35 rfl (by kernel_rfl) (by kernel_rfl) (by kernel_rfl) (by kernel_rfl) (fun _ _ _ h => h) hS0 (by kernel_rfl) rfl ?run35 ?rest35
        case run35 => intro w hS; obtain ⟨s0, s1, s2⟩ := hS; go_simp; rfl
        refine wpAnyT_pureD 1 (some 60) ?v36 rfl (by kernel_rfl) (by kernel_rfl) (by kernel_rfl) (by kernel_rfl) (fun _ _ _ h => h) hS0 (by kernel_rfl) rfl ?run36 ?rest36
        case run36 => intro w hS; obtain ⟨s0, s1, s2⟩ := hS; go_simp; rfl
        refine wpAnyT_pureD 2 (some 61) ?v37 rfl (by kernel_rfl) (by kernel_rfl) (by kernel_rfl) (by kernel_rfl) (fun _ _ _ h => h) hS0 (by kernel_rfl) rfl ?run37 ?rest37
        case run37 => intro w hS; obtain ⟨s0, s1, s2⟩ := hS; go_simp; rfl
        refine wpAnyT_pureD 3 (some 62) ?v38 rfl (by kernel_rfl) (by kernel_rfl) (by kernel_rfl) (by kernel_rfl) (fun _ _ _ h => h) hS0 (by kernel_rfl) rfl ?run38 ?rest38
        case run38 => intro w hS; obtain ⟨s0, s1, s2⟩ := hS; go_simp; rfl
        refine wpAnyT_pureD 4 (some 63) ?v39 rfl (by kernel_rfl) (by kernel_rfl) (by kernel_rfl) (by kernel_rfl) (fun _ _ _ h => h) hS0 (by kernel_rfl) rfl ?run39 ?rest39
        case run39 => intro w hS; obtain ⟨s0, s1, s2⟩ := hS; go_simp; rfl
        refine wpAnyT_pureD 5 (some 64) ?v40 rfl (by kernel_rfl) (by kernel_rfl) (by kernel_rfl) (by kernel_rfl) (fun _ _ _ h => h) hS0 (by kernel_rfl) rfl ?run40 ?rest40
        case run40 => intro w hS; obtain ⟨s0, s1, s2⟩ := hS; go_simp; rfl
        refine wpAnyT_pureD 6 (some 65) ?v41 rfl (by kernel_rfl) (by kernel_rfl) (by kernel_rfl) (by kernel_rfl) (fun _ _ _ h => h) hS0 (by kernel_rfl) rfl ?run41 ?rest41
        case run41 => intro w hS; obtain ⟨s0, s1, s2⟩ := hS; go_simp; rfl
        refine wpAnyT_pureC 7 (some 66) [8] ?v42 rfl (by kernel_rfl) (by kernel_rfl) (by kernel_rfl) (by kernel_rfl) (fun _ _ _ h => h) hS0 (by kernel_rfl) rfl ?run42 ?rest42
        case run42 => intro w hS; obtain ⟨s0, s1, s2⟩ := hS; go_simp; rfl
        refine wpAnyT_pureD 8 (some 67) ?v43 rfl (by kernel_rfl) (by kernel_rfl) (by kernel_rfl) (by kernel_rfl) (fun _ _ _ h => h) hS0 (by kernel_rfl) rfl ?run43 ?rest43
        case run43 => intro w hS; obtain ⟨s0, s1, s2⟩ := hS; go_simp; rfl
        obtain ⟨s0, s1, s2⟩ := hS0
        refine wpAnyT_step 9 none ?ws44 rfl (by kernel_rfl) (by kernel_rfl) ?rs44 rfl (fun h => absurd rfl h) ?_
        case rs44 => go_simp; rfl
        refine wpAnyT_done (by kernel_rfl) ?_ _
        obtain ⟨V1, hV1⟩ : ∃ V, (w3.drewN 1).setCell ⟨p, 5, none⟩ (iv (df + x.qu)) = V := ⟨_, rfl⟩
        generalize hA : Act.put _ _ _ = A0
        simp only [put_mk, put_no, List.setIfInBounds_toArray, List.set_cons_succ, List.set_cons_zero] at hA
        subst hA
        rw [show (w3.drewN 1).setCell ⟨p, 5, none⟩ (Value.int .i64 (df + x.qu)) = V1 from hV1]
        have HO1 := Lib.hid (show OnlyAt p w3 V1 by rw [← hV1]; exact ((OnlyAt.refl p w3).drewN 1).set 5 _)
        have HC1 := Lib.hid (show V1.heap[p]? = some (.cells #[iv a.turns, .bool n0, .bool n1, .bool n2, .bool n3, iv (df + x.qu), .bool a.gone, sv] 78 (0, 0)) by rw [← hV1]; exact set_cells HE2.out)
        clear hV1 d5 f5 x1
        obtain ⟨d0, d1, d2, d3, d4, d5, d6, d7⟩ := cells8' HC1.out
        have f5 := (lies_cells HC1.out).2 5
        have HX4 := Lib.hid ((HO1.out.block xb HXP.out).trans HX3.out)
        obtain ⟨x0, x1, x2, x3, x4⟩ := cells5 HX4.out
        obtain ⟨st0, hst0⟩ : ∃ v, x.st = v := ⟨_, rfl⟩
        rw [hst0] at x2
        have HST := Lib.hid hst0
        obtain ⟨dq, hdq⟩ : ∃ v, df + x.qu = v := ⟨_, rfl⟩
        have HDQ := Lib.hid hdq
        rw [hdq] at d5 hw2
        have HSPN := Lib.hid (show spendA l3 x = if 0 < st0 ∧ dq ≤ 0 then none else if dq - x.co < -7 then none else some ⟨putAcc l3 { a with df := dq - x.co, gone := x.fin }, x.q, !x.fin && decide (0 < dq - x.co)⟩ by
          unfold spendA
          simp only [HGA.out, HDF.out, HST.out, HDQ.out])
        have hdq1 : -7 ≤ dq ∧ dq ≤ 64 * N3 + 64 := by have := HTU.out; omega
        clear hst0 hdq hw1 d0 d1 d2 d3 d4 d6 d7 x0 x1 x4
        have hud : ∀ b : Bool, (undef = Value.bool b) = False := fun b => by simp [undef]
        rcases (by omega : (0 < st0 ∧ dq ≤ 0) ∨ (st0 ≤ 0 ∨ 0 < st0 ∧ 0 < dq)) with hs | hs
        · obtain ⟨hs1, hs2⟩ := hs
          go_wp2
          go_ret
          exact .inl ⟨by rw [HENT.out, HSPN.out, if_pos ⟨hs1, hs2⟩], rfl, HF3.out.trans ((Fr.refl ρ3 w3).only HO1.out (by rw [HRP.out]; simp)) HR3.out⟩
        have HSP2 := Lib.hid (show ¬ (0 < st0 ∧ dq ≤ 0) by omega)
        rcases hs with hs | ⟨hs1, hs2⟩
        · skip
          go_wp2_with fail
          refine wp_region_D (S := fun w' => w'.cell? ⟨p, 5, none⟩ = some (iv dq) ∧ w'.cell? ⟨xb, 3, none⟩ = some (iv x.co) ∧ w'.frozen? ⟨p, 5, none⟩ = false) (st := 9) (by kernel_rfl) ?_
          have hS0 : (fun w' : World => w'.cell? ⟨p, 5, none⟩ = some (iv dq) ∧ w'.cell? ⟨xb, 3, none⟩ = some (iv x.co) ∧ w'.frozen? ⟨p, 5, none⟩ = false) (V1.drewN 1) := ⟨d5, x3, f5⟩
          refine wpAnyT_pureD 0 (some 78) ?v45 rfl (by kernel_rfl) (by kernel_rfl) (by kernel_rfl) (by kernel_rfl) (fun _ _ _ h => h) hS0 (by kernel_rfl) rfl ?run45 ?rest45
          case run45 => intro w hS; obtain ⟨s0, s1, s2⟩ := hS; go_simp; rfl
          refine wpAnyT_pureD 1 (some 79) ?v46 rfl (by kernel_rfl) (by kernel_rfl) (by kernel_rfl) (by kernel_rfl) (fun _ _ _ h => h) hS0 (by kernel_rfl) rfl ?run46 ?rest46
          case run46 => intro w hS; obtain ⟨s0, s1, s2⟩ := hS; go_simp; rfl
          refine wpAnyT_pureD 2 (some 80) ?v47 rfl (by kernel_rfl) (by kernel_rfl) (by kernel_rfl) (by kernel_rfl) (fun _ _ _ h => h) hS0 (by kernel_rfl) rfl ?run47 ?rest47
          case run47 => intro w hS; obtain ⟨s0, s1, s2⟩ := hS; go_simp; rfl
          refine wpAnyT_pureD 3 (some 81) ?v48 rfl (by kernel_rfl) (by kernel_rfl) (by kernel_rfl) (by kernel_rfl) (fun _ _ _ h => h) hS0 (by kernel_rfl) rfl ?run48 ?rest48
          case run48 => intro w hS; obtain ⟨s0, s1, s2⟩ := hS; go_simp; rfl
          refine wpAnyT_pureD 4 (some 82) ?v49 rfl (by kernel_rfl) (by kernel_rfl) (by kernel_rfl) (by kernel_rfl) (fun _ _ _ h => h) hS0 (by kernel_rfl) rfl ?run49 ?rest49
          case run49 => intro w hS; obtain ⟨s0, s1, s2⟩ := hS; go_simp; rfl
          refine wpAnyT_pureD 5 (some 83) ?v50 rfl (by kernel_rfl) (by kernel_rfl) (by kernel_rfl) (by kernel_rfl) (fun _ _ _ h => h) hS0 (by kernel_rfl) rfl ?run50 ?rest50
          case run50 => intro w hS; obtain ⟨s0, s1, s2⟩ := hS; go_simp; rfl
          refine wpAnyT_pureD 6 (some 84) ?v51 rfl (by kernel_rfl) (by kernel_rfl) (by kernel_rfl) (by kernel_rfl) (fun _ _ _ h => h) hS0 (by kernel_rfl) rfl ?run51 ?rest51
          case run51 => intro w hS; obtain ⟨s0, s1, s2⟩ := hS; go_simp; rfl
          refine wpAnyT_pureC 7 (some 85) [8] ?v52 rfl (by kernel_rfl) (by kernel_rfl) (by kernel_rfl) (by kernel_rfl) (fun _ _ _ h => h) hS0 (by kernel_rfl) rfl ?run52 ?rest52
          case run52 => intro w hS; obtain ⟨s0, s1, s2⟩ := hS; go_simp; rfl
          refine wpAnyT_pureD 8 (some 86) ?v53 rfl (by kernel_rfl) (by kernel_rfl) (by kernel_rfl) (by kernel_rfl) (fun _ _ _ h => h) hS0 (by kernel_rfl) rfl ?run53 ?rest53
          case run53 => intro w hS; obtain ⟨s0, s1, s2⟩ := hS; go_simp; rfl
          obtain ⟨s0, s1, s2⟩ := hS0
          refine wpAnyT_step 9 none ?ws54 rfl (by kernel_rfl) (by kernel_rfl) ?rs54 rfl (fun h => absurd rfl h) ?_
          case rs54 => go_simp; rfl
          refine wpAnyT_done (by kernel_rfl) ?_ _
          obtain ⟨V2, hV2⟩ : ∃ V, (V1.drewN 1).setCell ⟨p, 5, none⟩ (iv (dq - x.co)) = V := ⟨_, rfl⟩
          generalize hA : Act.put _ _ _ = A0
          simp only [put_mk, put_no, List.setIfInBounds_toArray, List.set_cons_succ, List.set_cons_zero] at hA
          subst hA
          rw [show (V1.drewN 1).setCell ⟨p, 5, none⟩ (Value.int .i64 (dq - x.co)) = V2 from hV2]
          have HO2 := Lib.hid (show OnlyAt p w3 V2 by rw [← hV2]; exact (HO1.out.drewN 1).set 5 _)
          have HC2 := Lib.hid (show V2.heap[p]? = some (.cells #[iv a.turns, .bool n0, .bool n1, .bool n2, .bool n3, iv (dq - x.co), .bool a.gone, sv] 78 (0, 0)) by rw [← hV2]; exact set_cells HC1.out)
          have HX5 := Lib.hid ((HO2.out.block xb HXP.out).trans HX3.out)
          have HM5 := Lib.hid ((HO2.out.block b (Ne.symm HPB.out)).trans HA3.out.main)
          obtain ⟨dz, hdz⟩ : ∃ v, dq - x.co = v := ⟨_, rfl⟩
          rw [hdz] at HC2 HSPN
          have hdz1 : dz ≤ 64 * (N3 + 1 : Nat) := by have := HTU.out; omega
          clear hV2 hdz hw2 d5 f5 x3
          obtain ⟨d0, d1, d2, d3, d4, d5, d6, d7⟩ := cells8' HC2.out
          have f6 := (lies_cells HC2.out).2 6
          obtain ⟨x0, x1, x2, x3, x4⟩ := cells5 HX5.out
          obtain ⟨y5, y6, y7, y8, y9⟩ := cells10 HM5.out
          have h8 := (lies_cells HM5.out).2 8
          have h9 := (lies_cells HM5.out).2 9
          have m1 : (p == b) = false := by simpa using HPB.out
          have m2 : (b == p) = false := by simpa using Ne.symm HPB.out
          have m3 : (xb == p) = false := by simpa using HXP.out
          have m4 : (p == xb) = false := by simpa using Ne.symm HXP.out
          have m5 : (xb == b) = false := by simpa using HXBB.out
          have m6 : (b == xb) = false := by simpa using Ne.symm HXBB.out
          obtain ⟨fin0, hfin⟩ : ∃ v, x.fin = v := ⟨_, rfl⟩
          rw [hfin] at x4 HSPN
          clear hfin d0 d1 d2 d3 d4 d7 x1 x2 x3 y5 y6 y7
          rcases (by omega : dz < -7 ∨ (-7 ≤ dz ∧ dz ≤ 0) ∨ 0 < dz) with hz | ⟨hz1, hz2⟩ | hz
          · cases fin0
            all_goals
              go_wp2
              go_ret
              exact .inl ⟨by rw [HENT.out, HSPN.out, if_neg HSP2.out, if_pos hz], (by first | rfl | exact ret_boolQ (decide_eq_false (by omega))), HF3.out.trans (((((Fr.refl ρ3 w3).only HO2.out (by rw [HRP.out]; simp)).setCell ⟨p, 6, none⟩ (by rw [HRP.out]; simp) _).setCell ⟨b, 8, none⟩ (by rw [HA3.out.rb]; simp) _).setCell ⟨b, 9, none⟩ (by rw [HA3.out.rb]; simp) _) HR3.out⟩
          · cases fin0
            all_goals
              go_wp2
              go_ret
              refine .inr ⟨_, N3 + 1, ρ3, pt1, sm3, by rw [HENT.out, HSPN.out, if_neg HSP2.out, if_neg (by omega)], (by first | rfl | exact ret_boolQ (decide_eq_true (by omega))), AudAt.spent HA3.out HL3.out HP.out HGA.out HE1.out HE2.out HE3.out HAC.out (HO2.out.trans ((OnlyAt.refl p V2).set 6 _)) (set_cells HC2.out) ⟨by omega, hdz1⟩ (((OnlyAt.refl b _).set 8 _).set 9 _) ?_, HF3.out.trans (((((Fr.refl ρ3 w3).only HO2.out (by rw [HRP.out]; simp)).setCell ⟨p, 6, none⟩ (by rw [HRP.out]; simp) _).setCell ⟨b, 8, none⟩ (by rw [HA3.out.rb]; simp) _).setCell ⟨b, 9, none⟩ (by rw [HA3.out.rb]; simp) _) HR3.out, HR3.out, by have := HN3.out; omega⟩
              rw [decide_eq_false (show ¬ 0 < dz by omega)]
              exact set_cells (set_cells ((((OnlyAt.refl p V2).set 6 _).block b (Ne.symm HPB.out)).trans HM5.out))
          · cases fin0
            all_goals
              go_wp2
              go_ret
              refine .inr ⟨_, N3 + 1, ρ3, pt1, sm3, by rw [HENT.out, HSPN.out, if_neg HSP2.out, if_neg (by omega)], (by first | rfl | exact ret_boolQ (decide_eq_true (by omega))), AudAt.spent HA3.out HL3.out HP.out HGA.out HE1.out HE2.out HE3.out HAC.out (HO2.out.trans ((OnlyAt.refl p V2).set 6 _)) (set_cells HC2.out) ⟨by omega, hdz1⟩ (((OnlyAt.refl b _).set 8 _).set 9 _) ?_, HF3.out.trans (((((Fr.refl ρ3 w3).only HO2.out (by rw [HRP.out]; simp)).setCell ⟨p, 6, none⟩ (by rw [HRP.out]; simp) _).setCell ⟨b, 8, none⟩ (by rw [HA3.out.rb]; simp) _).setCell ⟨b, 9, none⟩ (by rw [HA3.out.rb]; simp) _) HR3.out, HR3.out, by have := HN3.out; omega⟩
              rw [decide_eq_true hz]
              exact set_cells (set_cells ((((OnlyAt.refl p V2).set 6 _).block b (Ne.symm HPB.out)).trans HM5.out))
        · skip
          go_wp2_with fail
          refine wp_region_D (S := fun w' => w'.cell? ⟨p, 5, none⟩ = some (iv dq) ∧ w'.cell? ⟨xb, 3, none⟩ = some (iv x.co) ∧ w'.frozen? ⟨p, 5, none⟩ = false) (st := 9) (by kernel_rfl) ?_
          have hS0 : (fun w' : World => w'.cell? ⟨p, 5, none⟩ = some (iv dq) ∧ w'.cell? ⟨xb, 3, none⟩ = some (iv x.co) ∧ w'.frozen? ⟨p, 5, none⟩ = false) (V1.drewN 1) := ⟨d5, x3, f5⟩
          refine wpAnyT_pureD 0 (some 78) ?v55 rfl (by kernel_rfl) (by kernel_rfl) (by kernel_rfl) (by kernel_rfl) (fun _ _ _ h => h) hS0 (by kernel_rfl) rfl ?run55 ?rest55
          case run55 => intro w hS; obtain ⟨s0, s1, s2⟩ := hS; go_simp; rfl
          refine wpAnyT_pureD 1 (some 79) ?v56 rfl (by kernel_rfl) (by kernel_rfl) (by kernel_rfl) (by kernel_rfl) (fun _ _ _ h => h) hS0 (by kernel_rfl) rfl ?run56 ?rest56
          case run56 => intro w hS; obtain ⟨s0, s1, s2⟩ := hS; go_simp; rfl
          refine wpAnyT_pureD 2 (some 80) ?v57 rfl (by kernel_rfl) (by kernel_rfl) (by kernel_rfl) (by kernel_rfl) (fun _ _ _ h => h) hS0 (by kernel_rfl) rfl ?run57 ?rest57
          case run57 => intro w hS; obtain ⟨s0, s1, s2⟩ := hS; go_simp; rfl
          refine wpAnyT_pureD 3 (some 81) ?v58 rfl (by kernel_rfl) (by kernel_rfl) (by kernel_rfl) (by kernel_rfl) (fun _ _ _ h => h) hS0 (by kernel_rfl) rfl ?run58 ?rest58
          case run58 => intro w hS; obtain ⟨s0, s1, s2⟩ := hS; go_simp; rfl
          refine wpAnyT_pureD 4 (some 82) ?v59 rfl (by kernel_rfl) (by kernel_rfl) (by kernel_rfl) (by kernel_rfl) (fun _ _ _ h => h) hS0 (by kernel_rfl) rfl ?run59 ?rest59
          case run59 => intro w hS; obtain ⟨s0, s1, s2⟩ := hS; go_simp; rfl
          refine wpAnyT_pureD 5 (some 83) ?v60 rfl (by kernel_rfl) (by kernel_rfl) (by kernel_rfl) (by kernel_rfl) (fun _ _ _ h => h) hS0 (by kernel_rfl) rfl ?run60 ?rest60
          case run60 => intro w hS; obtain ⟨s0, s1, s2⟩ := hS; go_simp; rfl
          refine wpAnyT_pureD 6 (some 84) ?v61 rfl (by kernel_rfl) (by kernel_rfl) (by kernel_rfl) (by kernel_rfl) (fun _ _ _ h => h) hS0 (by kernel_rfl) rfl ?run61 ?rest61
          case run61 => intro w hS; obtain ⟨s0, s1, s2⟩ := hS; go_simp; rfl
          refine wpAnyT_pureC 7 (some 85) [8] ?v62 rfl (by kernel_rfl) (by kernel_rfl) (by kernel_rfl) (by kernel_rfl) (fun _ _ _ h => h) hS0 (by kernel_rfl) rfl ?run62 ?rest62
          case run62 => intro w hS; obtain ⟨s0, s1, s2⟩ := hS; go_simp; rfl
          refine wpAnyT_pureD 8 (some 86) ?v63 rfl (by kernel_rfl) (by kernel_rfl) (by kernel_rfl) (by kernel_rfl) (fun _ _ _ h => h) hS0 (by kernel_rfl) rfl ?run63 ?rest63
          case run63 => intro w hS; obtain ⟨s0, s1, s2⟩ := hS; go_simp; rfl
          obtain ⟨s0, s1, s2⟩ := hS0
          refine wpAnyT_step 9 none ?ws64 rfl (by kernel_rfl) (by kernel_rfl) ?rs64 rfl (fun h => absurd rfl h) ?_
          case rs64 => go_simp; rfl
          refine wpAnyT_done (by kernel_rfl) ?_ _
          obtain ⟨V2, hV2⟩ : ∃ V, (V1.drewN 1).setCell ⟨p, 5, none⟩ (iv (dq - x.co)) = V := ⟨_, rfl⟩
          generalize hA : Act.put _ _ _ = A0
          simp only [put_mk, put_no, List.setIfInBounds_toArray, List.set_cons_succ, List.set_cons_zero] at hA
          subst hA
          rw [show (V1.drewN 1).setCell ⟨p, 5, none⟩ (Value.int .i64 (dq - x.co)) = V2 from hV2]
          have HO2 := Lib.hid (show OnlyAt p w3 V2 by rw [← hV2]; exact (HO1.out.drewN 1).set 5 _)
          have HC2 := Lib.hid (show V2.heap[p]? = some (.cells #[iv a.turns, .bool n0, .bool n1, .bool n2, .bool n3, iv (dq - x.co), .bool a.gone, sv] 78 (0, 0)) by rw [← hV2]; exact set_cells HC1.out)
          have HX5 := Lib.hid ((HO2.out.block xb HXP.out).trans HX3.out)
          have HM5 := Lib.hid ((HO2.out.block b (Ne.symm HPB.out)).trans HA3.out.main)
          obtain ⟨dz, hdz⟩ : ∃ v, dq - x.co = v := ⟨_, rfl⟩
          rw [hdz] at HC2 HSPN
          have hdz1 : dz ≤ 64 * (N3 + 1 : Nat) := by have := HTU.out; omega
          clear hV2 hdz hw2 d5 f5 x3
          obtain ⟨d0, d1, d2, d3, d4, d5, d6, d7⟩ := cells8' HC2.out
          have f6 := (lies_cells HC2.out).2 6
          obtain ⟨x0, x1, x2, x3, x4⟩ := cells5 HX5.out
          obtain ⟨y5, y6, y7, y8, y9⟩ := cells10 HM5.out
          have h8 := (lies_cells HM5.out).2 8
          have h9 := (lies_cells HM5.out).2 9
          have m1 : (p == b) = false := by simpa using HPB.out
          have m2 : (b == p) = false := by simpa using Ne.symm HPB.out
          have m3 : (xb == p) = false := by simpa using HXP.out
          have m4 : (p == xb) = false := by simpa using Ne.symm HXP.out
          have m5 : (xb == b) = false := by simpa using HXBB.out
          have m6 : (b == xb) = false := by simpa using Ne.symm HXBB.out
          obtain ⟨fin0, hfin⟩ : ∃ v, x.fin = v := ⟨_, rfl⟩
          rw [hfin] at x4 HSPN
          clear hfin d0 d1 d2 d3 d4 d7 x1 x2 x3 y5 y6 y7
          rcases (by omega : dz < -7 ∨ (-7 ≤ dz ∧ dz ≤ 0) ∨ 0 < dz) with hz | ⟨hz1, hz2⟩ | hz
          · cases fin0
            all_goals
              go_wp2
              go_ret
              exact .inl ⟨by rw [HENT.out, HSPN.out, if_neg HSP2.out, if_pos hz], (by first | rfl | exact ret_boolQ (decide_eq_false (by omega))), HF3.out.trans (((((Fr.refl ρ3 w3).only HO2.out (by rw [HRP.out]; simp)).setCell ⟨p, 6, none⟩ (by rw [HRP.out]; simp) _).setCell ⟨b, 8, none⟩ (by rw [HA3.out.rb]; simp) _).setCell ⟨b, 9, none⟩ (by rw [HA3.out.rb]; simp) _) HR3.out⟩
          · cases fin0
            all_goals
              go_wp2
              go_ret
              refine .inr ⟨_, N3 + 1, ρ3, pt1, sm3, by rw [HENT.out, HSPN.out, if_neg HSP2.out, if_neg (by omega)], (by first | rfl | exact ret_boolQ (decide_eq_true (by omega))), AudAt.spent HA3.out HL3.out HP.out HGA.out HE1.out HE2.out HE3.out HAC.out (HO2.out.trans ((OnlyAt.refl p V2).set 6 _)) (set_cells HC2.out) ⟨by omega, hdz1⟩ (((OnlyAt.refl b _).set 8 _).set 9 _) ?_, HF3.out.trans (((((Fr.refl ρ3 w3).only HO2.out (by rw [HRP.out]; simp)).setCell ⟨p, 6, none⟩ (by rw [HRP.out]; simp) _).setCell ⟨b, 8, none⟩ (by rw [HA3.out.rb]; simp) _).setCell ⟨b, 9, none⟩ (by rw [HA3.out.rb]; simp) _) HR3.out, HR3.out, by have := HN3.out; omega⟩
              rw [decide_eq_false (show ¬ 0 < dz by omega)]
              exact set_cells (set_cells ((((OnlyAt.refl p V2).set 6 _).block b (Ne.symm HPB.out)).trans HM5.out))
          · cases fin0
            all_goals
              go_wp2
              go_ret
              refine .inr ⟨_, N3 + 1, ρ3, pt1, sm3, by rw [HENT.out, HSPN.out, if_neg HSP2.out, if_neg (by omega)], (by first | rfl | exact ret_boolQ (decide_eq_true (by omega))), AudAt.spent HA3.out HL3.out HP.out HGA.out HE1.out HE2.out HE3.out HAC.out (HO2.out.trans ((OnlyAt.refl p V2).set 6 _)) (set_cells HC2.out) ⟨by omega, hdz1⟩ (((OnlyAt.refl b _).set 8 _).set 9 _) ?_, HF3.out.trans (((((Fr.refl ρ3 w3).only HO2.out (by rw [HRP.out]; simp)).setCell ⟨p, 6, none⟩ (by rw [HRP.out]; simp) _).setCell ⟨b, 8, none⟩ (by rw [HA3.out.rb]; simp) _).setCell ⟨b, 9, none⟩ (by rw [HA3.out.rb]; simp) _) HR3.out, HR3.out, by have := HN3.out; omega⟩
              rw [decide_eq_true hz]
              exact set_cells (set_cells ((((OnlyAt.refl p V2).set 6 _).block b (Ne.symm HPB.out)).trans HM5.out))
    · have hqu0 : x.qu = 0 := by have := HTU.out.2.2.1; omega
      have HQU := Lib.hid (show ¬ 0 < x.qu by omega)
      have hqb : ¬ 0 < x.qu := HQU.out
      clear hqu0
      obtain ⟨nq, hnq⟩ : ∃ o, (x.q != s.last) = o := ⟨_, rfl⟩
      have HNQ := Lib.hid hnq
      have hud : ∀ b : Bool, (undef = Value.bool b) = False := fun b => by simp [undef]
      have hbad : (op0 = false ∨ nq = true) → entryA c s x = none := fun hh => by
        unfold entryA
        simp only [HLV.out, Bool.false_eq_true, if_false, HQU.out]
        rw [if_pos]
        rcases hh with e | e
        · exact .inl (HOP.out.trans e)
        · right
          have := HNQ.out
          rw [e] at this
          simpa [bne] using this
      have HBAD := Lib.hid hbad
      clear hbad
      cases op0
      · go_wp2
        go_quiet (fail)
        go_wp2
        go_ret
        exact .inl ⟨HBAD.out (by simp), rfl, HF2.out.drewN _⟩
      cases nq
      rotate_left
      · go_wp2
        go_quiet (fail)
        go_wp2
        go_ret
        exact .inl ⟨HBAD.out (by simp), rfl, HF2.out.drewN _⟩
      go_wp2
      go_quiet (fail)
      obtain ⟨w3, hw3⟩ : ∃ w3, w2.drewN nq = w3 := ⟨_, rfl⟩
      rw [hw3]
      obtain ⟨l3, hl3⟩ : ∃ l3, ensure s.known x.q = l3 := ⟨_, rfl⟩
      have HL3 := Lib.hid (show (accOf l3 x.q).isSome by rw [← hl3]; exact HSS.out)
      have HENT := Lib.hid (show entryA c s x = spendA l3 x by
        unfold entryA
        simp only [HLV.out, Bool.false_eq_true, if_false, HQU.out]
        have hneg : ¬ (s.op = false ∨ x.q ≠ s.last) := by
          intro e
          rcases e with e | e
          · rw [HOP.out] at e; cases e
          · have h1 := HNQ.out
            simp [bne] at h1
            exact e h1
        have hq2 : ¬ 0 < x.qu := by have := HQU.out; omega
        rw [if_neg hneg]
        split
        · rename_i e; exact absurd e hq2
        · rw [← hl3])
      obtain ⟨N3, hN3⟩ : ∃ N3, N = N3 := ⟨_, rfl⟩
      obtain ⟨ρ3, hρ3⟩ : ∃ r, ρ1 = r := ⟨_, rfl⟩
      obtain ⟨sm3, hsm3⟩ : ∃ r, sm = r := ⟨_, rfl⟩
      have HA3 := Lib.hid (show AudAt B (M + 1) N3 w3 b c { s with known := l3 } km ρ3 pt1 sm3 by rw [← hw3, ← hl3, ← hN3, ← hρ3, ← hsm3]; exact HA2.out.drewN _)
      have HF3 := Lib.hid (show Fr ρ w w3 by rw [← hw3]; exact HF2.out.drewN _)
      have HR3 := Lib.hid (show Same ρ ρ3 w.heap.size by rw [← hρ3]; exact HR1.out)
      have HX3 := Lib.hid (show w3.heap[xb]? = some (.cells #[iv x.q, iv x.qu, iv x.st, iv x.co, .bool x.fin] 53 (0, 0)) by rw [← hw3]; exact HX2.out)
      have HRX3 := Lib.hid (show ρ3 xb = none by rw [← hρ3]; exact HRX1.out)
      have HN3 := Lib.hid (show N3 ≤ N + M + 2 by omega)
      clear hw3 hl3 hN3 hρ3 hsm3 x0 x1 x2 x3 x4 y5 y6 y7 y8 y9' HA HA1 HA2 HX HX1 HX2 HF0 HF1 HF2 HRX1 HW HRP hnq
      obtain ⟨a, ha⟩ : ∃ a, getAcc l3 x.q = a := ⟨_, rfl⟩
      obtain ⟨hrp, hac⟩ := HA3.out.role HL3.out
      rw [HP.out] at hrp hac
      have ha' : getAcc ({ s with known := l3 } : Aud).known x.q = a := ha
      rw [ha'] at hac
      obtain ⟨n0, n1, n2, n3, sv, E1, E2, E3⟩ := hac.cells
      have HRP := Lib.hid hrp
      have HGA := Lib.hid ha
      have HAC := Lib.hid hac
      have HE1 := Lib.hid E1
      have HE2 := Lib.hid E2
      have HE3 := Lib.hid E3
      obtain ⟨d0, d1, d2, d3, d4, d5, d6, d7⟩ := cells8' E2
      have f5 := (lies_cells E2).2 5
      obtain ⟨x0, x1, x2, x3, x4⟩ := cells5 HX3.out
      obtain ⟨df, hdf⟩ : ∃ d, a.df = d := ⟨_, rfl⟩
      rw [hdf] at d5
      have HDF := Lib.hid hdf
      have hdb := hac.df
      rw [hdf] at hdb
      have hb1 := HTU.out
      have hb2 := HBIG.out
      have hb3 := HN3.out
      have hw1 : IntKind.i64.wrap (df + x.qu) = df + x.qu := IntWalk.i64_in _ (by omega)
      have hw2 : IntKind.i64.wrap (df + x.qu - x.co) = df + x.qu - x.co := IntWalk.i64_in _ (by omega)
      have hdlo : -7 ≤ df := hdb.1
      have hdhi : df ≤ 64 * N3 := hdb.2
      clear hrp hac ha ha' E1 E2 E3 hdf hdb hb1 hb2 hb3 d0 d1 d2 d3 d4 d6 d7 x0 x2 x3 x4
      go_wp2_with fail
      refine wp_region_D (S := fun w' => w'.cell? ⟨p, 5, none⟩ = some (iv df) ∧ w'.cell? ⟨xb, 1, none⟩ = some (iv x.qu) ∧ w'.frozen? ⟨p, 5, none⟩ = false) (st := 9) (by kernel_rfl) ?_
      have hS0 : (fun w' : World => w'.cell? ⟨p, 5, none⟩ = some (iv df) ∧ w'.cell? ⟨xb, 1, none⟩ = some (iv x.qu) ∧ w'.frozen? ⟨p, 5, none⟩ = false) (w3.drewN 1) := ⟨d5, x1, f5⟩
      refine wpAnyT_pureD 0 (some 59) ?v65 rfl (by kernel_rfl) (by kernel_rfl) (by kernel_rfl) (by kernel_rfl) (fun _ _ _ h => h) hS0 (by kernel_rfl) rfl ?run65 ?rest65
      case run65 => intro w hS; obtain ⟨s0, s1, s2⟩ := hS; go_simp; rfl
      refine wpAnyT_pureD 1 (some 60) ?v66 rfl (by kernel_rfl) (by kernel_rfl) (by kernel_rfl) (by kernel_rfl) (fun _ _ _ h => h) hS0 (by kernel_rfl) rfl ?run66 ?rest66
      case run66 => intro w hS; obtain ⟨s0, s1, s2⟩ := hS; go_simp; rfl
      refine wpAnyT_pureD 2 (some 61) ?v67 rfl (by kernel_rfl) (by kernel_rfl) (by kernel_rfl) (by kernel_rfl) (fun _ _ _ h => h) hS0 (by kernel_rfl) rfl ?run67 ?rest67
      case run67 => intro w hS; obtain ⟨s0, s1, s2⟩ := hS; go_simp; rfl
      refine wpAnyT_pureD 3 (some 62) ?v68 rfl (by kernel_rfl) (by kernel_rfl) (by kernel_rfl) (by kernel_rfl) (fun _ _ _ h => h) hS0 (by kernel_rfl) rfl ?run68 ?rest68
      case run68 => intro w hS; obtain ⟨s0, s1, s2⟩ := hS; go_simp; rfl
      refine wpAnyT_pureD 4 (some 63) ?v69 rfl (by kernel_rfl) (by kernel_rfl) (by kernel_rfl) (by kernel_rfl) (fun _ _ _ h => h) hS0 (by kernel_rfl) rfl ?run69 ?rest69
      case run69 => intro w hS; obtain ⟨s0, s1, s2⟩ := hS; go_simp; rfl
      refine wpAnyT_pureD 5 (some 64) ?v70 rfl (by kernel_rfl) (by kernel_rfl) (by kernel_rfl) (by kernel_rfl) (fun _ _ _ h => h) hS0 (by kernel_rfl) rfl ?run70 ?rest70
      case run70 => intro w hS; obtain ⟨s0, s1, s2⟩ := hS; go_simp; rfl
      refine wpAnyT_pureD 6 (some 65) ?v71 rfl (by kernel_rfl) (by kernel_rfl) (by kernel_rfl) (by kernel_rfl) (fun _ _ _ h => h) hS0 (by kernel_rfl) rfl ?run71 ?rest71
      case run71 => intro w hS; obtain ⟨s0, s1, s2⟩ := hS; go_simp; rfl
      refine wpAnyT_pureC 7 (some 66) [8] ?v72 rfl (by kernel_rfl) (by kernel_rfl) (by kernel_rfl) (by kernel_rfl) (fun _ _ _ h => h) hS0 (by kernel_rfl) rfl ?run72 ?rest72
      case run72 => intro w hS; obtain ⟨s0, s1, s2⟩ := hS; go_simp; rfl
      refine wpAnyT_pureD 8 (some 67) ?v73 rfl (by kernel_rfl) (by kernel_rfl) (by kernel_rfl) (by kernel_rfl) (fun _ _ _ h => h) hS0 (by kernel_rfl) rfl ?run73 ?rest73
      case run73 => intro w hS; obtain ⟨s0, s1, s2⟩ := hS; go_simp; rfl
      obtain ⟨s0, s1, s2⟩ := hS0
      refine wpAnyT_step 9 none ?ws74 rfl (by kernel_rfl) (by kernel_rfl) ?rs74 rfl (fun h => absurd rfl h) ?_
      case rs74 => go_simp; rfl
      refine wpAnyT_done (by kernel_rfl) ?_ _
      obtain ⟨V1, hV1⟩ : ∃ V, (w3.drewN 1).setCell ⟨p, 5, none⟩ (iv (df + x.qu)) = V := ⟨_, rfl⟩
      generalize hA : Act.put _ _ _ = A0
      simp only [put_mk, put_no, List.setIfInBounds_toArray, List.set_cons_succ, List.set_cons_zero] at hA
      subst hA
      rw [show (w3.drewN 1).setCell ⟨p, 5, none⟩ (Value.int .i64 (df + x.qu)) = V1 from hV1]
      have HO1 := Lib.hid (show OnlyAt p w3 V1 by rw [← hV1]; exact ((OnlyAt.refl p w3).drewN 1).set 5 _)
      have HC1 := Lib.hid (show V1.heap[p]? = some (.cells #[iv a.turns, .bool n0, .bool n1, .bool n2, .bool n3, iv (df + x.qu), .bool a.gone, sv] 78 (0, 0)) by rw [← hV1]; exact set_cells HE2.out)
      clear hV1 d5 f5 x1
      obtain ⟨d0, d1, d2, d3, d4, d5, d6, d7⟩ := cells8' HC1.out
      have f5 := (lies_cells HC1.out).2 5
      have HX4 := Lib.hid ((HO1.out.block xb HXP.out).trans HX3.out)
      obtain ⟨x0, x1, x2, x3, x4⟩ := cells5 HX4.out
      obtain ⟨st0, hst0⟩ : ∃ v, x.st = v := ⟨_, rfl⟩
      rw [hst0] at x2
      have HST := Lib.hid hst0
      obtain ⟨dq, hdq⟩ : ∃ v, df + x.qu = v := ⟨_, rfl⟩
      have HDQ := Lib.hid hdq
      rw [hdq] at d5 hw2
      have HSPN := Lib.hid (show spendA l3 x = if 0 < st0 ∧ dq ≤ 0 then none else if dq - x.co < -7 then none else some ⟨putAcc l3 { a with df := dq - x.co, gone := x.fin }, x.q, !x.fin && decide (0 < dq - x.co)⟩ by
        unfold spendA
        simp only [HGA.out, HDF.out, HST.out, HDQ.out])
      have hdq1 : -7 ≤ dq ∧ dq ≤ 64 * N3 + 64 := by have := HTU.out; omega
      clear hst0 hdq hw1 d0 d1 d2 d3 d4 d6 d7 x0 x1 x4
      have hud : ∀ b : Bool, (undef = Value.bool b) = False := fun b => by simp [undef]
      rcases (by omega : (0 < st0 ∧ dq ≤ 0) ∨ (st0 ≤ 0 ∨ 0 < st0 ∧ 0 < dq)) with hs | hs
      · obtain ⟨hs1, hs2⟩ := hs
        go_wp2
        go_ret
        exact .inl ⟨by rw [HENT.out, HSPN.out, if_pos ⟨hs1, hs2⟩], rfl, HF3.out.trans ((Fr.refl ρ3 w3).only HO1.out (by rw [HRP.out]; simp)) HR3.out⟩
      have HSP2 := Lib.hid (show ¬ (0 < st0 ∧ dq ≤ 0) by omega)
      rcases hs with hs | ⟨hs1, hs2⟩
      · skip
        go_wp2_with fail
        refine wp_region_D (S := fun w' => w'.cell? ⟨p, 5, none⟩ = some (iv dq) ∧ w'.cell? ⟨xb, 3, none⟩ = some (iv x.co) ∧ w'.frozen? ⟨p, 5, none⟩ = false) (st := 9) (by kernel_rfl) ?_
        have hS0 : (fun w' : World => w'.cell? ⟨p, 5, none⟩ = some (iv dq) ∧ w'.cell? ⟨xb, 3, none⟩ = some (iv x.co) ∧ w'.frozen? ⟨p, 5, none⟩ = false) (V1.drewN 1) := ⟨d5, x3, f5⟩
        refine wpAnyT_pureD 0 (some 78) ?v75 rfl (by kernel_rfl) (by kernel_rfl) (by kernel_rfl) (by kernel_rfl) (fun _ _ _ h => h) hS0 (by kernel_rfl) rfl ?run75 ?rest75
        case run75 => intro w hS; obtain ⟨s0, s1, s2⟩ := hS; go_simp; rfl
        refine wpAnyT_pureD 1 (some 79) ?v76 rfl (by kernel_rfl) (by kernel_rfl) (by kernel_rfl) (by kernel_rfl) (fun _ _ _ h => h) hS0 (by kernel_rfl) rfl ?run76 ?rest76
        case run76 => intro w hS; obtain ⟨s0, s1, s2⟩ := hS; go_simp; rfl
        refine wpAnyT_pureD 2 (some 80) ?v77 rfl (by kernel_rfl) (by kernel_rfl) (by kernel_rfl) (by kernel_rfl) (fun _ _ _ h => h) hS0 (by kernel_rfl) rfl ?run77 ?rest77
        case run77 => intro w hS; obtain ⟨s0, s1, s2⟩ := hS; go_simp; rfl
        refine wpAnyT_pureD 3 (some 81) ?v78 rfl (by kernel_rfl) (by kernel_rfl) (by kernel_rfl) (by kernel_rfl) (fun _ _ _ h => h) hS0 (by kernel_rfl) rfl ?run78 ?rest78
        case run78 => intro w hS; obtain ⟨s0, s1, s2⟩ := hS; go_simp; rfl
        refine wpAnyT_pureD 4 (some 82) ?v79 rfl (by kernel_rfl) (by kernel_rfl) (by kernel_rfl) (by kernel_rfl) (fun _ _ _ h => h) hS0 (by kernel_rfl) rfl ?run79 ?rest79
        case run79 => intro w hS; obtain ⟨s0, s1, s2⟩ := hS; go_simp; rfl
        refine wpAnyT_pureD 5 (some 83) ?v80 rfl (by kernel_rfl) (by kernel_rfl) (by kernel_rfl) (by kernel_rfl) (fun _ _ _ h => h) hS0 (by kernel_rfl) rfl ?run80 ?rest80
        case run80 => intro w hS; obtain ⟨s0, s1, s2⟩ := hS; go_simp; rfl
        refine wpAnyT_pureD 6 (some 84) ?v81 rfl (by kernel_rfl) (by kernel_rfl) (by kernel_rfl) (by kernel_rfl) (fun _ _ _ h => h) hS0 (by kernel_rfl) rfl ?run81 ?rest81
        case run81 => intro w hS; obtain ⟨s0, s1, s2⟩ := hS; go_simp; rfl
        refine wpAnyT_pureC 7 (some 85) [8] ?v82 rfl (by kernel_rfl) (by kernel_rfl) (by kernel_rfl) (by kernel_rfl) (fun _ _ _ h => h) hS0 (by kernel_rfl) rfl ?run82 ?rest82
        case run82 => intro w hS; obtain ⟨s0, s1, s2⟩ := hS; go_simp; rfl
        refine wpAnyT_pureD 8 (some 86) ?v83 rfl (by kernel_rfl) (by kernel_rfl) (by kernel_rfl) (by kernel_rfl) (fun _ _ _ h => h) hS0 (by kernel_rfl) rfl ?run83 ?rest83
        case run83 => intro w hS; obtain ⟨s0, s1, s2⟩ := hS; go_simp; rfl
        obtain ⟨s0, s1, s2⟩ := hS0
        refine wpAnyT_step 9 none ?ws84 rfl (by kernel_rfl) (by kernel_rfl) ?rs84 rfl (fun h => absurd rfl h) ?_
        case rs84 => go_simp; rfl
        refine wpAnyT_done (by kernel_rfl) ?_ _
        obtain ⟨V2, hV2⟩ : ∃ V, (V1.drewN 1).setCell ⟨p, 5, none⟩ (iv (dq - x.co)) = V := ⟨_, rfl⟩
        generalize hA : Act.put _ _ _ = A0
        simp only [put_mk, put_no, List.setIfInBounds_toArray, List.set_cons_succ, List.set_cons_zero] at hA
        subst hA
        rw [show (V1.drewN 1).setCell ⟨p, 5, none⟩ (Value.int .i64 (dq - x.co)) = V2 from hV2]
        have HO2 := Lib.hid (show OnlyAt p w3 V2 by rw [← hV2]; exact (HO1.out.drewN 1).set 5 _)
        have HC2 := Lib.hid (show V2.heap[p]? = some (.cells #[iv a.turns, .bool n0, .bool n1, .bool n2, .bool n3, iv (dq - x.co), .bool a.gone, sv] 78 (0, 0)) by rw [← hV2]; exact set_cells HC1.out)
        have HX5 := Lib.hid ((HO2.out.block xb HXP.out).trans HX3.out)
        have HM5 := Lib.hid ((HO2.out.block b (Ne.symm HPB.out)).trans HA3.out.main)
        obtain ⟨dz, hdz⟩ : ∃ v, dq - x.co = v := ⟨_, rfl⟩
        rw [hdz] at HC2 HSPN
        have hdz1 : dz ≤ 64 * (N3 + 1 : Nat) := by have := HTU.out; omega
        clear hV2 hdz hw2 d5 f5 x3
        obtain ⟨d0, d1, d2, d3, d4, d5, d6, d7⟩ := cells8' HC2.out
        have f6 := (lies_cells HC2.out).2 6
        obtain ⟨x0, x1, x2, x3, x4⟩ := cells5 HX5.out
        obtain ⟨y5, y6, y7, y8, y9⟩ := cells10 HM5.out
        have h8 := (lies_cells HM5.out).2 8
        have h9 := (lies_cells HM5.out).2 9
        have m1 : (p == b) = false := by simpa using HPB.out
        have m2 : (b == p) = false := by simpa using Ne.symm HPB.out
        have m3 : (xb == p) = false := by simpa using HXP.out
        have m4 : (p == xb) = false := by simpa using Ne.symm HXP.out
        have m5 : (xb == b) = false := by simpa using HXBB.out
        have m6 : (b == xb) = false := by simpa using Ne.symm HXBB.out
        obtain ⟨fin0, hfin⟩ : ∃ v, x.fin = v := ⟨_, rfl⟩
        rw [hfin] at x4 HSPN
        clear hfin d0 d1 d2 d3 d4 d7 x1 x2 x3 y5 y6 y7
        rcases (by omega : dz < -7 ∨ (-7 ≤ dz ∧ dz ≤ 0) ∨ 0 < dz) with hz | ⟨hz1, hz2⟩ | hz
        · cases fin0
          all_goals
            go_wp2
            go_ret
            exact .inl ⟨by rw [HENT.out, HSPN.out, if_neg HSP2.out, if_pos hz], (by first | rfl | exact ret_boolQ (decide_eq_false (by omega))), HF3.out.trans (((((Fr.refl ρ3 w3).only HO2.out (by rw [HRP.out]; simp)).setCell ⟨p, 6, none⟩ (by rw [HRP.out]; simp) _).setCell ⟨b, 8, none⟩ (by rw [HA3.out.rb]; simp) _).setCell ⟨b, 9, none⟩ (by rw [HA3.out.rb]; simp) _) HR3.out⟩
        · cases fin0
          all_goals
            go_wp2
            go_ret
            refine .inr ⟨_, N3 + 1, ρ3, pt1, sm3, by rw [HENT.out, HSPN.out, if_neg HSP2.out, if_neg (by omega)], (by first | rfl | exact ret_boolQ (decide_eq_true (by omega))), AudAt.spent HA3.out HL3.out HP.out HGA.out HE1.out HE2.out HE3.out HAC.out (HO2.out.trans ((OnlyAt.refl p V2).set 6 _)) (set_cells HC2.out) ⟨by omega, hdz1⟩ (((OnlyAt.refl b _).set 8 _).set 9 _) ?_, HF3.out.trans (((((Fr.refl ρ3 w3).only HO2.out (by rw [HRP.out]; simp)).setCell ⟨p, 6, none⟩ (by rw [HRP.out]; simp) _).setCell ⟨b, 8, none⟩ (by rw [HA3.out.rb]; simp) _).setCell ⟨b, 9, none⟩ (by rw [HA3.out.rb]; simp) _) HR3.out, HR3.out, by have := HN3.out; omega⟩
            rw [decide_eq_false (show ¬ 0 < dz by omega)]
            exact set_cells (set_cells ((((OnlyAt.refl p V2).set 6 _).block b (Ne.symm HPB.out)).trans HM5.out))
        · cases fin0
          all_goals
            go_wp2
            go_ret
            refine .inr ⟨_, N3 + 1, ρ3, pt1, sm3, by rw [HENT.out, HSPN.out, if_neg HSP2.out, if_neg (by omega)], (by first | rfl | exact ret_boolQ (decide_eq_true (by omega))), AudAt.spent HA3.out HL3.out HP.out HGA.out HE1.out HE2.out HE3.out HAC.out (HO2.out.trans ((OnlyAt.refl p V2).set 6 _)) (set_cells HC2.out) ⟨by omega, hdz1⟩ (((OnlyAt.refl b _).set 8 _).set 9 _) ?_, HF3.out.trans (((((Fr.refl ρ3 w3).only HO2.out (by rw [HRP.out]; simp)).setCell ⟨p, 6, none⟩ (by rw [HRP.out]; simp) _).setCell ⟨b, 8, none⟩ (by rw [HA3.out.rb]; simp) _).setCell ⟨b, 9, none⟩ (by rw [HA3.out.rb]; simp) _) HR3.out, HR3.out, by have := HN3.out; omega⟩
            rw [decide_eq_true hz]
            exact set_cells (set_cells ((((OnlyAt.refl p V2).set 6 _).block b (Ne.symm HPB.out)).trans HM5.out))
      · skip
        go_wp2_with fail
        refine wp_region_D (S := fun w' => w'.cell? ⟨p, 5, none⟩ = some (iv dq) ∧ w'.cell? ⟨xb, 3, none⟩ = some (iv x.co) ∧ w'.frozen? ⟨p, 5, none⟩ = false) (st := 9) (by kernel_rfl) ?_
        have hS0 : (fun w' : World => w'.cell? ⟨p, 5, none⟩ = some (iv dq) ∧ w'.cell? ⟨xb, 3, none⟩ = some (iv x.co) ∧ w'.frozen? ⟨p, 5, none⟩ = false) (V1.drewN 1) := ⟨d5, x3, f5⟩
        refine wpAnyT_pureD 0 (some 78) ?v85 rfl (by kernel_rfl) (by kernel_rfl) (by kernel_rfl) (by kernel_rfl) (fun _ _ _ h => h) hS0 (by kernel_rfl) rfl ?run85 ?rest85
        case run85 => intro w hS; obtain ⟨s0, s1, s2⟩ := hS; go_simp; rfl
        refine wpAnyT_pureD 1 (some 79) ?v86 rfl (by kernel_rfl) (by kernel_rfl) (by kernel_rfl) (by kernel_rfl) (fun _ _ _ h => h) hS0 (by kernel_rfl) rfl ?run86 ?rest86
        case run86 => intro w hS; obtain ⟨s0, s1, s2⟩ := hS; go_simp; rfl
        refine wpAnyT_pureD 2 (some 80) ?v87 rfl (by kernel_rfl) (by kernel_rfl) (by kernel_rfl) (by kernel_rfl) (fun _ _ _ h => h) hS0 (by kernel_rfl) rfl ?run87 ?rest87
        case run87 => intro w hS; obtain ⟨s0, s1, s2⟩ := hS; go_simp; rfl
        refine wpAnyT_pureD 3 (some 81) ?v88 rfl (by kernel_rfl) (by kernel_rfl) (by kernel_rfl) (by kernel_rfl) (fun _ _ _ h => h) hS0 (by kernel_rfl) rfl ?run88 ?rest88
        case run88 => intro w hS; obtain ⟨s0, s1, s2⟩ := hS; go_simp; rfl
        refine wpAnyT_pureD 4 (some 82) ?v89 rfl (by kernel_rfl) (by kernel_rfl) (by kernel_rfl) (by kernel_rfl) (fun _ _ _ h => h) hS0 (by kernel_rfl) rfl ?run89 ?rest89
        case run89 => intro w hS; obtain ⟨s0, s1, s2⟩ := hS; go_simp; rfl
        refine wpAnyT_pureD 5 (some 83) ?v90 rfl (by kernel_rfl) (by kernel_rfl) (by kernel_rfl) (by kernel_rfl) (fun _ _ _ h => h) hS0 (by kernel_rfl) rfl ?run90 ?rest90
        case run90 => intro w hS; obtain ⟨s0, s1, s2⟩ := hS; go_simp; rfl
        refine wpAnyT_pureD 6 (some 84) ?v91 rfl (by kernel_rfl) (by kernel_rfl) (by kernel_rfl) (by kernel_rfl) (fun _ _ _ h => h) hS0 (by kernel_rfl) rfl ?run91 ?rest91
        case run91 => intro w hS; obtain ⟨s0, s1, s2⟩ := hS; go_simp; rfl
        refine wpAnyT_pureC 7 (some 85) [8] ?v92 rfl (by kernel_rfl) (by kernel_rfl) (by kernel_rfl) (by kernel_rfl) (fun _ _ _ h => h) hS0 (by kernel_rfl) rfl ?run92 ?rest92
        case run92 => intro w hS; obtain ⟨s0, s1, s2⟩ := hS; go_simp; rfl
        refine wpAnyT_pureD 8 (some 86) ?v93 rfl (by kernel_rfl) (by kernel_rfl) (by kernel_rfl) (by kernel_rfl) (fun _ _ _ h => h) hS0 (by kernel_rfl) rfl ?run93 ?rest93
        case run93 => intro w hS; obtain ⟨s0, s1, s2⟩ := hS; go_simp; rfl
        obtain ⟨s0, s1, s2⟩ := hS0
        refine wpAnyT_step 9 none ?ws94 rfl (by kernel_rfl) (by kernel_rfl) ?rs94 rfl (fun h => absurd rfl h) ?_
        case rs94 => go_simp; rfl
        refine wpAnyT_done (by kernel_rfl) ?_ _
        obtain ⟨V2, hV2⟩ : ∃ V, (V1.drewN 1).setCell ⟨p, 5, none⟩ (iv (dq - x.co)) = V := ⟨_, rfl⟩
        generalize hA : Act.put _ _ _ = A0
        simp only [put_mk, put_no, List.setIfInBounds_toArray, List.set_cons_succ, List.set_cons_zero] at hA
        subst hA
        rw [show (V1.drewN 1).setCell ⟨p, 5, none⟩ (Value.int .i64 (dq - x.co)) = V2 from hV2]
        have HO2 := Lib.hid (show OnlyAt p w3 V2 by rw [← hV2]; exact (HO1.out.drewN 1).set 5 _)
        have HC2 := Lib.hid (show V2.heap[p]? = some (.cells #[iv a.turns, .bool n0, .bool n1, .bool n2, .bool n3, iv (dq - x.co), .bool a.gone, sv] 78 (0, 0)) by rw [← hV2]; exact set_cells HC1.out)
        have HX5 := Lib.hid ((HO2.out.block xb HXP.out).trans HX3.out)
        have HM5 := Lib.hid ((HO2.out.block b (Ne.symm HPB.out)).trans HA3.out.main)
        obtain ⟨dz, hdz⟩ : ∃ v, dq - x.co = v := ⟨_, rfl⟩
        rw [hdz] at HC2 HSPN
        have hdz1 : dz ≤ 64 * (N3 + 1 : Nat) := by have := HTU.out; omega
        clear hV2 hdz hw2 d5 f5 x3
        obtain ⟨d0, d1, d2, d3, d4, d5, d6, d7⟩ := cells8' HC2.out
        have f6 := (lies_cells HC2.out).2 6
        obtain ⟨x0, x1, x2, x3, x4⟩ := cells5 HX5.out
        obtain ⟨y5, y6, y7, y8, y9⟩ := cells10 HM5.out
        have h8 := (lies_cells HM5.out).2 8
        have h9 := (lies_cells HM5.out).2 9
        have m1 : (p == b) = false := by simpa using HPB.out
        have m2 : (b == p) = false := by simpa using Ne.symm HPB.out
        have m3 : (xb == p) = false := by simpa using HXP.out
        have m4 : (p == xb) = false := by simpa using Ne.symm HXP.out
        have m5 : (xb == b) = false := by simpa using HXBB.out
        have m6 : (b == xb) = false := by simpa using Ne.symm HXBB.out
        obtain ⟨fin0, hfin⟩ : ∃ v, x.fin = v := ⟨_, rfl⟩
        rw [hfin] at x4 HSPN
        clear hfin d0 d1 d2 d3 d4 d7 x1 x2 x3 y5 y6 y7
        rcases (by omega : dz < -7 ∨ (-7 ≤ dz ∧ dz ≤ 0) ∨ 0 < dz) with hz | ⟨hz1, hz2⟩ | hz
        · cases fin0
          all_goals
            go_wp2
            go_ret
            exact .inl ⟨by rw [HENT.out, HSPN.out, if_neg HSP2.out, if_pos hz], (by first | rfl | exact ret_boolQ (decide_eq_false (by omega))), HF3.out.trans (((((Fr.refl ρ3 w3).only HO2.out (by rw [HRP.out]; simp)).setCell ⟨p, 6, none⟩ (by rw [HRP.out]; simp) _).setCell ⟨b, 8, none⟩ (by rw [HA3.out.rb]; simp) _).setCell ⟨b, 9, none⟩ (by rw [HA3.out.rb]; simp) _) HR3.out⟩
        · cases fin0
          all_goals
            go_wp2
            go_ret
            refine .inr ⟨_, N3 + 1, ρ3, pt1, sm3, by rw [HENT.out, HSPN.out, if_neg HSP2.out, if_neg (by omega)], (by first | rfl | exact ret_boolQ (decide_eq_true (by omega))), AudAt.spent HA3.out HL3.out HP.out HGA.out HE1.out HE2.out HE3.out HAC.out (HO2.out.trans ((OnlyAt.refl p V2).set 6 _)) (set_cells HC2.out) ⟨by omega, hdz1⟩ (((OnlyAt.refl b _).set 8 _).set 9 _) ?_, HF3.out.trans (((((Fr.refl ρ3 w3).only HO2.out (by rw [HRP.out]; simp)).setCell ⟨p, 6, none⟩ (by rw [HRP.out]; simp) _).setCell ⟨b, 8, none⟩ (by rw [HA3.out.rb]; simp) _).setCell ⟨b, 9, none⟩ (by rw [HA3.out.rb]; simp) _) HR3.out, HR3.out, by have := HN3.out; omega⟩
            rw [decide_eq_false (show ¬ 0 < dz by omega)]
            exact set_cells (set_cells ((((OnlyAt.refl p V2).set 6 _).block b (Ne.symm HPB.out)).trans HM5.out))
        · cases fin0
          all_goals
            go_wp2
            go_ret
            refine .inr ⟨_, N3 + 1, ρ3, pt1, sm3, by rw [HENT.out, HSPN.out, if_neg HSP2.out, if_neg (by omega)], (by first | rfl | exact ret_boolQ (decide_eq_true (by omega))), AudAt.spent HA3.out HL3.out HP.out HGA.out HE1.out HE2.out HE3.out HAC.out (HO2.out.trans ((OnlyAt.refl p V2).set 6 _)) (set_cells HC2.out) ⟨by omega, hdz1⟩ (((OnlyAt.refl b _).set 8 _).set 9 _) ?_, HF3.out.trans (((((Fr.refl ρ3 w3).only HO2.out (by rw [HRP.out]; simp)).setCell ⟨p, 6, none⟩ (by rw [HRP.out]; simp) _).setCell ⟨b, 8, none⟩ (by rw [HA3.out.rb]; simp) _).setCell ⟨b, 9, none⟩ (by rw [HA3.out.rb]; simp) _) HR3.out, HR3.out, by have := HN3.out; omega⟩
            rw [decide_eq_true hz]
            exact set_cells (set_cells ((((OnlyAt.refl p V2).set 6 _).block b (Ne.symm HPB.out)).trans HM5.out))
end Go.Proofs.Ytbgoogjhgeoapaa
