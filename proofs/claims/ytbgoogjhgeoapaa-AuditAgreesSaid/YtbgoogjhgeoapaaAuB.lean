/- Walks: the audit's begin. Printed by wip/gen_aub.py. -/
import Derived.Test.YtbgoogjhgeoapaaAuV
import Derived.Test.YtbgoogjhgeoapaaHold3
import Derived.BigQuiet
import Derived.Deep.QuietTactic
set_option linter.unusedVariables false
set_option linter.unusedSimpArgs false
set_option linter.unusedSectionVars false
namespace Go.Proofs.Ytbgoogjhgeoapaa
open Go.RowKit
variable [Base]

theorem quantum_eq {ba p ag pe r : Int} (h : qf ba p ag pe = r) (w : World) : Calls Try.prog 44 #[iv ba, iv p, iv ag, iv pe] w fun e w' => e = .returned (iv r) ∧ w' = w := h ▸ quantum_any ba p ag pe w
set_option maxRecDepth 100000 in
set_option maxHeartbeats 4000000 in
theorem begin_any {B M N : Nat} {w : World} {b : Nat} {c : CV} {s : Aud} {km : Nat} {ρ : Rho} {pt sm : Int → Nat} (h : AudAt B M N w b c s km ρ pt sm) (x : TV) (hx : turnB x = true) (hs : (accOf s.known x.q).isSome) (hN : N + M ≤ 1000000000) :
    Calls Try.prog 37 #[pv b, pv (pt x.q), turnV x] w (BegQ B M N w b c s km ρ pt sm x) := by
  obtain ⟨hr, ha⟩ := h.role hs
  obtain ⟨a, haa⟩ : ∃ a, getAcc s.known x.q = a := ⟨_, rfl⟩
  have hain : a ∈ s.known ∧ a.id = x.q := by rw [← haa]; exact h.get hs
  rw [haa] at ha
  obtain ⟨m0, m1, m2, m3, sv, e1, e2, e3⟩ := ha.cells
  obtain ⟨p, hp⟩ : ∃ p, pt x.q = p := ⟨_, rfl⟩
  rw [hp] at ha e2 hr ⊢
  obtain ⟨m, hm⟩ : ∃ m : Nat → Bool, m = fun j => a.may.getD j false := ⟨_, rfl⟩
  obtain ⟨f, hf⟩ : ∃ f : Nat → Bool, f = fun (j : Nat) => decide (x.qu = qf c.ba (j : Int) a.turns c.ag) := ⟨_, rfl⟩
  have hcs : accCells a (mk m f 0) sv = #[iv a.turns, .bool m0, .bool m1, .bool m2, .bool m3, iv a.df, .bool a.gone, sv] := by rw [hm, e1]; rfl
  unfold turnV
  obtain ⟨W, hW⟩ : ∃ W, w.alloc (.cells #[iv x.q, iv x.qu, iv x.st, iv x.co, .bool x.fin] 53) = W := ⟨_, rfl⟩
  have HB0 : W.heap[w.heap.size]? = some (.cells #[iv x.q, iv x.qu, iv x.st, iv x.co, .bool x.fin] 53 (0, 0)) := by rw [← hW]; exact heap_alloc_new _ _
  have HP0 : W.heap[p]? = some (.cells (accCells a (mk m f 0) sv) 78 (0, 0)) := by rw [← hW, Below.heap_alloc _ _ _ (lt_heap e2), hcs]; exact e2
  have hAW : AudAt B M N W b c s km ρ pt sm := by rw [← hW]; exact h.alloc _
  have hpb : p ≠ b := fun e => by rw [e, h.rb] at hr; cases hr
  have hpx : p ≠ w.heap.size := fun e => by have := ha.lt.1; omega
  have haW : AccAt W N p (sm x.q) a := by rw [← hW]; exact ha.keep (Below.heap_alloc _ _ _ ha.lt.1) (fun ht => Below.heap_alloc _ _ _ (ha.lt.2 ht))
  have HX := Lib.hid HB0
  have HP := Lib.hid HP0
  have HA := Lib.hid hAW
  have HW := Lib.hid hW
  have HPB := Lib.hid hpb
  have HPX := Lib.hid hpx
  have HF := Lib.hid hf
  have HM := Lib.hid hm
  have HS := Lib.hid hs
  have HAA := Lib.hid haa
  have HIN := Lib.hid hain
  have HPT := Lib.hid hp
  have HR := Lib.hid hr
  have HAC := Lib.hid haW
  have HSV := Lib.hid (show (a.turns = 0 ∧ sv = .map none) ∨ (0 < a.turns ∧ sv = .map (some (sm x.q)) ∧ MapI W (sm x.q) N a.since) by
    rcases e3 with e3 | ⟨e3, e4, e5⟩
    · exact .inl e3
    · exact .inr ⟨e3, e4, by rw [← hW]; exact e5.block (Below.heap_alloc _ _ _ e5.lt)⟩)
  have HTU := Lib.hid (turnB_co' hx)
  have HRX := Lib.hid (show ρ w.heap.size = none from h.new _ (Nat.le_refl _))
  have HBIG := Lib.hid hN
  obtain ⟨xb, hxb⟩ : ∃ xb, w.heap.size = xb := ⟨_, rfl⟩
  rw [hxb] at HX HPX HRX
  have HXB := Lib.hid hxb
  clear h hx hs hr ha haa e1 e2 e3 hp hcs hW HB0 HP0 hAW hpb hpx hm hf hain haW hN
  go_enter Try.func37, Try.ntmps37
  go_wp2_with fail
  rw [show w.alloc (.cells #[iv x.q, iv x.qu, iv x.st, iv x.co, .bool x.fin] 53) = W from HW.out]
  clear hxb
  go_loopw [7, 11] (fun y7 y11 wr => ∃ k : Nat, k ≤ 4 ∧ y7 = .bool ((List.range k).any fun j => m j && f j) ∧ y11 = .int .i64 k ∧ Hid (OnlyAt p W wr) ∧ Hid (wr.heap[p]? = some (.cells (accCells a (mk m f k) sv) 78 (0, 0)))) (fun _ y _ => 4 - (intOf y).toNat)
  case atStart => exact ⟨0, by omega, rfl, rfl, OnlyAt.refl _ _, HP.out⟩
  case round =>
    obtain ⟨k, hk, rfl, rfl, HO, HC⟩ := hrel
    by_cases hlt : k < 4
    · have hc := accCells_get HC.out hlt
      obtain ⟨q1, q2, q3⟩ := hc
      have qm : mk m f k k = m k := if_neg (by omega)
      rw [qm] at q1
      have q4 := q3 (1 + k)
      obtain ⟨z5, z6, z7, z8, z9⟩ := cells10 ((HO.out.block b (Ne.symm HPB.out)).trans HA.out.main)
      obtain ⟨x0, x1, x2, x3, x4⟩ := cells5 ((HO.out.block _ (Ne.symm HPX.out)).trans HX.out)
      obtain ⟨QQ, hQ⟩ : ∃ Q, qf c.ba (k : Int) a.turns c.ag = Q := ⟨_, rfl⟩
      have hfk : f k = decide (x.qu = QQ) := by rw [HF.out, ← hQ]
      have HQ := Lib.hid hQ
      have e1 : (0 : Int) ≤ (k : Int) := by omega
      have e2 : (k : Int) < 4 := by omega
      obtain ⟨sb, hsb⟩ : ∃ sb, ((List.range k).any fun j => m j && f j) = sb := ⟨_, rfl⟩
      have HSB := Lib.hid hsb
      have HFK := Lib.hid hfk
      obtain ⟨mk0, hmk0⟩ : ∃ mk0, m k = mk0 := ⟨_, rfl⟩
      rw [hmk0] at q1
      have HMK := Lib.hid hmk0
      obtain ⟨fk, hfk2⟩ : ∃ fk, (x.qu == QQ) = fk := ⟨_, rfl⟩
      have HBW := Lib.hid hfk2
      clear qm q3 hQ hfk z7 z8 z9 x0 x2 x3 x4 hmk0
      rw [hsb]
      clear hsb
      go_wp2_with fail
      cases mk0 with
      | true =>
        refine wp_region_D (S := fun w' => w'.cell? ⟨p, 1 + k, none⟩ = some (.bool true) ∧ w'.cell? ⟨p, 0, none⟩ = some (iv a.turns) ∧ w'.cell? ⟨xb, 1, none⟩ = some (iv x.qu) ∧ w'.cell? ⟨b, 5, none⟩ = some (iv c.ba) ∧ w'.cell? ⟨b, 6, none⟩ = some (iv c.ag) ∧ w'.frozen? ⟨p, 1 + k, none⟩ = false) (st := 32) (by kernel_rfl) ?_
        have hS0 : (fun w' : World => w'.cell? ⟨p, 1 + k, none⟩ = some (.bool true) ∧ w'.cell? ⟨p, 0, none⟩ = some (iv a.turns) ∧ w'.cell? ⟨xb, 1, none⟩ = some (iv x.qu) ∧ w'.cell? ⟨b, 5, none⟩ = some (iv c.ba) ∧ w'.cell? ⟨b, 6, none⟩ = some (iv c.ag) ∧ w'.frozen? ⟨p, 1 + k, none⟩ = false) _ := ⟨q1, q2, x1, z5, z6, q4⟩
        refine wpAnyT_pureD 0 (some 14) ?v1 rfl (by kernel_rfl) (by kernel_rfl) (by kernel_rfl) (by kernel_rfl) (fun _ _ _ h => h) hS0 (by kernel_rfl) rfl ?run1 ?rest1
        case run1 => intro w hS; obtain ⟨s0, s1, s2, s3, s4, s5⟩ := hS; go_simp; rfl
        refine wpAnyT_pureD 1 (some 15) ?v2 rfl (by kernel_rfl) (by kernel_rfl) (by kernel_rfl) (by kernel_rfl) (fun _ _ _ h => h) hS0 (by kernel_rfl) rfl ?run2 ?rest2
        case run2 => intro w hS; obtain ⟨s0, s1, s2, s3, s4, s5⟩ := hS; go_simp; rfl
        refine wpAnyT_pureD 2 (some 16) ?v3 rfl (by kernel_rfl) (by kernel_rfl) (by kernel_rfl) (by kernel_rfl) (fun _ _ _ h => h) hS0 (by kernel_rfl) rfl ?run3 ?rest3
        case run3 => intro w hS; obtain ⟨s0, s1, s2, s3, s4, s5⟩ := hS; go_simp; rfl
        refine wpAnyT_pureD 3 (some 17) ?v4 rfl (by kernel_rfl) (by kernel_rfl) (by kernel_rfl) (by kernel_rfl) (fun _ _ _ h => h) hS0 (by kernel_rfl) rfl ?run4 ?rest4
        case run4 => intro w hS; obtain ⟨s0, s1, s2, s3, s4, s5⟩ := hS; go_simp; rfl
        refine wpAnyT_pureD 4 (some 18) ?v5 rfl (by kernel_rfl) (by kernel_rfl) (by kernel_rfl) (by kernel_rfl) (fun _ _ _ h => h) hS0 (by kernel_rfl) rfl ?run5 ?rest5
        case run5 => intro w hS; obtain ⟨s0, s1, s2, s3, s4, s5⟩ := hS; go_simp; rfl
        refine wpAnyT_pureD 5 (some 19) ?v6 rfl (by kernel_rfl) (by kernel_rfl) (by kernel_rfl) (by kernel_rfl) (fun _ _ _ h => h) hS0 (by kernel_rfl) rfl ?run6 ?rest6
        case run6 => intro w hS; obtain ⟨s0, s1, s2, s3, s4, s5⟩ := hS; go_simp; rfl
        refine wpAnyT_pureD 6 (some 20) ?v7 rfl (by kernel_rfl) (by kernel_rfl) (by kernel_rfl) (by kernel_rfl) (fun _ _ _ h => h) hS0 (by kernel_rfl) rfl ?run7 ?rest7
        case run7 => intro w hS; obtain ⟨s0, s1, s2, s3, s4, s5⟩ := hS; go_simp; rfl
        refine wpAnyT_pureD 7 (some 21) ?v8 rfl (by kernel_rfl) (by kernel_rfl) (by kernel_rfl) (by kernel_rfl) (fun _ _ _ h => h) hS0 (by kernel_rfl) rfl ?run8 ?rest8
        case run8 => intro w hS; obtain ⟨s0, s1, s2, s3, s4, s5⟩ := hS; go_simp; rfl
        refine wpAnyT_pureD 8 (some 22) ?v9 rfl (by kernel_rfl) (by kernel_rfl) (by kernel_rfl) (by kernel_rfl) (fun _ _ _ h => h) hS0 (by kernel_rfl) rfl ?run9 ?rest9
        case run9 => intro w hS; obtain ⟨s0, s1, s2, s3, s4, s5⟩ := hS; go_simp; rfl
        refine wpAnyT_pureD 9 (some 23) ?v10 rfl (by kernel_rfl) (by kernel_rfl) (by kernel_rfl) (by kernel_rfl) (fun _ _ _ h => h) hS0 (by kernel_rfl) rfl ?run10 ?rest10
        case run10 => intro w hS; obtain ⟨s0, s1, s2, s3, s4, s5⟩ := hS; go_simp; rfl
        refine wpAnyT_pureD 10 (some 24) ?v11 rfl (by kernel_rfl) (by kernel_rfl) (by kernel_rfl) (by kernel_rfl) (fun _ _ _ h => h) hS0 (by kernel_rfl) rfl ?run11 ?rest11
        case run11 => intro w hS; obtain ⟨s0, s1, s2, s3, s4, s5⟩ := hS; go_simp; rfl
        refine wpAnyT_pureD 11 (some 25) ?v12 rfl (by kernel_rfl) (by kernel_rfl) (by kernel_rfl) (by kernel_rfl) (fun _ _ _ h => h) hS0 (by kernel_rfl) rfl ?run12 ?rest12
        case run12 => intro w hS; obtain ⟨s0, s1, s2, s3, s4, s5⟩ := hS; go_simp; rfl
        refine wpAnyT_pureD 12 (some 26) ?v13 rfl (by kernel_rfl) (by kernel_rfl) (by kernel_rfl) (by kernel_rfl) (fun _ _ _ h => h) hS0 (by kernel_rfl) rfl ?run13 ?rest13
        case run13 => intro w hS; obtain ⟨s0, s1, s2, s3, s4, s5⟩ := hS; go_simp; rfl
        refine wpAnyT_pureD 13 (some 27) ?v14 rfl (by kernel_rfl) (by kernel_rfl) (by kernel_rfl) (by kernel_rfl) (fun _ _ _ h => h) hS0 (by kernel_rfl) rfl ?run14 ?rest14
        case run14 => intro w hS; obtain ⟨s0, s1, s2, s3, s4, s5⟩ := hS; go_simp; rfl
        refine wpAnyT_pureD 14 (some 28) ?v15 rfl (by kernel_rfl) (by kernel_rfl) (by kernel_rfl) (by kernel_rfl) (fun _ _ _ h => h) hS0 (by kernel_rfl) rfl ?run15 ?rest15
        case run15 => intro w hS; obtain ⟨s0, s1, s2, s3, s4, s5⟩ := hS; go_simp; rfl
        refine wpAnyT_pureD 15 (some 29) ?v16 rfl (by kernel_rfl) (by kernel_rfl) (by kernel_rfl) (by kernel_rfl) (fun _ _ _ h => h) hS0 (by kernel_rfl) rfl ?run16 ?rest16
        case run16 => intro w hS; obtain ⟨s0, s1, s2, s3, s4, s5⟩ := hS; go_simp; rfl
        refine wpAnyT_pureD 16 (some 30) ?v17 rfl (by kernel_rfl) (by kernel_rfl) (by kernel_rfl) (by kernel_rfl) (fun _ _ _ h => h) hS0 (by kernel_rfl) rfl ?run17 ?rest17
        case run17 => intro w hS; obtain ⟨s0, s1, s2, s3, s4, s5⟩ := hS; go_simp; rfl
        refine wpAnyT_pureD 17 (some 31) ?v18 rfl (by kernel_rfl) (by kernel_rfl) (by kernel_rfl) (by kernel_rfl) (fun _ _ _ h => h) hS0 (by kernel_rfl) rfl ?run18 ?rest18
        case run18 => intro w hS; obtain ⟨s0, s1, s2, s3, s4, s5⟩ := hS; go_simp; rfl
        refine wpAnyT_pureD 18 (some 32) ?v19 rfl (by kernel_rfl) (by kernel_rfl) (by kernel_rfl) (by kernel_rfl) (fun _ _ _ h => h) hS0 (by kernel_rfl) rfl ?run19 ?rest19
        case run19 => intro w hS; obtain ⟨s0, s1, s2, s3, s4, s5⟩ := hS; go_simp; rfl
        refine wpAnyT_pureD 19 (some 33) ?v20 rfl (by kernel_rfl) (by kernel_rfl) (by kernel_rfl) (by kernel_rfl) (fun _ _ _ h => h) hS0 (by kernel_rfl) rfl ?run20 ?rest20
        case run20 => intro w hS; obtain ⟨s0, s1, s2, s3, s4, s5⟩ := hS; go_simp; rfl
        refine wpAnyT_pureD 20 (some 34) ?v21 rfl (by kernel_rfl) (by kernel_rfl) (by kernel_rfl) (by kernel_rfl) (fun _ _ _ h => h) hS0 (by kernel_rfl) rfl ?run21 ?rest21
        case run21 => intro w hS; obtain ⟨s0, s1, s2, s3, s4, s5⟩ := hS; go_simp; rfl
        refine wpAnyT_pureD 21 (some 35) ?v22 rfl (by kernel_rfl) (by kernel_rfl) (by kernel_rfl) (by kernel_rfl) (fun _ _ _ h => h) hS0 (by kernel_rfl) rfl ?run22 ?rest22
        case run22 => intro w hS; obtain ⟨s0, s1, s2, s3, s4, s5⟩ := hS; go_simp; rfl
        refine wpAnyT_pureD 22 (some 36) ?v23 rfl (by kernel_rfl) (by kernel_rfl) (by kernel_rfl) (by kernel_rfl) (fun _ _ _ h => h) hS0 (by kernel_rfl) rfl ?run23 ?rest23
        case run23 => intro w hS; obtain ⟨s0, s1, s2, s3, s4, s5⟩ := hS; go_simp; rfl
        refine wpAnyT_pureD 23 (some 37) ?v24 rfl (by kernel_rfl) (by kernel_rfl) (by kernel_rfl) (by kernel_rfl) (fun _ _ _ h => h) hS0 (by kernel_rfl) rfl ?run24 ?rest24
        case run24 => intro w hS; obtain ⟨s0, s1, s2, s3, s4, s5⟩ := hS; go_simp; rfl
        refine wpAnyT_pureD 24 (some 38) ?v25 rfl (by kernel_rfl) (by kernel_rfl) (by kernel_rfl) (by kernel_rfl) (fun _ _ _ h => h) hS0 (by kernel_rfl) rfl ?run25 ?rest25
        case run25 => intro w hS; obtain ⟨s0, s1, s2, s3, s4, s5⟩ := hS; go_simp; rfl
        refine wpAnyT_pureD 25 (some 39) ?v26 rfl (by kernel_rfl) (by kernel_rfl) (by kernel_rfl) (by kernel_rfl) (fun _ _ _ h => h) hS0 (by kernel_rfl) rfl ?run26 ?rest26
        case run26 => intro w hS; obtain ⟨s0, s1, s2, s3, s4, s5⟩ := hS; go_simp; rfl
        refine wpAnyT_pureC 29 (some 43) [30, 31] ?v27 rfl (by kernel_rfl) (by kernel_rfl) (by kernel_rfl) (by kernel_rfl) (fun _ _ _ h => h) hS0 (by kernel_rfl) rfl ?run27 ?rest27
        case run27 => intro w hS; obtain ⟨s0, s1, s2, s3, s4, s5⟩ := hS; go_simp; rfl
        refine wpAnyT_pureC 30 (some 44) [31] ?v28 rfl (by kernel_rfl) (by kernel_rfl) (by kernel_rfl) (by kernel_rfl) (fun _ _ _ h => h) hS0 (by kernel_rfl) rfl ?run28 ?rest28
        case run28 => intro w hS; obtain ⟨s0, s1, s2, s3, s4, s5⟩ := hS; go_simp; rfl
        refine wpAnyT_call 26 (some 40) 44 #[iv c.ba, iv k, iv a.turns, iv c.ag] rfl (by kernel_rfl) (by kernel_rfl) (by kernel_rfl) rfl ?_
        refine (quantum_eq HQ.out _).mono ?_
        rintro e z1 ⟨rfl, rfl⟩
        refine ⟨_, rfl, fun _ => hS0, ?_⟩
        refine wpAnyT_pureD 27 (some 41) ?v29 rfl (by kernel_rfl) (by kernel_rfl) (by kernel_rfl) (by kernel_rfl) (fun _ _ _ h => h) hS0 (by kernel_rfl) rfl ?run29 ?rest29
        case run29 => intro w hS; obtain ⟨s0, s1, s2, s3, s4, s5⟩ := hS; go_simp; rfl
        refine wpAnyT_pureD 28 (some 42) ?v30 rfl (by kernel_rfl) (by kernel_rfl) (by kernel_rfl) (by kernel_rfl) (fun _ _ _ h => h) hS0 (by kernel_rfl) rfl ?run30 ?rest30
        case run30 => intro w hS; obtain ⟨s0, s1, s2, s3, s4, s5⟩ := hS; go_simp; rfl
        refine wpAnyT_pureD 31 (some 45) ?v31 rfl (by kernel_rfl) (by kernel_rfl) (by kernel_rfl) (by kernel_rfl) (fun _ _ _ h => h) hS0 (by kernel_rfl) rfl ?run31 ?rest31
        case run31 => intro w hS; obtain ⟨s0, s1, s2, s3, s4, s5⟩ := hS; go_simp; rfl
        obtain ⟨s0, s1, s2, s3, s4, s5⟩ := hS0
        refine wpAnyT_step 32 none ?ws32 rfl (by kernel_rfl) (by kernel_rfl) ?rs32 rfl (fun h => absurd rfl h) ?_
        case rs32 => go_simp; rfl
        refine wpAnyT_done (by kernel_rfl) ?_ _
        obtain ⟨V, hV⟩ : ∃ V, (wr.drewN 1).setCell ⟨p, 1 + k, none⟩ (.bool fk) = V := ⟨_, rfl⟩
        have hval : (m k && f k) = fk := by rw [HMK.out, HFK.out, ← HBW.out]; rfl
        have HOV := Lib.hid (show OnlyAt p W V by rw [← hV]; exact (HO.out.drewN 1).set _ _)
        have HCV := Lib.hid (show V.heap[p]? = some (.cells (accCells a (mk m f (k + 1)) sv) 78 (0, 0)) by
          rw [← hV, ← accCells_set hlt, hval]; exact set_cells HC.out)
        have v1 : V.cell? ⟨p, 1 + k, none⟩ = some (.bool fk) := by
          have h1 := (accCells_get HCV.out hlt).1
          rw [show mk m f (k + 1) k = fk by unfold mk; rw [if_pos (Nat.lt_succ_self k)]; exact hval] at h1
          exact h1
        have HY := Lib.hid (show ((List.range (k + 1)).any fun j => m j && f j) = (sb || fk) by rw [List.range_succ, List.any_append, HSB.out]; simp [hval])
        generalize hA : Act.put _ _ _ = A0
        simp only [put_mk, put_no, List.setIfInBounds_toArray, List.set_cons_succ, List.set_cons_zero] at hA
        subst hA
        rw [hV]
        clear hV hval q1 q2 q4 z5 z6 x1
        cases sb
        all_goals
          go_wp2
          go_roundw
          case rel => exact ⟨k + 1, by omega, by rw [HY.out]; rfl, by go_num, HOV, HCV⟩
          case measure => simp [intOf]; omega
      | false =>
        refine wp_region_D (S := fun w' => w'.cell? ⟨p, 1 + k, none⟩ = some (.bool false) ∧ w'.cell? ⟨p, 0, none⟩ = some (iv a.turns) ∧ w'.cell? ⟨xb, 1, none⟩ = some (iv x.qu) ∧ w'.cell? ⟨b, 5, none⟩ = some (iv c.ba) ∧ w'.cell? ⟨b, 6, none⟩ = some (iv c.ag) ∧ w'.frozen? ⟨p, 1 + k, none⟩ = false) (st := 32) (by kernel_rfl) ?_
        have hS0 : (fun w' : World => w'.cell? ⟨p, 1 + k, none⟩ = some (.bool false) ∧ w'.cell? ⟨p, 0, none⟩ = some (iv a.turns) ∧ w'.cell? ⟨xb, 1, none⟩ = some (iv x.qu) ∧ w'.cell? ⟨b, 5, none⟩ = some (iv c.ba) ∧ w'.cell? ⟨b, 6, none⟩ = some (iv c.ag) ∧ w'.frozen? ⟨p, 1 + k, none⟩ = false) _ := ⟨q1, q2, x1, z5, z6, q4⟩
        refine wpAnyT_pureD 0 (some 14) ?v33 rfl (by kernel_rfl) (by kernel_rfl) (by kernel_rfl) (by kernel_rfl) (fun _ _ _ h => h) hS0 (by kernel_rfl) rfl ?run33 ?rest33
        case run33 => intro w hS; obtain ⟨s0, s1, s2, s3, s4, s5⟩ := hS; go_simp; rfl
        refine wpAnyT_pureD 1 (some 15) ?v34 rfl (by kernel_rfl) (by kernel_rfl) (by kernel_rfl) (by kernel_rfl) (fun _ _ _ h => h) hS0 (by kernel_rfl) rfl ?run34 ?rest34
        case run34 => intro w hS; obtain ⟨s0, s1, s2, s3, s4, s5⟩ := hS; go_simp; rfl
        refine wpAnyT_pureD 2 (some 16) ?v35 rfl (by kernel_rfl) (by kernel_rfl) (by kernel_rfl) (by kernel_rfl) (fun _ _ _ h => h) hS0 (by kernel_rfl) rfl ?run35 ?rest35
        case run35 => intro w hS; obtain ⟨s0, s1, s2, s3, s4, s5⟩ := hS; go_simp; rfl
        refine wpAnyT_pureD 3 (some 17) ?v36 rfl (by kernel_rfl) (by kernel_rfl) (by kernel_rfl) (by kernel_rfl) (fun _ _ _ h => h) hS0 (by kernel_rfl) rfl ?run36 ?rest36
        case run36 => intro w hS; obtain ⟨s0, s1, s2, s3, s4, s5⟩ := hS; go_simp; rfl
        refine wpAnyT_pureD 4 (some 18) ?v37 rfl (by kernel_rfl) (by kernel_rfl) (by kernel_rfl) (by kernel_rfl) (fun _ _ _ h => h) hS0 (by kernel_rfl) rfl ?run37 ?rest37
        case run37 => intro w hS; obtain ⟨s0, s1, s2, s3, s4, s5⟩ := hS; go_simp; rfl
        refine wpAnyT_pureD 5 (some 19) ?v38 rfl (by kernel_rfl) (by kernel_rfl) (by kernel_rfl) (by kernel_rfl) (fun _ _ _ h => h) hS0 (by kernel_rfl) rfl ?run38 ?rest38
        case run38 => intro w hS; obtain ⟨s0, s1, s2, s3, s4, s5⟩ := hS; go_simp; rfl
        refine wpAnyT_pureD 6 (some 20) ?v39 rfl (by kernel_rfl) (by kernel_rfl) (by kernel_rfl) (by kernel_rfl) (fun _ _ _ h => h) hS0 (by kernel_rfl) rfl ?run39 ?rest39
        case run39 => intro w hS; obtain ⟨s0, s1, s2, s3, s4, s5⟩ := hS; go_simp; rfl
        refine wpAnyT_pureD 7 (some 21) ?v40 rfl (by kernel_rfl) (by kernel_rfl) (by kernel_rfl) (by kernel_rfl) (fun _ _ _ h => h) hS0 (by kernel_rfl) rfl ?run40 ?rest40
        case run40 => intro w hS; obtain ⟨s0, s1, s2, s3, s4, s5⟩ := hS; go_simp; rfl
        refine wpAnyT_pureD 8 (some 22) ?v41 rfl (by kernel_rfl) (by kernel_rfl) (by kernel_rfl) (by kernel_rfl) (fun _ _ _ h => h) hS0 (by kernel_rfl) rfl ?run41 ?rest41
        case run41 => intro w hS; obtain ⟨s0, s1, s2, s3, s4, s5⟩ := hS; go_simp; rfl
        refine wpAnyT_skip 9 (some 23) rfl (by kernel_rfl) (by kernel_rfl) (by kernel_rfl) (by kernel_rfl) (fun _ _ _ h => h) hS0 (by kernel_rfl) rfl ?_
        refine wpAnyT_skip 10 (some 24) rfl (by kernel_rfl) (by kernel_rfl) (by kernel_rfl) (by kernel_rfl) (fun _ _ _ h => h) hS0 (by kernel_rfl) rfl ?_
        refine wpAnyT_skip 11 (some 25) rfl (by kernel_rfl) (by kernel_rfl) (by kernel_rfl) (by kernel_rfl) (fun _ _ _ h => h) hS0 (by kernel_rfl) rfl ?_
        refine wpAnyT_skip 12 (some 26) rfl (by kernel_rfl) (by kernel_rfl) (by kernel_rfl) (by kernel_rfl) (fun _ _ _ h => h) hS0 (by kernel_rfl) rfl ?_
        refine wpAnyT_skip 13 (some 27) rfl (by kernel_rfl) (by kernel_rfl) (by kernel_rfl) (by kernel_rfl) (fun _ _ _ h => h) hS0 (by kernel_rfl) rfl ?_
        refine wpAnyT_skip 14 (some 28) rfl (by kernel_rfl) (by kernel_rfl) (by kernel_rfl) (by kernel_rfl) (fun _ _ _ h => h) hS0 (by kernel_rfl) rfl ?_
        refine wpAnyT_skip 15 (some 29) rfl (by kernel_rfl) (by kernel_rfl) (by kernel_rfl) (by kernel_rfl) (fun _ _ _ h => h) hS0 (by kernel_rfl) rfl ?_
        refine wpAnyT_skip 16 (some 30) rfl (by kernel_rfl) (by kernel_rfl) (by kernel_rfl) (by kernel_rfl) (fun _ _ _ h => h) hS0 (by kernel_rfl) rfl ?_
        refine wpAnyT_skip 17 (some 31) rfl (by kernel_rfl) (by kernel_rfl) (by kernel_rfl) (by kernel_rfl) (fun _ _ _ h => h) hS0 (by kernel_rfl) rfl ?_
        refine wpAnyT_skip 18 (some 32) rfl (by kernel_rfl) (by kernel_rfl) (by kernel_rfl) (by kernel_rfl) (fun _ _ _ h => h) hS0 (by kernel_rfl) rfl ?_
        refine wpAnyT_skip 19 (some 33) rfl (by kernel_rfl) (by kernel_rfl) (by kernel_rfl) (by kernel_rfl) (fun _ _ _ h => h) hS0 (by kernel_rfl) rfl ?_
        refine wpAnyT_skip 20 (some 34) rfl (by kernel_rfl) (by kernel_rfl) (by kernel_rfl) (by kernel_rfl) (fun _ _ _ h => h) hS0 (by kernel_rfl) rfl ?_
        refine wpAnyT_skip 21 (some 35) rfl (by kernel_rfl) (by kernel_rfl) (by kernel_rfl) (by kernel_rfl) (fun _ _ _ h => h) hS0 (by kernel_rfl) rfl ?_
        refine wpAnyT_skip 22 (some 36) rfl (by kernel_rfl) (by kernel_rfl) (by kernel_rfl) (by kernel_rfl) (fun _ _ _ h => h) hS0 (by kernel_rfl) rfl ?_
        refine wpAnyT_skip 23 (some 37) rfl (by kernel_rfl) (by kernel_rfl) (by kernel_rfl) (by kernel_rfl) (fun _ _ _ h => h) hS0 (by kernel_rfl) rfl ?_
        refine wpAnyT_skip 24 (some 38) rfl (by kernel_rfl) (by kernel_rfl) (by kernel_rfl) (by kernel_rfl) (fun _ _ _ h => h) hS0 (by kernel_rfl) rfl ?_
        refine wpAnyT_skip 25 (some 39) rfl (by kernel_rfl) (by kernel_rfl) (by kernel_rfl) (by kernel_rfl) (fun _ _ _ h => h) hS0 (by kernel_rfl) rfl ?_
        refine wpAnyT_pureC 29 (some 43) [30, 31] ?v59 rfl (by kernel_rfl) (by kernel_rfl) (by kernel_rfl) (by kernel_rfl) (fun _ _ _ h => h) hS0 (by kernel_rfl) rfl ?run59 ?rest59
        case run59 => intro w hS; obtain ⟨s0, s1, s2, s3, s4, s5⟩ := hS; go_simp; rfl
        refine wpAnyT_pureC 30 (some 44) [31] ?v60 rfl (by kernel_rfl) (by kernel_rfl) (by kernel_rfl) (by kernel_rfl) (fun _ _ _ h => h) hS0 (by kernel_rfl) rfl ?run60 ?rest60
        case run60 => intro w hS; obtain ⟨s0, s1, s2, s3, s4, s5⟩ := hS; go_simp; rfl
        refine wpAnyT_skip 26 (some 40) rfl (by kernel_rfl) (by kernel_rfl) (by kernel_rfl) (by kernel_rfl) (fun _ _ _ h => h) hS0 (by kernel_rfl) rfl ?_
        refine wpAnyT_skip 27 (some 41) rfl (by kernel_rfl) (by kernel_rfl) (by kernel_rfl) (by kernel_rfl) (fun _ _ _ h => h) hS0 (by kernel_rfl) rfl ?_
        refine wpAnyT_pureD 28 (some 42) ?v62 rfl (by kernel_rfl) (by kernel_rfl) (by kernel_rfl) (by kernel_rfl) (fun _ _ _ h => h) hS0 (by kernel_rfl) rfl ?run62 ?rest62
        case run62 => intro w hS; obtain ⟨s0, s1, s2, s3, s4, s5⟩ := hS; go_simp; rfl
        refine wpAnyT_pureD 31 (some 45) ?v63 rfl (by kernel_rfl) (by kernel_rfl) (by kernel_rfl) (by kernel_rfl) (fun _ _ _ h => h) hS0 (by kernel_rfl) rfl ?run63 ?rest63
        case run63 => intro w hS; obtain ⟨s0, s1, s2, s3, s4, s5⟩ := hS; go_simp; rfl
        obtain ⟨s0, s1, s2, s3, s4, s5⟩ := hS0
        refine wpAnyT_step 32 none ?ws64 rfl (by kernel_rfl) (by kernel_rfl) ?rs64 rfl (fun h => absurd rfl h) ?_
        case rs64 => go_simp; rfl
        refine wpAnyT_done (by kernel_rfl) ?_ _
        obtain ⟨V, hV⟩ : ∃ V, (wr.drewN 1).setCell ⟨p, 1 + k, none⟩ (.bool false) = V := ⟨_, rfl⟩
        have hval : (m k && f k) = false := by rw [HMK.out]; rfl
        have HOV := Lib.hid (show OnlyAt p W V by rw [← hV]; exact (HO.out.drewN 1).set _ _)
        have HCV := Lib.hid (show V.heap[p]? = some (.cells (accCells a (mk m f (k + 1)) sv) 78 (0, 0)) by
          rw [← hV, ← accCells_set hlt, hval]; exact set_cells HC.out)
        have v1 : V.cell? ⟨p, 1 + k, none⟩ = some (.bool false) := by
          have h1 := (accCells_get HCV.out hlt).1
          rw [show mk m f (k + 1) k = false by unfold mk; rw [if_pos (Nat.lt_succ_self k)]; exact hval] at h1
          exact h1
        have HY := Lib.hid (show ((List.range (k + 1)).any fun j => m j && f j) = (sb || false) by rw [List.range_succ, List.any_append, HSB.out]; simp [hval])
        generalize hA : Act.put _ _ _ = A0
        simp only [put_mk, put_no, List.setIfInBounds_toArray, List.set_cons_succ, List.set_cons_zero] at hA
        subst hA
        rw [hV]
        clear hV hval q1 q2 q4 z5 z6 x1
        cases sb
        all_goals
          go_wp2
          go_roundw
          case rel => exact ⟨k + 1, by omega, by rw [HY.out]; rfl, by go_num, HOV, HCV⟩
          case measure => simp [intOf]; omega
    · have hk4 : k = 4 := by omega
      subst hk4
      obtain ⟨V, rfl⟩ : ∃ V, V = wr := ⟨_, rfl⟩
      obtain ⟨some0, hsome⟩ : ∃ b, ((List.range 4).any fun j => m j && f j) = b := ⟨_, rfl⟩
      have HY := Lib.hid (show (mayQ c a x.qu).any id = some0 by rw [← hsome, HM.out, HF.out]; unfold mayQ; rw [List.any_map]; rfl)
      have HFR := Lib.hid (show Fr ρ w V from Fr.only (by rw [← HW.out]; exact (Fr.refl ρ w).alloc _) HO.out (by rw [HR.out]; simp))
      rw [hsome]
      clear hsome
      cases some0
      · go_wp2
        go_ret
        exact .inl ⟨by unfold beginA; rw [HAA.out]; simp [HY.out], rfl, HFR.out⟩
      obtain ⟨a1, ha1⟩ : ∃ a1 : Acc, { a with may := mayQ c a x.qu } = a1 := ⟨_, rfl⟩
      have HA1E := Lib.hid ha1
      have hid1 : a1.id = x.q := by rw [← ha1]; exact HIN.out.2
      have hAC1 : AccAt V N p (sm x.q) a1 := by
        refine ⟨⟨mk m f 4 0, mk m f 4 1, mk m f 4 2, mk m f 4 3, sv, ?_, ?_, ?_⟩, by rw [← ha1]; exact HAC.out.tu, by rw [← ha1]; exact HAC.out.df, by rw [← ha1]; exact HAC.out.si⟩
        · rw [← ha1, HM.out, HF.out]; rfl
        · rw [← ha1]; exact HC.out
        · rw [← ha1]
          rcases HSV.out with e3 | ⟨e3, e4, e5⟩
          · exact .inl e3
          · refine .inr ⟨e3, e4, e5.block (HO.out.block _ (fun e => ?_))⟩
            obtain ⟨es, cl, h1⟩ := e5.isMap
            rw [e, HP.out] at h1; cases h1
      have HAU := Lib.hid (show AudAt B M N V b c { s with known := putAcc s.known a1 } km ρ pt sm from by
        have hp1 : pt a1.id = p := by rw [hid1]; exact HPT.out
        refine AudAt.smq (AudAt.put (m' := sm x.q) HA.out a1 (by rw [hid1]; exact HS.out) (by rw [hp1]; exact hAC1) (Nat.le_refl _) (Nat.le_of_eq HO.out.size.symm) (fun q _ h1 _ => HO.out.block q (by rw [← hp1]; exact h1)) (fun _ _ => rfl) (fun ht => ?_) (fun q hq => HA.out.new q (by rw [← HO.out.size]; exact hq))) (fun k => ?_)
        · rw [hid1, ← HIN.out.2]
          exact HA.out.rs a HIN.out.1 (by rw [← ha1] at ht; exact ht)
        · split
          · rename_i e; rw [e, hid1]
          · rfl)
      have HU1 := Lib.hid HAU.out.uq
      obtain ⟨D, hown, hat, hhas⟩ := HAU.out.mp
      have HOWN := Lib.hid hown
      have HAT := Lib.hid hat
      have HHAS := Lib.hid hhas
      have HID1 := Lib.hid hid1
      have HAC2 := Lib.hid hAC1
      obtain ⟨z5, z6, z7, z8, z9⟩ := cells10 HAU.out.main
      obtain ⟨it, hit⟩ : ∃ it, V.heap.size = it := ⟨_, rfl⟩
      have HIT := Lib.hid hit
      have HBX := Lib.hid (show V.heap[xb]? = _ from (HO.out.block _ (Ne.symm HPX.out)).trans HX.out)
      clear ha1 hid1 hAC1 hown hat hhas hlt hk HC HP HA HAC HX hit
      go_wp2_with (at_range; refine wpList_range_own _ rfl _ 60 rfl TI 73 (Maps.int_keyed und_int) und_mp ptrEnc.R km M D rfl HOWN.out ?_; intro w0 hrg0 hg0 hs0)
      try go_frame
      have HRG := Lib.hid hrg0
      have HG0 := Lib.hid hg0
      have HS0 := Lib.hid hs0
      rw [HIT.out] at HRG ⊢
      clear hrg0 hg0 hs0 z5 z6 z7 z8 z9
      go_loopw [9] (fun _ wr2 => ∃ left cnt j, Hid (Vis B M N V b c { s with known := putAcc s.known a1 } km ρ pt sm x.q D it a1 left cnt j wr2)) (fun _ wr2 => wr2.rangeLeft km it)
      case atStart =>
        refine ⟨Maps.has D, Maps.size D, 0, ⟨HRG.out, ?_, ?_, ?_, fun y hy hl => ?_, fun y hy => ?_⟩⟩
        · have := HOWN.out.size_le; omega
        · show AudAt B M N w0 b c { s with known := (putAcc s.known a1).map (vis (Maps.has D) x.q) } km ρ pt sm
          have hall : ∀ y ∈ putAcc s.known a1, Maps.has D (kl y.id) = true := fun y hy => by
            have h1 := HAU.out.wf y hy
            rw [HHAS.out y.id (wf_small (by omega)), HU1.out y hy]; rfl
          rw [vis_start hall]
          exact HAU.out.frame HG0.out.size (fun q hq => HG0.out.block q (by
            rcases Nat.lt_or_ge q V.heap.size with h1 | h1
            · exact h1
            · exact absurd (HAU.out.new q h1) hq) (by simp))
        · exact ⟨HG0.out.os, HG0.out.tape, HG0.out.output, HG0.out.size, fun q hq _ => HG0.out.block q hq (by simp)⟩
        · have h1 := HAU.out.wf y hy
          rw [HHAS.out y.id (wf_small (by omega)), HU1.out y hy] at hl; cases hl
        · cases Maps.has D (kl y.id) <;> simp
      case round =>
        obtain ⟨left, cnt, j, HV⟩ := hrel
        clear HRG HG0 HS0
        go_wp2_with (at_next; refine wpList_next_ptr rfl _ rfl und_int rfl HV.out.rg ?_ ?_)
        · intro hc0 hl0
          obtain ⟨U, rfl⟩ : ∃ U, U = wr := ⟨_, rfl⟩
          have HAE := Lib.hid (show AudAt B M (N + j) U b c { s with known := (putAcc s.known a1).map (bumpAcc x.q) } km ρ pt sm by have := HV.out.au; rw [vis_end hl0] at this; exact this)
          have HOKA := Lib.hid (show ∀ y ∈ putAcc s.known a1, badB a1 y = false from fun y hy => HV.out.ok y hy (hl0 _))
          have HFU := Lib.hid HV.out.fr
          have hjm := HV.out.le
          have hsq : (accOf ((putAcc s.known a1).map (bumpAcc x.q)) x.q).isSome := isSome_map (bumpAcc_id _) (isSome_map (putAcc_id a1) HS.out)
          have hge : getAcc ((putAcc s.known a1).map (bumpAcc x.q)) x.q = a1 := by
            rw [getAcc_bump]
            have h1 : getAcc (putAcc s.known a1) a1.id = a1 := getAcc_put (by rw [HID1.out]; exact HS.out)
            rw [HID1.out] at h1
            rw [h1]
            have := bump_self a1
            rw [HID1.out] at this
            exact this
          have hac := (HAE.out.role hsq).2
          rw [hge, HPT.out] at hac
          obtain ⟨n0, n1, n2, n3, sv2, e1, e2, e3⟩ := hac.cells
          obtain ⟨c0, c1, c2, c3, c4, c5, c6, c7⟩ := cells8' e2
          have f0 := (lies_cells e2).2 0
          have f7 := (lies_cells e2).2 7
          have hltp := lt_heap e2
          have hnep : p ≠ U.heap.size := by omega
          have hb1 : (p == U.heap.size) = false := by simpa using hnep
          have hb2 : (U.heap.size == p) = false := by simpa using Ne.symm hnep
          have HE1 := Lib.hid e1
          have HE2 := Lib.hid e2
          have HACU := Lib.hid hac
          have htu := hac.tu
          have hbig := HBIG.out
          have hw1 : wrap64 (a1.turns + 1) = a1.turns + 1 := IntWalk.wrap64_in _ (by omega)
          have hmm := @run_makeMap Try.prog
          have HSQ := Lib.hid hsq
          obtain ⟨tq, htq⟩ : ∃ t, a1.turns = t := ⟨_, rfl⟩
          rw [htq] at hw1 c0
          have HTQ := Lib.hid htq
          clear hc0 hl0 HV e1 e2 e3 hac hge hsq htu hbig htq
          go_wp2
          go_ret
          have FW := fin_world HE2.out (iv (tq + 1)) (.map #[] 0) (.map (some U.heap.size))
          refine .inr ⟨putAcc (s.known.map (bumpAcc x.q)) { a1 with turns := a1.turns + 1, since := fun _ => 0 }, N + j + 1, fun q => if q = U.heap.size then some (3, x.q) else ρ q, fun k => if k = x.q then U.heap.size else sm k, ?_, rfl, ?_, ?_, fun q hq => ?_, by omega⟩
          · unfold beginA
            have hb : s.known.any (badB a) = false := by
              rw [List.any_eq_false]
              intro y hy hbad
              have e : badB a y = badB a1 y := by rw [← HA1E.out]; rfl
              rw [e] at hbad
              by_cases hyq : y.id = a1.id
              · unfold badB at hbad; simp [hyq] at hbad
              · have h1 := HOKA.out y (by
                  unfold putAcc
                  exact List.mem_map.2 ⟨y, hy, if_neg hyq⟩)
                rw [h1] at hbad; cases hbad
            rw [HAA.out]
            simp only [HY.out, hb]
            rw [← HA1E.out]
            rfl
          · have hp1 : pt a1.id = p := by rw [HID1.out]; exact HPT.out
            have hput := AudAt.put (N' := N + j + 1) (m' := U.heap.size) (ρ' := fun q => if q = U.heap.size then some (3, x.q) else ρ q) HAE.out { a1 with turns := a1.turns + 1, since := fun _ => 0 } (by show (accOf _ a1.id).isSome; rw [HID1.out]; exact HSQ.out) (w' := ((U.setCell ⟨p, 0, none⟩ (iv (tq + 1))).setCell ⟨p, 7, none⟩ (.map (some U.heap.size))).alloc (.map #[] 0))
              ?_ (Nat.le_succ _) (by rw [FW.2.2.2]; omega) (fun q hq h1 _ => FW.2.2.1 q hq (by rw [← hp1]; exact h1)) (fun q hq => if_neg (by omega)) (fun _ => ?_) (fun q hq => ?_)
            · have e : putAcc ((putAcc s.known a1).map (bumpAcc x.q)) { a1 with turns := a1.turns + 1, since := fun _ => 0 } = putAcc (s.known.map (bumpAcc x.q)) { a1 with turns := a1.turns + 1, since := fun _ => 0 } := put_bump _ _ rfl
              have h2 := hput.known (l := putAcc (s.known.map (bumpAcc x.q)) { a1 with turns := a1.turns + 1, since := fun _ => 0 }) e
              refine AudAt.smq h2 (fun k => ?_)
              show (if k = a1.id then U.heap.size else sm k) = _
              rw [HID1.out]
            · have hpp : pt ({ a1 with turns := a1.turns + 1, since := fun _ => 0 } : Acc).id = p := hp1
              rw [hpp]
              have htu := HACU.out.tu
              have hdf := HACU.out.df
              refine ⟨⟨n0, n1, n2, n3, .map (some U.heap.size), HE1.out, ?_, .inr ⟨by show 0 < a1.turns + 1; omega, rfl, ?_⟩⟩, ⟨by show 0 ≤ a1.turns + 1; omega, by show a1.turns + 1 ≤ _; omega⟩, ⟨hdf.1, by show a1.df ≤ _; omega⟩, fun k => ⟨Int.le_refl 0, by show (0 : Int) ≤ _; omega⟩⟩
              · rw [FW.1, ← HTQ.out]; rfl
              · exact ⟨fun _ => false, .map [], ⟨#[], 0, FW.2.1, ⟨by simp, MapKept.stamped_empty 0, by simp⟩, by simp, rfl⟩, fun k _ => rfl, fun k _ => rfl⟩
            · show (if U.heap.size = U.heap.size then some ((3 : Nat), x.q) else _) = some (3, a1.id)
              rw [if_pos rfl, HID1.out]
            · rw [FW.2.2.2] at hq
              show (if q = U.heap.size then some ((3 : Nat), x.q) else ρ q) = none
              rw [if_neg (by omega)]; exact HAE.out.new q (by omega)
          · exact ((((HFR.out.trans HFU.out (fun _ _ => rfl)).setCell ⟨p, 0, none⟩ (by rw [HR.out]; simp) _).setCell ⟨p, 7, none⟩ (by rw [HR.out]; simp) _).alloc _)
          · have h1 := HFR.out.size
            have h2 := HFU.out.size
            exact if_neg (by omega)
        · intro k u w1 cnt1 hwk hlk hat1 hrg1 hlt1 hg1 hs1 hen
          have hhas1 := Maps.has_true_of_atKey hat1
          rw [HHAS.out k hwk] at hhas1
          obtain ⟨y, hy⟩ : ∃ y, accOf (putAcc s.known a1) k = some y := by
            cases e : accOf (putAcc s.known a1) k with
            | none => simp only [e] at hhas1; cases hhas1
            | some y => exact ⟨y, rfl⟩
          have hyk : y.id = k := accOf_id hy
          have hyin : y ∈ putAcc s.known a1 := List.mem_of_find?_eq_some hy
          have hu : u = some (pt k) := by
            have h1 := (hat1 (ptrEnc.en ptrEnc.z0)).symm.trans (HAT.out k hwk)
            simp only [hy, Option.map_some] at h1
            exact ptrD_inj _ _ h1
          subst hu
          subst hyk
          have hau1 := HV.out.au.grown hg1 (HAU.out.new it (Nat.le_of_eq HIT.out))
          have hacy := hau1.acc (vis left x.q y) (List.mem_map.2 ⟨y, hyin, rfl⟩)
          rw [show vis left x.q y = y from if_pos hlk] at hacy
          have hfr1 : Fr ρ V w1 := ⟨hg1.os.trans HV.out.fr.os, hg1.tape.trans HV.out.fr.tape, hg1.output.trans HV.out.fr.output, Nat.le_trans HV.out.fr.size hg1.size, fun q hq hn => (hg1.block q (Nat.lt_of_lt_of_le hq HV.out.fr.size) (fun e => by have h1 := HIT.out; cases e; omega)).trans (HV.out.fr.block q hq hn)⟩
          have hwy := HAU.out.wf y hyin
          obtain ⟨py, hpy⟩ : ∃ py, pt y.id = py := ⟨_, rfl⟩
          obtain ⟨my, hmy⟩ : ∃ my, sm y.id = my := ⟨_, rfl⟩
          obtain ⟨ky, hky⟩ : ∃ ky, y.id = ky := ⟨_, rfl⟩
          have HRY := Lib.hid (HAU.out.ra y hyin)
          have HRM := Lib.hid (HAU.out.rs y hyin)
          rw [hpy] at hacy hen HRY
          rw [hmy] at hacy HRM
          simp only [ptrV] at hen ⊢
          rw [hpy]
          rw [hky] at hen ⊢
          obtain ⟨n0, n1, n2, n3, sv2, E1, E2, E3⟩ := hacy.cells
          obtain ⟨c0, c1, c2, c3, c4, c5, c6, c7⟩ := cells8' E2
          obtain ⟨x0, x1, x2, x3, x4⟩ := cells5 ((hfr1.block xb (lt_heap HBX.out) HRX.out).trans HBX.out)
          have HPY := Lib.hid hpy
          have HMY := Lib.hid hmy
          have HKY := Lib.hid hky
          have HAY := Lib.hid hacy
          have HAU1 := Lib.hid hau1
          have HFR1 := Lib.hid hfr1
          have HRG1 := Lib.hid hrg1
          have HYIN := Lib.hid hyin
          have HLK := Lib.hid hlk
          have HWY := Lib.hid hwy
          have HE1 := Lib.hid E1
          have HE2 := Lib.hid E2
          have HE3 := Lib.hid E3
          have HLT := Lib.hid hlt1
          have HME := Lib.hid (show w1.rangeLeft km it = cnt1 from hrg1.left_eq)
          have HME0 := Lib.hid (show wr.rangeLeft km it = cnt from HV.out.rg.left_eq)
          clear hhas1 hy hyin hat1 hwk hrg1 hlt1 hg1 hs1 hau1 hacy hfr1 hpy hmy hky hlk hwy E1 E2 E3 x1 x2 x3 x4 c1 c2 c3 c4 c5
          by_cases hkq : ky = x.q
          · have bk : (ky == x.q) = true := by simpa using hkq
            have HKQ := Lib.hid hkq
            clear hkq
            go_wp2
            go_roundw
            case rel =>
              refine ⟨less left y.id, cnt1, j, Vis.step HV.out HYIN.out HRG1.out HLT.out (Nat.le_succ j) ?_ HFR1.out ?_ HU1.out⟩
              · have e : y.id = x.q := HKY.out.trans HKQ.out
                rw [vis_skip HU1.out HYIN.out HLK.out (by rw [← e]; exact bump_self y)]
                exact HAU1.out
              · unfold badB
                rw [HID1.out, HKY.out, HKQ.out]
                simp
            case measure => rw [HME.out, HME0.out]; exact HLT.out
          have bk : (ky == x.q) = false := by simpa using hkq
          have HKQ := Lib.hid hkq
          clear hkq
          rcases (by have := HAY.out.tu; omega : y.turns = 0 ∨ 0 < y.turns) with hty | hty
          · have bt : (y.turns == 0) = true := by simpa using hty
            have HTY := Lib.hid hty
            clear hty
            go_wp2
            go_roundw
            case rel =>
              refine ⟨less left y.id, cnt1, j, Vis.step HV.out HYIN.out HRG1.out HLT.out (Nat.le_succ j) ?_ HFR1.out ?_ HU1.out⟩
              · rw [vis_skip HU1.out HYIN.out HLK.out (bump_zero HTY.out)]
                exact HAU1.out
              · unfold badB
                rw [HTY.out]
                simp
            case measure => rw [HME.out, HME0.out]; exact HLT.out
          have bt : (y.turns == 0) = false := by simp; omega
          obtain ⟨rfl, HMI⟩ : sv2 = .map (some my) ∧ Hid (MapI w1 my (N + j) y.since) := by
            rcases HE3.out with e3 | ⟨e3, e4, e5⟩
            · omega
            · exact ⟨e4, e5⟩
          have hrm := HRM.out hty
          have wq : Wf x.q := wf_small (by have := HTU.out; omega)
          obtain ⟨sy, hsy⟩ : ∃ v, y.since x.q = v := ⟨_, rfl⟩
          have hlk2 : (Instr.lookup 76 (.map (some my)) (iv x.q) false).run Try.prog (w1.drewN 1) = .ok (iv sy) (w1.drewN 1) := by rw [← hsy]; exact (show MapI (w1.drewN 1) my (N + j) y.since from HMI.out).look wq
          obtain ⟨th, hmf⟩ := HMI.out
          have hsb := HAY.out.si x.q
          rw [hsy] at hsb
          have hbg := HBIG.out
          have hle := HV.out.le
          have hwr : wrap64 (sy + 1) = sy + 1 := IntWalk.wrap64_in _ (by omega)
          have hwr2 : IntKind.i64.wrap (sy + 1) = sy + 1 := by first | exact hwr | (rw [IntKind.wrap_i64]; first | exact hwr | omega) | (have := hwr; unfold wrap64 at this; simp only [IntKind.wrap]; simpa using this) | (simp [IntKind.wrap]; omega)
          obtain ⟨w2, hrun, hm2, hg2⟩ := MapF.store (w := w1.drewN 1) hmf und_int und_mi (by unfold maxLen; omega) wq (sy + 1)
          have hrun' : (Instr.mapUpdate 76 (.map (some my)) (iv x.q) (iv (sy + 1))).run Try.prog (w1.drewN 1) = .ok () w2 := hrun
          have HM2 := Lib.hid hm2
          have HG2 := Lib.hid hg2
          have HSY := Lib.hid hsy
          have HTY := Lib.hid hty
          have HRM2 := Lib.hid hrm
          clear hrun hm2 hg2 hmf hsy hsb hbg hle hrm wq
          go_wp2_with fail
          refine wp_region_D (S := fun w' => w'.cell? ⟨py, 7, none⟩ = some (.map (some my)) ∧ w'.cell? ⟨xb, 0, none⟩ = some (iv x.q) ∧ (Instr.lookup 76 (.map (some my)) (iv x.q) false).run Try.prog w' = .ok (iv sy) w') (st := 8) (by kernel_rfl) ?_
          have hS0 : (fun w' : World => w'.cell? ⟨py, 7, none⟩ = some (.map (some my)) ∧ w'.cell? ⟨xb, 0, none⟩ = some (iv x.q) ∧ (Instr.lookup 76 (.map (some my)) (iv x.q) false).run Try.prog w' = .ok (iv sy) w') (w1.drewN 1) := ⟨c7, x0, hlk2⟩
          refine wpAnyT_pureD 0 (some 79) ?v65 rfl (by kernel_rfl) (by kernel_rfl) (by kernel_rfl) (by kernel_rfl) (fun _ _ _ h => h) hS0 (by kernel_rfl) rfl ?run65 ?rest65
          case run65 => intro w hS; obtain ⟨s0, s1, s2⟩ := hS; go_simp; rfl
          refine wpAnyT_pureD 1 (some 80) ?v66 rfl (by kernel_rfl) (by kernel_rfl) (by kernel_rfl) (by kernel_rfl) (fun _ _ _ h => h) hS0 (by kernel_rfl) rfl ?run66 ?rest66
          case run66 => intro w hS; obtain ⟨s0, s1, s2⟩ := hS; go_simp; rfl
          refine wpAnyT_pureD 2 (some 81) ?v67 rfl (by kernel_rfl) (by kernel_rfl) (by kernel_rfl) (by kernel_rfl) (fun _ _ _ h => h) hS0 (by kernel_rfl) rfl ?run67 ?rest67
          case run67 => intro w hS; obtain ⟨s0, s1, s2⟩ := hS; go_simp; rfl
          refine wpAnyT_pureD 3 (some 82) ?v68 rfl (by kernel_rfl) (by kernel_rfl) (by kernel_rfl) (by kernel_rfl) (fun _ _ _ h => h) hS0 (by kernel_rfl) rfl ?run68 ?rest68
          case run68 => intro w hS; obtain ⟨s0, s1, s2⟩ := hS; go_simp; rfl
          refine wpAnyT_pureD 4 (some 83) ?v69 rfl (by kernel_rfl) (by kernel_rfl) (by kernel_rfl) (by kernel_rfl) (fun _ _ _ h => h) hS0 (by kernel_rfl) rfl ?run69 ?rest69
          case run69 => intro w hS; obtain ⟨s0, s1, s2⟩ := hS; go_simp; rfl
          refine wpAnyT_pureD 5 (some 84) ?v70 rfl (by kernel_rfl) (by kernel_rfl) (by kernel_rfl) (by kernel_rfl) (fun _ _ _ h => h) hS0 (by kernel_rfl) rfl ?run70 ?rest70
          case run70 => intro w hS; obtain ⟨s0, s1, s2⟩ := hS; go_simp; rfl
          refine wpAnyT_pureD 6 (some 85) ?v71 rfl (by kernel_rfl) (by kernel_rfl) (by kernel_rfl) (by kernel_rfl) (fun _ _ _ h => h) hS0 (by kernel_rfl) rfl ?run71 ?rest71
          case run71 => intro w hS; obtain ⟨s0, s1, s2⟩ := hS; go_simp; rfl
          refine wpAnyT_pureD 7 (some 86) ?v72 rfl (by kernel_rfl) (by kernel_rfl) (by kernel_rfl) (by kernel_rfl) (fun _ _ _ h => h) hS0 (by kernel_rfl) rfl ?run72 ?rest72
          case run72 => intro w hS; obtain ⟨s0, s1, s2⟩ := hS; go_simp; rfl
          refine wpAnyT_step 8 none w2 rfl (by kernel_rfl) (by kernel_rfl) ?rs14 rfl (fun h => absurd rfl h) ?_
          case rs14 => go_simp
          refine wpAnyT_done (by kernel_rfl) ?_ _
          generalize hA : Act.put _ _ _ = A0
          simp only [put_mk, put_no, List.setIfInBounds_toArray, List.set_cons_succ, List.set_cons_zero] at hA
          subst hA
          have hpym : py ≠ my := fun e => by have h1 := HRY.out; rw [e, HRM2.out] at h1; simp at h1
          have hpm : p ≠ my := fun e => by have h1 := HR.out; rw [e, HRM2.out] at h1; simp at h1
          have hkm : some km ≠ some my := fun e => by have h1 := HAU.out.rk; injection e with e; rw [e, HRM2.out] at h1; simp at h1
          have him : some it ≠ some my := fun e => by have h1 := HAU.out.new it (Nat.le_of_eq HIT.out); injection e with e; rw [e, HRM2.out] at h1; simp at h1
          have hblk : ∀ q, q < w1.heap.size → q ≠ my → w2.heap[q]? = w1.heap[q]? := fun q hq hne => HG2.out.block q hq (fun e => hne (by cases e; rfl))
          have k6 : w2.cell? ⟨py, 6, none⟩ = some (.bool y.gone) := (World.cell?_of_block (hblk py (lt_heap HE2.out) hpym)).trans c6
          have hac1 : AccAt w1 (N + j) p (sm x.q) a1 := by
            have h1 := HAU1.out.acc (vis left x.q a1) (List.mem_map.2 ⟨a1, List.mem_map.2 ⟨a, HIN.out.1, if_pos (HIN.out.2.trans HID1.out.symm)⟩, rfl⟩)
            have h2 : vis left x.q a1 = a1 := by
              unfold vis
              split
              · rfl
              · rw [← HID1.out]; exact bump_self a1
            rw [h2, HID1.out, HPT.out] at h1
            exact h1
          obtain ⟨g0, g1, g2, g3, sv3, G1, G2, G3⟩ := hac1.cells
          obtain ⟨t0, t1, t2, t3, t4, t5, t6, t7⟩ := cells8' G2
          have d0 := (World.cell?_of_block (a := ⟨p, 0, none⟩) (hblk p (lt_heap G2) hpm)).trans t0
          have d7 := (World.cell?_of_block (a := ⟨p, 7, none⟩) (hblk p (lt_heap G2) hpm)).trans t7
          have RG2 := Lib.hid (World.ranges.kept (show (w1.drewN 1).ranges Try.prog TI ptrEnc.R km it M D (less left y.id) cnt1 from HRG1.out) HG2.out hkm him)
          have FR2 := Lib.hid ((HFR1.out.drewN 1).grown HG2.out (by rw [HRM2.out]; simp))
          have hkq : y.id ≠ x.q := by rw [HKY.out]; exact HKQ.out
          have AU2 := Lib.hid (show AudAt B M (N + (j + 1)) w2 b c { s with known := (putAcc s.known a1).map (vis (less left y.id) x.q) } km ρ pt sm by
            rw [vis_less HU1.out HYIN.out HLK.out]
            have hby : bumpAcc x.q y = { y with since := bump y.since x.q } := bump_yes hkq HTY.out
            have hbi : (bumpAcc x.q y).id = y.id := bumpAcc_id _ _
            refine AudAt.smq (AudAt.put (N' := N + (j + 1)) (m' := my) (ρ' := ρ) (w' := w2) (HAU1.out.drewN 1) (bumpAcc x.q y) ?_ ?_ (by omega) HG2.out.size (fun q hq _ h2 => HG2.out.block q hq (fun e => h2 (by cases e; rw [hbi]; exact HRM2.out))) (fun _ _ => rfl) (fun _ => by rw [hbi]; exact HRM2.out) (fun q hq => HAU1.out.new q (Nat.le_trans HG2.out.size hq))) (fun k => ?_)
            · rw [hbi]
              exact isSome_map (vis_id _ _) (by rw [HU1.out y HYIN.out]; rfl)
            · rw [hbi, HPY.out, hby]
              have h3 := HAY.out.si
              refine ⟨⟨n0, n1, n2, n3, .map (some my), HE1.out, (hblk py (lt_heap HE2.out) hpym).trans HE2.out, .inr ⟨HTY.out, rfl, _, (MapF.congr HM2.out (fun k => ?_) (fun _ => rfl))⟩⟩, ⟨HAY.out.tu.1, by have h4 := HAY.out.tu.2; show y.turns ≤ _; omega⟩, ⟨HAY.out.df.1, by have h4 := HAY.out.df.2; show y.df ≤ _; omega⟩, fun k => ?_⟩
              · show (if k = x.q then sy + 1 else y.since k) = bump y.since x.q k
                unfold bump
                split
                · rename_i e; rw [e, HSY.out]
                · rfl
              · show 0 ≤ bump y.since x.q k ∧ bump y.since x.q k ≤ _
                have h4 := h3 k
                unfold bump
                split <;> omega
            · show (if k = (bumpAcc x.q y).id then my else sm k) = sm k
              rw [hbi]
              split
              · rename_i e; rw [e, HMY.out]
              · rfl)
          have HRL := Lib.hid RG2.out.left_eq
          have HBN := Lib.hid (show badB a1 y = true → beginA c s.known x = none from fun hb => by
            have hyk : y ∈ s.known := by
              obtain ⟨z, hz, e⟩ := List.mem_map.1 HYIN.out
              by_cases e2 : z.id = a1.id
              · rw [if_pos e2] at e
                exact absurd (by rw [← e]; exact HID1.out) hkq
              · rw [if_neg e2] at e; rw [← e]; exact hz
            have : s.known.any (badB a) = true := by
              rw [List.any_eq_true]
              exact ⟨y, hyk, by rw [show badB a y = badB a1 y by rw [← HA1E.out]; rfl]; exact hb⟩
            unfold beginA
            rw [HAA.out]
            simp only [HY.out, this]
            rfl)
          have HMQ := Lib.hid (show 0 < a1.turns → sv3 = .map (some (sm x.q)) ∧ MapI w2 (sm x.q) (N + j) a1.since from fun ht => by
            rcases G3 with e3 | ⟨e3, e4, e5⟩
            · omega
            · refine ⟨e4, e5.block (hblk _ e5.lt (fun e => ?_))⟩
              have h1 := HAU1.out.rs (vis left x.q a1) (List.mem_map.2 ⟨a1, List.mem_map.2 ⟨a, HIN.out.1, if_pos (HIN.out.2.trans HID1.out.symm)⟩, rfl⟩)
              have h2 : vis left x.q a1 = a1 := by
                unfold vis
                split
                · rfl
                · rw [← HID1.out]; exact bump_self a1
              rw [h2, HID1.out] at h1
              have h5 := h1 ht
              rw [e, HRM2.out] at h5
              simp at h5
              exact hkq h5)
          have HAC9 := Lib.hid hac1
          have HBD := Lib.hid (show badB a1 y = (decide (0 < a1.turns) && (decide (1 < a1.since y.id) || (decide (a1.since y.id = 0) && !y.gone))) from by
            unfold badB
            rw [HID1.out]
            have h1 : ¬ y.turns = 0 := by have := HTY.out; omega
            simp [hkq, h1])
          have HWK := Lib.hid (show Wf y.id from wf_small (by have := HWY.out; omega))
          obtain ⟨tq, htq⟩ : ∃ t, a1.turns = t := ⟨_, rfl⟩
          rw [htq] at d0 HMQ HBD
          have htu := HAC9.out.tu
          rw [htq] at htu
          obtain ⟨sq, hsq⟩ : ∃ t, a1.since y.id = t := ⟨_, rfl⟩
          rw [hsq] at HBD
          have HSQ := Lib.hid hsq
          obtain ⟨go0, hgo⟩ : ∃ t, y.gone = t := ⟨_, rfl⟩
          rw [hgo] at HBD k6
          have hud : ∀ b : Bool, (undef = Value.bool b) = False := fun b => by simp [undef]
          clear hpym hpm hkm him hblk hac1 G1 G2 G3 t0 t1 t2 t3 t4 t5 t6 t7 hkq htq hsq hgo c6 c7 c0 x0 hlk2 hrun' hS0
          rcases (by omega : tq = 0 ∨ 0 < tq) with ht | ht
          · subst ht
            go_wp2
            go_roundw
            case rel => exact ⟨less left y.id, cnt1, j + 1, Vis.step HV.out HYIN.out RG2.out HLT.out (Nat.le_refl _) AU2.out FR2.out (by rw [HBD.out]; rfl) HU1.out⟩
            case measure => rw [HRL.out, HME0.out]; exact HLT.out
          obtain ⟨rfl, hmq⟩ := HMQ.out ht
          have hlk3 := hmq.look HWK.out
          rw [HKY.out] at hlk3
          rw [show a1.since ky = sq by rw [← HKY.out]; exact HSQ.out] at hlk3
          clear hmq
          rcases (by omega : 1 < sq ∨ (sq = 0 ∨ (sq ≤ 1 ∧ sq ≠ 0))) with hs1 | hs1 | ⟨hs1, hs2⟩
          · go_wp2
            go_ret
            exact .inl ⟨HBN.out (by rw [HBD.out]; simp [ht, hs1]), rfl, HFR.out.trans FR2.out (fun _ _ => rfl)⟩
          · subst hs1
            cases go0
            · go_wp2
              go_ret
              exact .inl ⟨HBN.out (by rw [HBD.out]; simp [ht]), rfl, HFR.out.trans FR2.out (fun _ _ => rfl)⟩
            · go_wp2
              go_roundw
              case rel => exact ⟨less left y.id, cnt1, j + 1, Vis.step HV.out HYIN.out RG2.out HLT.out (Nat.le_refl _) AU2.out FR2.out (by rw [HBD.out]; simp) HU1.out⟩
              case measure => rw [HRL.out, HME0.out]; exact HLT.out
          · have hs3 : (sq == 0) = false := by simpa using hs2
            have HS2 := Lib.hid hs2
            clear hs2
            go_wp2
            go_roundw
            case rel =>
              refine ⟨less left y.id, cnt1, j + 1, Vis.step HV.out HYIN.out RG2.out HLT.out (Nat.le_refl _) AU2.out FR2.out ?_ HU1.out⟩
              rw [HBD.out]
              have h1 := HS2.out
              have h2 : ¬ 1 < sq := by omega
              simp [h1, h2]
            case measure => rw [HRL.out, HME0.out]; exact HLT.out
end Go.Proofs.Ytbgoogjhgeoapaa
