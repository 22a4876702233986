/- The walk of the law on spaces. Printed by wip/gen_spl.py. -/
import Derived.Test.YtahdmekakbagnaaSpT
import Derived.Test.YtahdmekakbagnaaMid
import Derived.Test.YtahdmekakbagnaaSrc
import Derived.Test.YtahdmekakbagnaaHold
namespace Go.Proofs.Ytahdmekakbagnaa
open Go.RowKit

theorem sameB_loose : ∀ (a b : List Tok), a.map strip1 = b.map strip1 → sameB true a b = true
  | [], [], _ => rfl
  | [], _ :: _, h => by simp at h
  | _ :: _, [], h => by simp at h
  | x :: a, y :: b, h => by
    simp only [List.map_cons, List.cons.injEq, strip1, Prod.mk.injEq] at h
    simp [sameB, teq, h.1.1, h.1.2, sameB_loose a b h.2]
def sp3 : Array Value := #[.string ⟨#[32]⟩, .string ⟨#[9, 32]⟩, .string ⟨#[32, 32]⟩]
def sp5 : Array Value := #[.string ⟨#[10]⟩, .string ⟨#[59]⟩, .string ⟨#[32, 35, 32, 99, 111, 109, 109, 101, 110, 116, 32, 59, 32, 120, 32, 61, 32, 121, 10]⟩, .string ⟨#[59, 59, 10, 10]⟩, .string ⟨#[10, 59, 35, 10]⟩]
theorem sp3_at (q : Nat) (h : q < 3) : ∃ ws ∈ ([[32], [9, 32], [32, 32]] : List Str), sp3[q]? = some (sv ws) := by
  have : q = 0 ∨ q = 1 ∨ q = 2 := by omega
  rcases this with rfl | rfl | rfl <;> exact ⟨_, by simp, rfl⟩
theorem sp5_at (q : Nat) (h : q < 5) : ∃ ws ∈ seps, sp5[q]? = some (sv ws) := by
  have : q = 0 ∨ q = 1 ∨ q = 2 ∨ q = 3 ∨ q = 4 := by omega
  rcases this with rfl | rfl | rfl | rfl | rfl <;> exact ⟨_, by simp [seps], rfl⟩
theorem sum_take (f : KT → Nat) (l : List KT) (k : Nat) : ((l.take k).map f).sum ≤ (l.map f).sum := by
  have h : (l.map f).sum = ((l.take k).map f).sum + ((l.drop k).map f).sum := by rw [← List.sum_append_nat, ← List.map_append, List.take_append_drop]
  omega
theorem TokensAt.at_ {w : World} {b off n c : Nat} {l : List Tok} (h : TokensAt w (.slice (some ⟨b, off, none⟩) n c) l) {k : Nat} {t : Tok} (hk : l[k]? = some t) : b < w.heap.size ∧ w.cell? ⟨b, off + k * 4 + 1, none⟩ = some (sv t.text) ∧ w.cell? ⟨b, off + k * 4, none⟩ = some (.int .i64 t.kind) := by
  obtain ⟨a, c', e, _, _, _, hc⟩ := TokensAt.form h
  injection e with e1 e2 e3
  subst e1
  obtain ⟨b', off', e, hb, _, h4⟩ := hc k t hk
  injection e with e
  injection e with e1 e2
  subst e1 e2
  exact ⟨hb, h4 1 (by omega), h4 0 (by omega)⟩
/-- The pieces so far. -/
def Pcs (KL : List KT) (k : Nat) (ps : List Str) : Prop := ps.length = k ∧ k ≤ KL.length ∧ ∀ (i : Nat) (t : KT) (p : Str), KL[i]? = some t → ps[i]? = some p → Piece t p
theorem Pcs.len {KL : List KT} {k : Nat} {ps : List Str} (h : Pcs KL k ps) (hc : lcost KL ≤ 1938) : ps.flatten.length ≤ 1938 := by
  obtain ⟨h1, h0, h2⟩ := h
  have h3 := pieces_len (l := KL.take k) (ps := ps) (by rw [List.length_take]; omega) fun i t p e1 e2 => by
    have hi : i < k := by have := (List.getElem?_eq_some_iff.1 e2).1; omega
    rw [List.getElem?_take_of_lt hi] at e1
    exact h2 i t p e1 e2
  have h4 := sum_take kcost KL k
  have h5 : lcost KL = (KL.map kcost).sum := rfl
  omega
theorem Pcs.snoc {KL : List KT} {k : Nat} {ps : List Str} (h : Pcs KL k ps) {t : KT} {p : Str} (ht : KL[k]? = some t) (hp : Piece t p) : Pcs KL (k + 1) (ps ++ [p]) := by
  obtain ⟨h1, h0, h2⟩ := h
  refine ⟨by simp [h1], (List.getElem?_eq_some_iff.1 ht).1, fun i t' p' e1 e2 => ?_⟩
  rcases Nat.lt_or_ge i k with hi | hi
  · rw [List.getElem?_append_left (by omega)] at e2
    exact h2 i t' p' e1 e2
  · rw [List.getElem?_append_right (by omega)] at e2
    have hi2 : i = k := by
      rcases Nat.eq_or_lt_of_le hi with h | h
      · exact h.symm
      · rw [List.getElem?_eq_none (by simp; omega)] at e2; cases e2
    subst hi2
    rw [h1, Nat.sub_self] at e2
    injection e2 with e2
    rw [ht] at e1
    injection e1 with e1
    rw [← e1, ← e2]
    exact hp
theorem kcost_in {KL : List KT} {k : Nat} {t : KT} (h : KL[k]? = some t) : t.2.length ≤ lcost KL := by
  obtain ⟨hk, rfl⟩ := List.getElem?_eq_some_iff.1 h
  have h1 : kcost KL[k] ≤ lcost KL := by
    have e : KL = KL.take k ++ KL[k] :: KL.drop (k + 1) := by rw [← List.drop_eq_getElem_cons hk, List.take_append_drop]
    have h2 := congrArg lcost e
    rw [lcost_app, lcost_cons] at h2
    omega
  unfold kcost at h1
  omega
theorem piece_end {x ws sep : Str} {t : KT} (h1 : t.1 = 3) (hx : t.2 = x) (hw : ws ∈ ([[32], [9, 32], [32, 32]] : List Str)) (hs : sep ∈ seps) : Piece t (ws ++ (x ++ sep)) :=
  ⟨ws, hw, sep, fun _ => hs, fun h => absurd h1 h, by rw [hx]⟩
theorem piece_tok {x ws : Str} {t : KT} (h1 : t.1 ≠ 3) (hx : t.2 = x) (hw : ws ∈ ([[32], [9, 32], [32, 32]] : List Str)) : Piece t (ws ++ x) :=
  ⟨ws, hw, [], fun h => absurd h h1, fun _ => rfl, by rw [hx]; simp⟩

set_option maxHeartbeats 4000000 in
theorem spacesLaw_any (w0 : World) (a : Option Addr) (n c : Nat) (hn : n ≤ maxLen)
    (h : ∀ j : Nat, j < n → ∃ b off z, a = some ⟨b, off, none⟩ ∧ b < w0.heap.size ∧ w0.cell? ⟨b, off + j, none⟩ = some (.int .i64 z)) :
    Calls Try.prog 5 #[.slice a n c] w0 (BoolPost true w0) := by
  have H := Lib.hid h
  clear h
  go_enter Try.func5, Try.ntmps5
  go_wp2_with fail
  refine (new_any rfl a n c hn H.out).mono ?_
  rintro e w1 ⟨rfl, ht, hb⟩
  have M : Hid (Mid w0 w1) := ⟨ht, hb⟩
  clear ht hb
  go_wp2_with fail
  refine (program_any M.out.tape).mono ?_
  rintro e w2 ⟨p, v, hgp, rfl, hf, t2, b2⟩
  have M2 := Lib.hid (M.out.next t2 b2)
  have HG := Lib.hid hgp
  have HP := Lib.hid (print_any p v w2 hf)
  clear t2 b2 M hgp hf
  go_wp2_with fail
  refine HP.out.mono ?_
  rintro e w3 ⟨rfl, hb3⟩
  have M3 := Lib.hid (M2.out.trans hb3)
  clear hb3 M2 HP
  obtain ⟨toks, hs1, hs2⟩ := (rend_print (gen_valid HG.out)).scanned (print_len HG.out)
  have hscan := Lib.hid (fun w => scan_is ⟨(printT p).toArray⟩ w toks toks.length 0 0 0 hs1 rfl)
  have HS2 := Lib.hid hs2
  obtain ⟨tn, htn⟩ : ∃ tn, toks.length = tn := ⟨_, rfl⟩
  have HTN := Lib.hid htn
  have hpos : 0 < tn := by have h1 := congrArg List.length hs2; have h2 := toks_pos (gen_valid HG.out); simp at h1; omega
  rw [htn] at hscan
  have HC := Lib.hid (toks_cost HG.out)
  clear hs1 hs2 htn
  go_wp2_with fail
  refine (hscan.out _).mono ?_
  rintro e w4 ⟨la, lc, rfl, t4, b4⟩
  have M4 := Lib.hid (M3.out.trans b4.out)
  clear M3 b4 hscan
  go_wp2
  go_loopw [8, 9] (fun x v wr => ∃ (k : Nat) (ps : List Str), k ≤ tn ∧ v = .int .i64 k ∧ x = sv ps.flatten ∧ Hid (Pcs (toksT p) k ps) ∧ Hid (Mid w0 wr) ∧ Hid (TokensAt wr (.slice la tn lc) toks)) (fun _ v _ => tn - (intOf v).toNat)
  case atStart => exact ⟨0, [], Nat.zero_le _, rfl, rfl, ⟨rfl, Nat.zero_le _, fun i t p _ h => by cases h⟩, M4, t4⟩
  case round =>
    obtain ⟨k, ps, hk, rfl, rfl, HPs, M, T⟩ := hrel
    by_cases hlt : k < tn
    · obtain ⟨t, hT⟩ : ∃ t, toks[k]? = some t := ⟨_, List.getElem?_eq_getElem (show k < toks.length by have := HTN.out; omega)⟩
      have hK : (toksT p)[k]? = some (strip1 t) := by rw [← HS2.out, List.getElem?_map, hT]; rfl
      have hpl := HPs.out.len HC.out
      have htl := kcost_in hK
      have HK := Lib.hid hK
      obtain ⟨la', lc', e1, hml, _, _, hcell⟩ := TokensAt.form T.out
      have hk64 : k < 9223372036854775807 := by unfold maxLen at hml; have := HTN.out; omega
      clear hml
      injection e1 with e1 e2 e3
      subst e1 e3
      obtain ⟨tb, off, rfl, htb, _, hc⟩ := hcell k t hT
      have cS : wr.cell? ⟨tb, off + k * 4 + 1, none⟩ = some (sv t.text) := hc 1 (by omega)
      have cK : wr.cell? ⟨tb, off + k * 4, none⟩ = some (.int .i64 t.kind) := hc 0 (by omega)
      have htl : List.length t.text ≤ 1938 := Nat.le_trans htl HC.out
      have HT := Lib.hid hT
      clear hK hT hcell hc e2
      obtain ⟨tk, hkd⟩ : ∃ x, t.kind = x := ⟨_, rfl⟩
      obtain ⟨tx, htx⟩ : ∃ x, t.text = x := ⟨_, rfl⟩
      rw [hkd] at cK
      rw [htx] at cS htl
      have HKD := Lib.hid hkd
      have HTX := Lib.hid htx
      clear hkd htx
      obtain ⟨acc, hacc⟩ : ∃ x : Str, ps.flatten = x := ⟨_, rfl⟩
      rw [hacc] at hpl
      rw [hacc]
      have HACC := Lib.hid hacc
      clear hacc
      have hltk : (k : Int) < (tn : Int) := by omega
      have hk0 : (0 : Int) ≤ (k : Int) := by omega
      go_wp2_with fail
      refine wp_region_T (S := fun w' => w'.cell? ⟨tb, off + k * 4 + 1, none⟩ = some (sv tx)) (st := 13) (by kernel_rfl) ?_
      refine wpAnyT_pure 0 ?v1 rfl (by kernel_rfl) (by kernel_rfl) (by kernel_rfl) (by kernel_rfl) (fun _ _ _ h => h) cS rfl ?run1 ?rest1
      case run1 => intro w hS; go_simp; rfl
      case rest1 =>
      refine wpAnyT_pure 2 ?v2 rfl (by kernel_rfl) (by kernel_rfl) (by kernel_rfl) (by kernel_rfl) (fun _ _ _ h => h) cS rfl ?run2 ?rest2
      case run2 => intro w hS; go_simp; rfl
      case rest2 =>
      refine wpAnyT_pure 6 ?v3 rfl (by kernel_rfl) (by kernel_rfl) (by kernel_rfl) (by kernel_rfl) (fun _ _ _ h => h) cS rfl ?run3 ?rest3
      case run3 => intro w hS; go_simp; rfl
      case rest3 =>
      refine wpAnyT_pure 7 ?v4 rfl (by kernel_rfl) (by kernel_rfl) (by kernel_rfl) (by kernel_rfl) (fun _ _ _ h => h) cS rfl ?run4 ?rest4
      case run4 => intro w hS; go_simp; rfl
      case rest4 =>
      refine wpAnyT_pure 8 ?v5 rfl (by kernel_rfl) (by kernel_rfl) (by kernel_rfl) (by kernel_rfl) (fun _ _ _ h => h) cS rfl ?run5 ?rest5
      case run5 => intro w hS; go_simp; rfl
      case rest5 =>
      refine wpAnyT_pure 9 ?v6 rfl (by kernel_rfl) (by kernel_rfl) (by kernel_rfl) (by kernel_rfl) (fun _ _ _ h => h) cS rfl ?run6 ?rest6
      case run6 => intro w hS; go_simp; rfl
      case rest6 =>
      refine wpAnyT_pure 10 ?v7 rfl (by kernel_rfl) (by kernel_rfl) (by kernel_rfl) (by kernel_rfl) (fun _ _ _ h => h) cS rfl ?run7 ?rest7
      case run7 => intro w hS; go_simp; rfl
      case rest7 =>
      refine wpAnyT_all (rs := [1, 3]) (by kernel_rfl) (by decide) ?_
      intro i hi
      have hi2 : i = 1 ∨ i = 3 := by simpa using hi
      clear hi
      rcases hi2 with rfl | rfl
      · refine wpOp_of_list rfl ?_
        go_wp2
        have cA := (((Below.refl wr.heap.size wr).alloc (Nat.le_refl _) (.cells sp3 9)).cell (p := ⟨tb, off + k * 4 + 1, none⟩) htb).trans cS
        refine ⟨fun _ => cA, ?_⟩
        refine wpAnyT_all (rs := [3]) (by kernel_rfl) (by decide) ?_
        intro i hi
        obtain rfl : i = 3 := by simpa using hi
        clear hi
        refine wpOp_of_list rfl ?_
        go_wp2_with fail
        refine (next_any (((M.out.drewN 1).alloc _).tape) 3 (by omega)).mono ?_
        rintro e W2 ⟨q, q0, q1, rfl, t5, b5⟩
        obtain ⟨qn, rfl⟩ := Int.eq_ofNat_of_zero_le q0
        obtain ⟨ws, hws1, hp1⟩ := sp3_at qn (by omega)
        have hne : wr.heap.size ≠ w0.heap.size := by have := M.out.tape.lt; omega
        have hc5 : W2.cell? ⟨wr.heap.size, qn, none⟩ = some (sv ws) := (b5.cell wr.heap.size qn (by simp) hne).trans ((World.cell?_alloc_new (wr.drewN 1) sp3 9 qn).trans hp1)
        have M2 := Lib.hid (((M.out.drewN 1).alloc _).next t5 b5)
        have T2 : Hid (TokensAt W2 (.slice (some ⟨tb, off, none⟩) tn lc) toks) := SliceAt.same (SliceAt.same (SliceAt.same T.out (SameT.drewN (n := 1))) SameT.alloc) (SameT.but b5 (by rw [(((M.out.drewN 1).alloc _).tape).ty]; decide))
        have hwl := (blank3 ws hws1).2.2
        have hws := Lib.hid hws1
        have q5 : qn < 3 := by omega
        have q6 : (qn : Int) < 3 := by omega
        have hl1 : ¬ 9223372036854775807 < ws.length + tx.length := by omega
        have hl2 : ¬ 9223372036854775807 < acc.length + (ws.length + tx.length) := by omega
        clear t5 b5 hp1 hne q0 q1 cS cK cA M T hws1
        obtain ⟨htb2, hx1, hx0⟩ := TokensAt.at_ T2.out HT.out
        rw [HTX.out] at hx1
        rw [HKD.out] at hx0
        have cS2 : W2.cell? ⟨tb, off + k * 4 + 1, none⟩ = some (sv tx) := hx1
        have cK2 : W2.cell? ⟨tb, off + k * 4, none⟩ = some (.int .i64 tk) := hx0
        clear hx1 hx0
        go_wp2
        refine ⟨fun _ => cS2, ?_⟩
        refine wpAnyT_pure 4 ?v8 rfl (by kernel_rfl) (by kernel_rfl) (by kernel_rfl) (by kernel_rfl) (fun _ _ _ h => h) cS2 rfl ?run8 ?rest8
        case run8 => intro w hS; go_simp; rfl
        case rest8 =>
        refine wpAnyT_all (rs := [5]) (by kernel_rfl) (by decide) ?_
        intro i hi
        obtain rfl : i = 5 := by simpa using hi
        clear hi
        refine wpOp_of_list rfl ?_
        go_wp2
        refine ⟨fun _ => cS2, ?_⟩
        refine wpAnyT_pure 11 ?v9 rfl (by kernel_rfl) (by kernel_rfl) (by kernel_rfl) (by kernel_rfl) (fun _ _ _ h => h) cS2 rfl ?run9 ?rest9
        case run9 => intro w hS; go_simp; rfl
        case rest9 =>
        refine wpAnyT_pure 12 ?v10 rfl (by kernel_rfl) (by kernel_rfl) (by kernel_rfl) (by kernel_rfl) (fun _ _ _ h => h) cS2 rfl ?run10 ?rest10
        case run10 => intro w hS; go_simp; rfl
        case rest10 =>
        refine wpAnyT_all (rs := [13]) (by kernel_rfl) (by decide) ?_
        intro i hi
        obtain rfl : i = 13 := by simpa using hi
        clear hi
        refine wpOp_of_list rfl ?_
        go_wp2
        refine ⟨fun h => absurd rfl h, ?_⟩
        refine wpAnyT_done (by kernel_rfl) ?_ _
        cases hk3 : tk == 3
        · have hk4 : (strip1 t).1 ≠ 3 := by show t.kind ≠ 3; rw [HKD.out]; simpa using hk3
          go_wp2
          go_roundw
          case rel => exact ⟨k + 1, ps ++ [ws ++ tx], by omega, by go_num, by rw [List.flatten_append, HACC.out]; simp only [List.flatten_cons, List.flatten_nil, List.append_nil]; exact congrArg Value.string ((congrArg _ (app_sv ws tx)).trans (app_sv _ _)), HPs.out.snoc HK.out (piece_tok hk4 HTX.out hws.out), M2, T2⟩
          case measure => simp [intOf]; omega
        · have hk4 : (strip1 t).1 = 3 := by show t.kind = 3; rw [HKD.out]; simpa using hk3
          go_wp2_with fail
          refine (next_any (M2.out.alloc _).tape 5 (by omega)).mono ?_
          rintro e w7 ⟨q2, q3, q4, rfl, t7, b7⟩
          obtain ⟨qm, rfl⟩ := Int.eq_ofNat_of_zero_le q3
          obtain ⟨sep, hsep, hp3⟩ := sp5_at qm (by omega)
          have hne2 : W2.heap.size ≠ w0.heap.size := by have := M2.out.tape.lt; omega
          have hc7 := (b7.cell W2.heap.size qm (by simp) hne2).trans ((World.cell?_alloc_new W2 sp5 9 qm).trans hp3)
          have M7 := Lib.hid ((M2.out.alloc _).next t7 b7)
          have T7 := Lib.hid (SliceAt.same (SliceAt.same T2.out SameT.alloc) (SameT.but b7 (by rw [(M2.out.alloc _).tape.ty]; decide)))
          have q5 : qm < 5 := by omega
          have hsl := seps_len sep hsep
          have HSep := Lib.hid hsep
          clear t7 b7 hp3 hne2 M2 T2 q3 q4 hsep
          go_wp2
          go_roundw
          case rel => exact ⟨k + 1, ps ++ [ws ++ (tx ++ sep)], by omega, by go_num, by rw [List.flatten_append, HACC.out]; simp only [List.flatten_cons, List.flatten_nil, List.append_nil]; exact congrArg Value.string ((congrArg (· ++ _) ((congrArg _ (app_sv ws tx)).trans (app_sv _ _))).trans ((app_sv _ _).trans (congrArg (fun x : Str => (⟨x.toArray⟩ : ByteArray)) (by simp)))), HPs.out.snoc HK.out (piece_end hk4 HTX.out hws.out HSep.out), M7, T7⟩
          case measure => simp [intOf]; omega
      · refine wpOp_of_list rfl ?_
        go_wp2_with fail
        refine (next_any ((M.out.drewN 1).tape) 3 (by omega)).mono ?_
        rintro e w5 ⟨q, q0, q1, rfl, t5, b5⟩
        obtain ⟨qn, rfl⟩ := Int.eq_ofNat_of_zero_le q0
        obtain ⟨ws, hws1, hp1⟩ := sp3_at qn (by omega)
        have M5 := Lib.hid ((M.out.drewN 1).next t5 b5)
        have T5 : Hid (TokensAt w5 (.slice (some ⟨tb, off, none⟩) tn lc) toks) := SliceAt.same (SliceAt.same T.out (SameT.drewN (n := 1))) (SameT.but b5 (by rw [((M.out.drewN 1).tape).ty]; decide))
        have cA := (TokensAt.at_ T5.out HT.out).2.1
        rw [HTX.out] at cA
        clear t5 b5 cS cK M T
        go_wp2
        refine ⟨fun _ => cA, ?_⟩
        refine wpAnyT_all (rs := [1]) (by kernel_rfl) (by decide) ?_
        intro i hi
        obtain rfl : i = 1 := by simpa using hi
        clear hi
        refine wpOp_of_list rfl ?_
        go_wp2
        have hc5 : (w5.alloc (.cells sp3 9)).cell? ⟨w5.heap.size, qn, none⟩ = some (sv ws) := (World.cell?_alloc_new w5 sp3 9 qn).trans hp1
        have M2 := Lib.hid (M5.out.alloc (.cells sp3 9))
        have T2 : Hid (TokensAt (w5.alloc (.cells sp3 9)) (.slice (some ⟨tb, off, none⟩) tn lc) toks) := SliceAt.same T5.out SameT.alloc
        obtain ⟨W2, hW2⟩ : ∃ W2, w5.alloc (.cells sp3 9) = W2 := ⟨_, rfl⟩
        obtain ⟨sb, hsb⟩ : ∃ sb, w5.heap.size = sb := ⟨_, rfl⟩
        have hWW : w5.alloc (.cells #[.string ⟨#[32]⟩, .string ⟨#[9, 32]⟩, .string ⟨#[32, 32]⟩] 9) = W2 := hW2
        rw [hW2, hsb] at hc5
        rw [hW2] at M2 T2
        rw [hWW, hsb]
        have hwl := (blank3 ws hws1).2.2
        have hws := Lib.hid hws1
        have q5 : qn < 3 := by omega
        have q6 : (qn : Int) < 3 := by omega
        have hl1 : ¬ 9223372036854775807 < ws.length + tx.length := by omega
        have hl2 : ¬ 9223372036854775807 < acc.length + (ws.length + tx.length) := by omega
        clear hp1 q0 q1 cA M5 T5 hws1 hW2 hWW hsb
        obtain ⟨htb2, hx1, hx0⟩ := TokensAt.at_ T2.out HT.out
        rw [HTX.out] at hx1
        rw [HKD.out] at hx0
        have cS2 : W2.cell? ⟨tb, off + k * 4 + 1, none⟩ = some (sv tx) := hx1
        have cK2 : W2.cell? ⟨tb, off + k * 4, none⟩ = some (.int .i64 tk) := hx0
        clear hx1 hx0
        refine ⟨fun _ => cS2, ?_⟩
        refine wpAnyT_pure 4 ?v11 rfl (by kernel_rfl) (by kernel_rfl) (by kernel_rfl) (by kernel_rfl) (fun _ _ _ h => h) cS2 rfl ?run11 ?rest11
        case run11 => intro w hS; go_simp; rfl
        case rest11 =>
        refine wpAnyT_all (rs := [5]) (by kernel_rfl) (by decide) ?_
        intro i hi
        obtain rfl : i = 5 := by simpa using hi
        clear hi
        refine wpOp_of_list rfl ?_
        go_wp2
        refine ⟨fun _ => cS2, ?_⟩
        refine wpAnyT_pure 11 ?v12 rfl (by kernel_rfl) (by kernel_rfl) (by kernel_rfl) (by kernel_rfl) (fun _ _ _ h => h) cS2 rfl ?run12 ?rest12
        case run12 => intro w hS; go_simp; rfl
        case rest12 =>
        refine wpAnyT_pure 12 ?v13 rfl (by kernel_rfl) (by kernel_rfl) (by kernel_rfl) (by kernel_rfl) (fun _ _ _ h => h) cS2 rfl ?run13 ?rest13
        case run13 => intro w hS; go_simp; rfl
        case rest13 =>
        refine wpAnyT_all (rs := [13]) (by kernel_rfl) (by decide) ?_
        intro i hi
        obtain rfl : i = 13 := by simpa using hi
        clear hi
        refine wpOp_of_list rfl ?_
        go_wp2
        refine ⟨fun h => absurd rfl h, ?_⟩
        refine wpAnyT_done (by kernel_rfl) ?_ _
        cases hk3 : tk == 3
        · have hk4 : (strip1 t).1 ≠ 3 := by show t.kind ≠ 3; rw [HKD.out]; simpa using hk3
          go_wp2
          go_roundw
          case rel => exact ⟨k + 1, ps ++ [ws ++ tx], by omega, by go_num, by rw [List.flatten_append, HACC.out]; simp only [List.flatten_cons, List.flatten_nil, List.append_nil]; exact congrArg Value.string ((congrArg _ (app_sv ws tx)).trans (app_sv _ _)), HPs.out.snoc HK.out (piece_tok hk4 HTX.out hws.out), M2, T2⟩
          case measure => simp [intOf]; omega
        · have hk4 : (strip1 t).1 = 3 := by show t.kind = 3; rw [HKD.out]; simpa using hk3
          go_wp2_with fail
          refine (next_any (M2.out.alloc _).tape 5 (by omega)).mono ?_
          rintro e w7 ⟨q2, q3, q4, rfl, t7, b7⟩
          obtain ⟨qm, rfl⟩ := Int.eq_ofNat_of_zero_le q3
          obtain ⟨sep, hsep, hp3⟩ := sp5_at qm (by omega)
          have hne2 : W2.heap.size ≠ w0.heap.size := by have := M2.out.tape.lt; omega
          have hc7 := (b7.cell W2.heap.size qm (by simp) hne2).trans ((World.cell?_alloc_new W2 sp5 9 qm).trans hp3)
          have M7 := Lib.hid ((M2.out.alloc _).next t7 b7)
          have T7 := Lib.hid (SliceAt.same (SliceAt.same T2.out SameT.alloc) (SameT.but b7 (by rw [(M2.out.alloc _).tape.ty]; decide)))
          have q5 : qm < 5 := by omega
          have hsl := seps_len sep hsep
          have HSep := Lib.hid hsep
          clear t7 b7 hp3 hne2 M2 T2 q3 q4 hsep
          go_wp2
          go_roundw
          case rel => exact ⟨k + 1, ps ++ [ws ++ (tx ++ sep)], by omega, by go_num, by rw [List.flatten_append, HACC.out]; simp only [List.flatten_cons, List.flatten_nil, List.append_nil]; exact congrArg Value.string ((congrArg (· ++ _) ((congrArg _ (app_sv ws tx)).trans (app_sv _ _))).trans ((app_sv _ _).trans (congrArg (fun x : Str => (⟨x.toArray⟩ : ByteArray)) (by simp)))), HPs.out.snoc HK.out (piece_end hk4 HTX.out hws.out HSep.out), M7, T7⟩
          case measure => simp [intOf]; omega
    · have hnil : ps.flatten.length ≤ 1938 := HPs.out.len HC.out
      obtain ⟨toks2, hs3, hs4⟩ := ((rend_print (gen_valid HG.out)).pieces (ps := ps) (by have h1 := HPs.out.1; have h2 := congrArg List.length HS2.out; have h3 := HTN.out; simp at h2; omega) HPs.out.2.2).scanned (by omega)
      have hscan := Lib.hid (fun w => scan_is ⟨ps.flatten.toArray⟩ w toks2 toks2.length 0 0 0 hs3 rfl)
      have HE := Lib.hid (sameB_loose toks toks2 (by rw [HS2.out, hs4]))
      have hk2 : k = tn := by omega
      clear hs3 hs4 hnil
      go_wp2_with fail
      refine (hscan.out _).mono ?_
      rintro e w5 ⟨la2, lc2, rfl, t5, b5⟩
      have M5 := Lib.hid (M.out.trans b5.out)
      have T5 := Lib.hid (SliceAt.same T.out (SameT.below b5.out))
      clear M T b5 hscan
      go_wp2_with fail
      refine (same_any toks toks2 true _ _ _ T5.out t5.out).mono ?_
      rintro e w6 ⟨rfl, k6, rfl⟩
      rw [HE.out]
      have M6 := Lib.hid (M5.out.drewN k6)
      clear M5 T5 t5
      go_wp2_with fail
      refine (sane_any _).mono ?_
      rintro e w8 ⟨rfl, hb8⟩
      have M8 := Lib.hid (M6.out.trans hb8)
      clear hb8 M6
      go_wp2
      go_ret
      exact ⟨rfl, M8.out.below⟩
end Go.Proofs.Ytahdmekakbagnaa

