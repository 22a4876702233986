/- The reference's parser: 'use'; statements joined. Printed by wip/gen_rsyn8.py. -/
import Derived.Test.YtpnfdmajpkpjoaaDoorQRSyn7
import Derived.Laws.AppendOwnNone
import Derived.Maps.AppendAt
set_option linter.unusedVariables false
set_option linter.unusedSimpArgs false
namespace Go.Proofs.YtpnfdmajpkpjoaaDoor.R
open Go.RowKit

/-- 'append(v, x...)' of a slice whose elements are known, onto a row of the call's own. -/
theorem wpList_append_sl {P : Program} {ops : Array Oper} {rest : List Oper} {o : Oper} {a : Act} {Q : Exit → Act → World → Prop} {w : World} (hgd : o.guard = none) (s x : Operand) (t : TypeId)
    (ho : o.op = .call { callee := .builtin .append, args := #[s, x], argTypes := #[t, t] })
    (base : Nat) (e : TypeId) (z : Value) (size bytes : Nat) (ht : P.underlying t = some (.slice e)) (hi : (P.info? e).map (fun i => (i.zero, i.size, i.bytes)) = some (some z, size, bytes))
    (hzs : z.cells.size = size) (hsz : 0 < size) (v : Value) (n : Nat) (xs : List Value) (hown : w.ownsRow base e size v n xs) (hs : a.eval s = v)
    (ax : Option Addr) (m c : Nat) (news : List Value) (hsl : SliceAt w e size (.slice ax m c) news) (hx : a.eval x = .slice ax m c) (h1 : news.all Value.oneCell' = true)
    (h63 : n + m ≤ maxLen) (hbytes : (n + m) * bytes ≤ 140737488355328) (hbase : base ≤ w.heap.size)
    (h : ∀ v' w', w'.ownsRow base e size v' (n + m) (xs ++ news) → w.grownBy w' v.ownBlock → wpList P ops Q rest (a.put o.dst v') w') :
    wpList P ops Q (o :: rest) a w := by
  obtain ⟨i, hi', hz, hs1, hs2⟩ := info_parts hi
  obtain ⟨n', cap, h2, h3, h4, h5⟩ := hsl
  rcases h5 with ⟨e1, e2⟩ | ⟨b, off, cs, fr, e1, e2, e3⟩
  · injection e1 with e1 e4 e5
    subst e1 e2 e4 e5
    refine wpList_append_own_none hgd s x t ho base e i size ht hi' v n xs hs hown hx ?_
    obtain rfl : news = [] := List.length_eq_zero_iff.1 (by simpa using h2)
    exact h v w (by simpa using hown) ⟨rfl, rfl, rfl, Nat.le_refl _, fun _ _ _ => rfl⟩
  · injection e1 with e1 e4 e5
    subst e1 e4 e5
    refine wpList_append_own_at (P := P) w hgd s x t ho base e i z size bytes ht hi' hz hs1 hs2 hzs hsz v n xs hs hown ⟨b, off, none⟩ m c news hx h2 ?_ (fun u hu => List.all_eq_true.1 h1 u hu) h63 hbytes hbase ?_
    · intro j u hj
      have hjl := (List.getElem?_eq_some_iff.1 hj).1
      have h6 : ((⟨b, off, none⟩ : Addr).add j) = ⟨b, off + j, none⟩ := by
        unfold Addr.add
        split
        · rename_i h0; subst h0; rfl
        · simp
      rw [h6, ← hj, ← e3 j hjl]
      simp [World.cell?, e2]
    · intro v' w' g1 g2 _ _
      exact h v' w' g1 g2
theorem namesM_pre {T : List Tok} (p : List Str) : ∀ (m : Nat) (acc : List Str) (s : PS), namesM T m (p ++ acc) s = (p ++ (namesM T m acc s).1, (namesM T m acc s).2)
  | 0, acc, s => rfl
  | m + 1, acc, s => by
    cases h : isN T s
    · rw [namesM_no h, namesM_no h]
    · rw [namesM_yes h, namesM_yes h, List.append_assoc]
      exact namesM_pre p m _ _
/-- The uses, as the model and as the reference read them. -/
theorem use_model {T : List Tok} {s : PS} {na : Str} {r : List Str × PS} (hna : nameV T s = na) (hr : namesM T 3 [] (nameM T s) = r) :
    (if isN T s = true then namesM T 3 [nameV T s] s.step else ([], s.fail 4)).2 = r.2 ∧ (r.2.err = 0 → (if isN T s = true then namesM T 3 [nameV T s] s.step else ([], s.fail 4)).1 = na :: r.1) := by
  cases h : isN T s
  · have he := fail_errs s (e := 4) (by decide)
    have e1 : nameM T s = s.fail 4 := by unfold nameM; rw [h]; rfl
    rw [e1, namesM_no (isN_err he)] at hr
    rw [if_neg (by decide), ← hr]
    exact ⟨rfl, fun h0 => absurd h0 he⟩
  · have e1 : nameM T s = s.step := by unfold nameM; rw [h]; rfl
    rw [e1] at hr
    rw [if_pos rfl, hna]
    have := namesM_pre (T := T) [na] 3 [] s.step
    rw [List.append_nil] at this
    rw [this, hr]
    exact ⟨rfl, fun _ => rfl⟩

set_option maxHeartbeats 1000000 in
theorem rstmt_use {B bp : Nat} {T : List Tok} {s : PS} {w : World} (h : PSt B bp T s w) (hT : T.length ≤ 1000000) (hN : isN T s = false) (hS : startsB T s = true) (hop : opOf (s.next T).text = 2) :
    Calls Tryd.prog 82 #[.pointer (some ⟨bp, 0, none⟩)] w (StPost B bp T s w) := by
  have hlt := h.lt
  have H := Lib.hid h
  have hT' := Lib.hid hT
  have L0 := Lib.hid (stl_start h)
  clear h
  go_enter Tryd.func82, Tryd.ntmps82
  have HN := Lib.hid hN
  have HS := Lib.hid hS
  have HOP := Lib.hid hop
  obtain ⟨_, tk, htk, hen⟩ := next_in (starts_in hS hN)
  have hyx : tk.text = [117, 115, 101] := by rw [← hen]; exact (op_text _).1 hop
  clear hN hS hop hen
  go_wp2_with fail
  refine (isName_any L0.out.p).mono ?_
  rintro e v1 ⟨rfl, hc, hb⟩
  have L1 := Lib.hid (L0.out.call hc hb)
  clear hc hb
  rw [HN.out]
  obtain ⟨tb, off, tc, p0, p1, pf, pt, hin⟩ := L1.out.p.tok htk
  rw [hyx] at pt
  have hle := Lib.hid (show s.at_ + 1 ≤ T.length from hin)
  obtain ⟨tn, htn⟩ : ∃ x, T.length = x := ⟨_, rfl⟩
  rw [htn] at p0 hin hT
  have hin2 : (s.at_ : Int) < (tn : Int) := by omega
  clear htn hyx htk
  go_wp2
  go_quiet (fail)
  have L2 := Lib.hid ((L1.out.drewN nq).next hle.out)
  obtain ⟨s1, hs1⟩ : ∃ x, s.step = x := ⟨_, rfl⟩
  rw [hs1] at L2
  have HS1 := Lib.hid hs1
  clear hs1
  go_wp2_with fail
  refine (name_any L2.out.p hT'.out).mono ?_
  rintro e v3 ⟨rfl, hc, hb⟩
  have L3 := Lib.hid (L2.out.call hc hb)
  clear p0 p1 pf pt
  clear hc hb
  obtain ⟨na, hnv⟩ : ∃ x, nameV T s1 = x := ⟨_, rfl⟩
  rw [hnv]
  have Hna := Lib.hid hnv
  clear hnv
  have LA := Lib.hid (L3.out.alloc (.cells #[sv na] 9))
  have Bna : Hid ((v3.alloc (.cells #[sv na] 9)).heap[v3.heap.size]? = some (.cells #[sv na] 9 (0, 0))) := heap_alloc_new _ _
  have Hlo := Lib.hid (lt_heap L3.out.loc)
  have ⟨⟨k0, k1, k2, k3⟩, kf⟩ := LA.out.cells
  have L4 := Lib.hid (LA.out.set0 (.int .i64 2))
  have Bna' := Lib.hid ((Below.heap_setCell (v3.alloc (.cells #[sv na] 9)) ⟨w.heap.size + 1, 0, none⟩ (.int .i64 2) v3.heap.size (by have := Hlo.out; show v3.heap.size ≠ w.heap.size + 1; omega)).trans Bna.out)
  clear Bna
  have Bna := Lib.hid Bna'.out
  clear Bna'
  have L5 := Lib.hid (L4.out.set2 (.slice (some ⟨v3.heap.size, 0, none⟩) 1 1))
  have Bna' := Lib.hid ((Below.heap_setCell ((v3.alloc (.cells #[sv na] 9)).setCell ⟨w.heap.size + 1, 0, none⟩ (.int .i64 2)) ⟨w.heap.size + 1, 2, none⟩ (.slice (some ⟨v3.heap.size, 0, none⟩) 1 1) v3.heap.size (by have := Hlo.out; show v3.heap.size ≠ w.heap.size + 1; omega)).trans Bna.out)
  clear Bna
  have Bna := Lib.hid Bna'.out
  clear Bna'
  have Hs : Hid (v3.heap.size + 1 ≤ (((v3.alloc (.cells #[sv na] 9)).setCell ⟨w.heap.size + 1, 0, none⟩ (.int .i64 2)).setCell ⟨w.heap.size + 1, 2, none⟩ (.slice (some ⟨v3.heap.size, 0, none⟩) 1 1)).heap.size) := by unfold Hid; simp
  go_wp2_with fail
  clear k0 k1 k2 k3 kf
  have ⟨⟨k0, k1, k2, k3⟩, kf⟩ := L5.out.cells
  refine wp_region_D (S := fun w' => w'.cell? ⟨w.heap.size + 1, 2, none⟩ = some (.slice (some ⟨v3.heap.size, 0, none⟩) 1 1)) (st := 6) (by kernel_rfl) ?_
  refine wpAnyT_pure 0 ?z1 rfl (by kernel_rfl) (by kernel_rfl) (by kernel_rfl) (by kernel_rfl) (fun _ _ _ h => h) k2 rfl ?rz1 ?sz1
  case rz1 => intro w hS; go_simp; rfl
  case sz1 =>
  refine wpAnyT_pure 1 ?z2 rfl (by kernel_rfl) (by kernel_rfl) (by kernel_rfl) (by kernel_rfl) (fun _ _ _ h => h) k2 rfl ?rz2 ?sz2
  case rz2 => intro w hS; go_simp; rfl
  case sz2 =>
  refine wpAnyT_pure 2 ?z3 rfl (by kernel_rfl) (by kernel_rfl) (by kernel_rfl) (by kernel_rfl) (fun _ _ _ h => h) k2 rfl ?rz3 ?sz3
  case rz3 => intro w hS; go_simp; rfl
  case sz3 =>
  refine wpAnyT_all (rs := [3]) (by kernel_rfl) (by decide) ?_
  intro i hi
  obtain rfl : i = 3 := by simpa using hi
  clear hi
  refine wpOp_of_list rfl ?_
  go_wp2_with fail
  refine (more_any (L5.out.drewN 1).p hT'.out).mono ?_
  rintro e v6 ⟨ua, un, uc, rfl, hc, hb, ul, hul, hun, hu1, hu2⟩
  have L6 := Lib.hid ((L5.out.drewN 1).call hc hb)
  have Bna' := Lib.hid ((But.undrew hb).blk Bna.out (by have := Hlo.out; omega))
  clear Bna
  have Bna := Lib.hid Bna'.out
  clear Bna'
  have hzb := hb.size
  have hz2 : v3.heap.size + 1 ≤ v6.heap.size := Nat.le_trans Hs.out hzb
  have OWN := Lib.hid (own_one Bna.out (by have := Hlo.out; omega) : World.ownsRow v6 (w.heap.size + 2) 9 1 (.slice (some ⟨v3.heap.size, 0, none⟩) 1 1) 1 [sv na])
  have HU1 := Lib.hid hu1
  have HU2 := Lib.hid hu2
  have HUL := Lib.hid hul
  clear k0 k1 k2 k3 kf
  clear hc hb hu1 hu2 hul hzb
  have ⟨⟨k0, k1, k2, k3⟩, kf⟩ := L6.out.cells
  obtain ⟨r, hr⟩ : ∃ x, namesM T 3 [] (nameM T s1) = x := ⟨_, rfl⟩
  rw [hr] at L6 HU2
  have HR := Lib.hid hr
  clear hr
  go_wp2
  refine ⟨fun _ => k2, ?_⟩
  refine wpAnyT_all (rs := [4]) (by kernel_rfl) (by decide) ?_
  intro i hi
  obtain rfl : i = 4 := by simpa using hi
  clear hi
  refine wpOp_of_list rfl ?_
  have hlo := lt_heap L6.out.loc
  refine wpList_append_sl rfl _ _ 39 rfl (w.heap.size + 2) 9 _ 1 16 Tryd.underlying39 infoStr rfl (by omega) _ 1 [sv na] OWN.out rfl ua un uc (ul.map sv) HU1.out rfl (by simp [List.all_eq_true, sv, Value.oneCell']) (by unfold maxLen; omega) (by omega) (by omega) ?_
  intro vv w6 hown1 hg1
  obtain ⟨xa, xc, rfl⟩ := own_form hown1
  have LG := Lib.hid (L6.out.grown hg1 OWN.out)
  have SO := Lib.hid (SliceAt.of_owns hown1)
  clear hown1 hg1
  clear k0 k1 k2 k3 kf
  clear OWN hlo hz2
  have ⟨⟨k0, k1, k2, k3⟩, kf⟩ := LG.out.cells
  go_wp2
  refine ⟨fun _ => k2, ?_⟩
  refine wpAnyT_pure 5 ?z4 rfl (by kernel_rfl) (by kernel_rfl) (by kernel_rfl) (by kernel_rfl) (fun _ _ _ h => h) k2 rfl ?rz4 ?sz4
  case rz4 => intro w hS; go_simp; rfl
  case sz4 =>
  refine wpAnyT_all (rs := [6]) (by kernel_rfl) (by decide) ?_
  intro i hi
  obtain rfl : i = 6 := by simpa using hi
  clear hi
  refine wpOp_of_list rfl ?_
  go_wp2
  refine ⟨fun h => absurd rfl h, ?_⟩
  refine wpAnyT_done (by kernel_rfl) ?_ _
  have L7 := Lib.hid (LG.out.set2 (.slice xa (1 + un) xc))
  have TS_0 : Hid (StrsAt (w6.setCell ⟨w.heap.size + 1, 2, none⟩ (.slice xa (1 + un) xc)) (.slice xa (1 + un) xc) (na :: ul)) := SliceAt.same SO.out (LG.out.sstr 2 _)
  go_wp2_with fail
  refine (end_any L7.out.p hT'.out).mono ?_
  rintro e v8 ⟨rfl, hc, hb⟩
  have L8 := Lib.hid (L7.out.call hc hb)
  have TS_8 := Lib.hid (SliceAt.same TS_0.out (L7.out.str hb))
  clear hc hb
  clear k0 k1 k2 k3 kf
  have UM := Lib.hid (use_model Hna.out HR.out)
  have hst2 : stmtS T s = endM T (r.2) := by unfold stmtS stmtM; rw [HS.out, HN.out, if_pos rfl]; dsimp only; rw [HOP.out, HS1.out]; simp; rw [UM.out.1]
  have hval : (stmtM T s).1 = ⟨2, [], (if isN T s1 = true then namesM T 3 [nameV T s1] s1.step else ([], s1.fail 4)).1, []⟩ := by unfold stmtM; rw [HN.out]; dsimp only; rw [HOP.out, HS1.out]; simp
  have FIN := Lib.hid hst2
  have VAL := Lib.hid hval
  clear hst2 hval
  have ⟨⟨k0, k1, k2, k3⟩, kf⟩ := L8.out.cells
  have ⟨⟨j0, j1, j2, j3⟩, jf⟩ := L8.out.rescells
  go_wp2
  have G := set4 L8.out.res (.int .i64 2) (.string ⟨#[]⟩) (.slice xa (1 + un) xc) (.slice none 0 0)
  have ⟨gc, _⟩ := blk_cells G
  refine bodyPost_ret (v := .agg #[.int .i64 2, .string ⟨#[]⟩, .slice xa (1 + un) xc, .slice none 0 0]) ?_ rfl ?_
  · simp [results, Tryd.results82, go_sem, gc]
  · exact stl_end L8.out FIN.out rfl rfl (fun _ h0 => by rw [VAL.out]; refine ⟨rfl, rfl, ?_, SliceAt.nil⟩; show StrsAt _ _ (if isN T s1 = true then namesM T 3 [nameV T s1] s1.step else ([], s1.fail 4)).1; rw [UM.out.2 (end_err h0), ← HU2.out (end_err h0)]; exact TS_8.out) _ _ _ _

theorem rstmt_any {B bp : Nat} {T : List Tok} {s : PS} {w : World} (h : PSt B bp T s w) (hT : T.length ≤ 1000000) (hS : startsB T s = true) :
    Calls Tryd.prog 82 #[.pointer (some ⟨bp, 0, none⟩)] w (StPost B bp T s w) := by
  cases hN : isN T s
  · have h2 := hS
    unfold startsB at h2
    rw [hN, Bool.false_or, Bool.and_eq_true] at h2
    have h3 : opOf (s.next T).text ≠ 0 := by simpa using h2.2
    have h4 : ∀ x, opOf x = 0 ∨ opOf x = 2 ∨ opOf x = 3 ∨ opOf x = 4 ∨ opOf x = 5 ∨ opOf x = 6 ∨ opOf x = 7 ∨ opOf x = 8 ∨ opOf x = 9 := by
      intro x
      unfold opOf
      repeat' split
      all_goals omega
    rcases h4 (s.next T).text with h5 | e | e | e | e | e | e | e | e
    · exact absurd h5 h3
    · exact rstmt_use h hT hN hS e
    · exact rstmt_one3 h hT hN hS e
    · exact rstmt_def4 h hT hN hS e
    · exact rstmt_one5 h hT hN hS e
    · exact rstmt_def6 h hT hN hS e
    · exact rstmt_one7 h hT hN hS e
    · exact rstmt_branch h hT hN hS e
    · exact rstmt_return h hT hN hS e
  · exact rstmt_name h hT hN
end Go.Proofs.YtpnfdmajpkpjoaaDoor.R

