/- A part of the proof. -/
import Derived.Test.YtipnhmdibkkifaaGreatDoorNu15
import Derived.Test.YtipnhmdibkkifaaGreatDoorNu07
import Derived.BigQuiet
import Derived.Laws.EntriesVeiled
import Derived.RegionTactic
set_option linter.unusedVariables false
set_option linter.unusedSimpArgs false
set_option linter.unusedVariables false
set_option linter.unusedSimpArgs false
set_option linter.unusedSectionVars false
namespace Go.Proofs.YtipnhmdibkkifaaGreatDoor
open Go.RowKit
variable [Base]
def BldE (z bt sb pb mb : Nat) (nv : Value) (N : List PNode) (E : List (Nat × Nat)) (w : World) : Prop := ∃ S P, Bld z bt sb pb mb nv N S P w ∧ GrE N.length E S P
theorem BldE.below {z bt sb pb mb : Nat} {nv : Value} {N : List PNode} {E : List (Nat × Nat)} {w w' : World} (h : BldE z bt sb pb mb nv N E w) (b : Below w.heap.size w w') : BldE z bt sb pb mb nv N E w' := by
  obtain ⟨S, P, h1, h2⟩ := h
  exact ⟨S, P, h1.below b, h2⟩
def EdgeQ (z bt sb pb mb : Nat) (nv : Value) (N : List PNode) (E : List (Nat × Nat)) (w : World) (e : Ending) (w' : World) : Prop := e = .returned (.tuple #[]) ∧ BldE z bt sb pb mb nv N E w' ∧ KeepE z w w'
set_option maxRecDepth 100000 in
set_option maxHeartbeats 8000000 in
theorem edge_any {z bt sb pb mb : Nat} {nv : Value} {N : List PNode} {E : List (Nat × Nat)} {w : World} (hbs : Base.b ≤ z) (hN : N.length ≤ 256) (h : BldE z bt sb pb mb nv N E w) (a b : Nat) (ha : a < N.length) (hb : b < N.length) :
    Calls Tryz.prog 49 #[.pointer (some ⟨bt, 0, none⟩), iv a, iv b] w (EdgeQ z bt sb pb mb nv N (E ++ [(a, b)]) w) := by
  obtain ⟨S, P, hB, hE⟩ := h
  have hz : z ≤ w.heap.size := by have := lt_heap hB.bl; have := hB.zs; omega
  obtain ⟨v, r, hr, c1, own, grow⟩ := hB.rowS hbs hz ha
  have hrl := hE.slen hr
  have hlt : bt < w.heap.size := lt_heap hB.bl
  have hls : sb < w.heap.size := by obtain ⟨vs, us, h1, _⟩ := hB.rows; exact lt_heap h1
  have hlp : pb < w.heap.size := by obtain ⟨vs, us, _, h1, _⟩ := hB.rows; exact lt_heap h1
  obtain ⟨SC, hSC⟩ : ∃ c, w.heap[sb]? = some (.cells c IT (0, 0)) := by obtain ⟨vs, us, h1, _⟩ := hB.rows; exact ⟨_, h1⟩
  have HF1 := Lib.hid hSC
  have KC := Lib.hid (contains_ints r v b w (show IntsAt w v r from SliceAt.of_owns own))
  have OWN := Lib.hid own
  have GROW := Lib.hid grow
  have HB := Lib.hid hB
  have HE := Lib.hid hE
  have HR := Lib.hid hr
  have KZ := Lib.hid (KeepE.refl z w hz)
  obtain ⟨x0, x1, x2, x3⟩ := cells4s hB.bl
  obtain ⟨n, hn⟩ : ∃ n, N.length = n := ⟨_, rfl⟩
  obtain ⟨rl, hrl2⟩ : ∃ n, r.length = n := ⟨_, rfl⟩
  rw [hn] at x1 x2 ha hb hN hrl
  rw [hrl2] at hrl OWN GROW
  have HN := Lib.hid hn
  have hia : (a : Int) < (n : Int) := by omega
  have hib : (b : Int) < (n : Int) := by omega
  clear hB hE hr own grow hn hSC hrl2
  go_enter Tryz.func49, Tryz.ntmps49
  go_wp2_with fail
  refine KC.out.mono ?_
  rintro e w' ⟨rfl, rfl⟩
  by_cases hm : (b : Int) ∈ r
  · have hd : decide ((b : Int) ∈ r) = true := by simpa using hm
    have HQ := Lib.hid (show BldE z bt sb pb mb nv N (E ++ [(a, b)]) w' from ⟨S, P, HB.out, HE.out.same HR.out hm⟩)
    clear hm
    rw [hd]
    go_wp2
    exact bodyPost_ret (v := .tuple #[]) (by simp [results, Tryz.results49, go_sem]) rfl ⟨rfl, HQ.out, KZ.out⟩
  · have hd : decide ((b : Int) ∈ r) = false := by simpa using hm
    have HM := Lib.hid hm
    rw [hd]
    clear hm hd KC
    go_upto_region 1 with (fail)
    refine wp_region_D (S := fun w' => w'.cell? ⟨bt, 1, none⟩ = some (.slice (some ⟨sb, 0, none⟩) n n) ∧ w'.cell? ⟨sb, a, none⟩ = some v) (st := 18) (by kernel_rfl) ?_
    have hS0 : (fun w' : World => w'.cell? ⟨bt, 1, none⟩ = some (.slice (some ⟨sb, 0, none⟩) n n) ∧ w'.cell? ⟨sb, a, none⟩ = some v) _ := ⟨x1, c1⟩
    refine wpAnyT_pureD 0 (some 16) ?v1 rfl (by kernel_rfl) (by kernel_rfl) (by kernel_rfl) (by kernel_rfl) (fun _ _ _ h => h) hS0 (by kernel_rfl) rfl ?run1 ?rest1
    case run1 => intro w hS; obtain ⟨s0, s1⟩ := hS; go_simp; rfl
    refine wpAnyT_pureD 1 (some 17) ?v2 rfl (by kernel_rfl) (by kernel_rfl) (by kernel_rfl) (by kernel_rfl) (fun _ _ _ h => h) hS0 (by kernel_rfl) rfl ?run2 ?rest2
    case run2 => intro w hS; obtain ⟨s0, s1⟩ := hS; go_simp; rfl
    refine wpAnyT_pureD 2 (some 18) ?v3 rfl (by kernel_rfl) (by kernel_rfl) (by kernel_rfl) (by kernel_rfl) (fun _ _ _ h => h) hS0 (by kernel_rfl) rfl ?run3 ?rest3
    case run3 => intro w hS; obtain ⟨s0, s1⟩ := hS; go_simp; rfl
    refine wpAnyT_pureD 3 (some 19) ?v4 rfl (by kernel_rfl) (by kernel_rfl) (by kernel_rfl) (by kernel_rfl) (fun _ _ _ h => h) hS0 (by kernel_rfl) rfl ?run4 ?rest4
    case run4 => intro w hS; obtain ⟨s0, s1⟩ := hS; go_simp; rfl
    refine wpAnyT_pureD 4 (some 20) ?v5 rfl (by kernel_rfl) (by kernel_rfl) (by kernel_rfl) (by kernel_rfl) (fun _ _ _ h => h) hS0 (by kernel_rfl) rfl ?run5 ?rest5
    case run5 => intro w hS; obtain ⟨s0, s1⟩ := hS; go_simp; rfl
    refine wpAnyT_pureD 5 (some 21) ?v6 rfl (by kernel_rfl) (by kernel_rfl) (by kernel_rfl) (by kernel_rfl) (fun _ _ _ h => h) hS0 (by kernel_rfl) rfl ?run6 ?rest6
    case run6 => intro w hS; obtain ⟨s0, s1⟩ := hS; go_simp; rfl
    refine wpAnyT_pureD 6 (some 22) ?v7 rfl (by kernel_rfl) (by kernel_rfl) (by kernel_rfl) (by kernel_rfl) (fun _ _ _ h => h) hS0 (by kernel_rfl) rfl ?run7 ?rest7
    case run7 => intro w hS; obtain ⟨s0, s1⟩ := hS; go_simp; rfl
    refine wpAnyT_pureD 7 (some 23) ?v8 rfl (by kernel_rfl) (by kernel_rfl) (by kernel_rfl) (by kernel_rfl) (fun _ _ _ h => h) hS0 (by kernel_rfl) rfl ?run8 ?rest8
    case run8 => intro w hS; obtain ⟨s0, s1⟩ := hS; go_simp; rfl
    refine wpAnyT_pureD 8 (some 24) ?v9 rfl (by kernel_rfl) (by kernel_rfl) (by kernel_rfl) (by kernel_rfl) (fun _ _ _ h => h) hS0 (by kernel_rfl) rfl ?run9 ?rest9
    case run9 => intro w hS; obtain ⟨s0, s1⟩ := hS; go_simp; rfl
    refine wpAnyT_pureD 9 (some 25) ?v10 rfl (by kernel_rfl) (by kernel_rfl) (by kernel_rfl) (by kernel_rfl) (fun _ _ _ h => h) hS0 (by kernel_rfl) rfl ?run10 ?rest10
    case run10 => intro w hS; obtain ⟨s0, s1⟩ := hS; go_simp; rfl
    refine wpAnyT_pureD 10 (some 26) ?v11 rfl (by kernel_rfl) (by kernel_rfl) (by kernel_rfl) (by kernel_rfl) (fun _ _ _ h => h) hS0 (by kernel_rfl) rfl ?run11 ?rest11
    case run11 => intro w hS; obtain ⟨s0, s1⟩ := hS; go_simp; rfl
    refine wpAnyT_pureD 11 (some 27) ?v12 rfl (by kernel_rfl) (by kernel_rfl) (by kernel_rfl) (by kernel_rfl) (fun _ _ _ h => h) hS0 (by kernel_rfl) rfl ?run12 ?rest12
    case run12 => intro w hS; obtain ⟨s0, s1⟩ := hS; go_simp; rfl
    refine wpAnyT_pureD 12 (some 28) ?v13 rfl (by kernel_rfl) (by kernel_rfl) (by kernel_rfl) (by kernel_rfl) (fun _ _ _ h => h) hS0 (by kernel_rfl) rfl ?run13 ?rest13
    case run13 => intro w hS; obtain ⟨s0, s1⟩ := hS; go_simp; rfl
    refine wpAnyT_pureD 13 (some 29) ?v14 rfl (by kernel_rfl) (by kernel_rfl) (by kernel_rfl) (by kernel_rfl) (fun _ _ _ h => h) hS0 (by kernel_rfl) rfl ?run14 ?rest14
    case run14 => intro w hS; obtain ⟨s0, s1⟩ := hS; go_simp; rfl
    refine wpAnyT_pureD 14 (some 30) ?v15 rfl (by kernel_rfl) (by kernel_rfl) (by kernel_rfl) (by kernel_rfl) (fun _ _ _ h => h) hS0 (by kernel_rfl) rfl ?run15 ?rest15
    case run15 => intro w hS; obtain ⟨s0, s1⟩ := hS; go_simp; rfl
    refine wpAnyT_value 15 (some 31) (.slice (some ⟨w'.heap.size, 0, none⟩) 1 1) ((w'.drewN 1).alloc (.cells #[iv (b : Int)] IN)) rfl (by kernel_rfl) (by kernel_rfl) ?rva1 rfl (fun _ => ?sa1) ?_
    case rva1 => go_simp
    case sa1 => exact ⟨(World.cell?_of_block (Below.heap_alloc _ _ _ (by show bt < w'.heap.size; omega))).trans hS0.1, (World.cell?_of_block (Below.heap_alloc _ _ _ (by show sb < w'.heap.size; omega))).trans hS0.2⟩
    clear hS0
    refine wpAnyT_push 16 (some 32) (w := w'.drewN 1) [iv (b : Int)] IN rfl rfl (by kernel_rfl) (by kernel_rfl) rfl _ _ IT rfl z _ 1 8 Tryz.underlying120 info_int rfl (by decide) v _ _ OWN.out (by kernel_rfl) (by kernel_rfl) rfl rfl (by unfold maxLen; omega) (by omega) hz ?_
    intro g cap v5 ho hg hn
    have G1 := Lib.hid (GROW.out g cap v5 (b : Int) ho ⟨hg.os, hg.tape, hg.output, hg.size, hg.block⟩ hn)
    clear ho hg hn
    have y1 := (World.cell?_of_block (a := ⟨bt, 1, none⟩) G1.out.1.1).trans x1
    have z1 := (World.cell?_of_block (a := ⟨sb, a, none⟩) G1.out.1.2).trans c1
    have f1 := G1.out.1.2.trans HF1.out
    have hS0 : (fun w' : World => w'.cell? ⟨bt, 1, none⟩ = some (.slice (some ⟨sb, 0, none⟩) n n) ∧ w'.cell? ⟨sb, a, none⟩ = some v) v5 := ⟨y1, z1⟩
    refine ⟨fun _ => hS0, ?_⟩
    refine wpAnyT_pureD 17 (some 33) ?v16 rfl (by kernel_rfl) (by kernel_rfl) (by kernel_rfl) (by kernel_rfl) (fun _ _ _ h => h) hS0 (by kernel_rfl) rfl ?run16 ?rest16
    case run16 => intro w hS; obtain ⟨s0, s1⟩ := hS; go_simp; rfl
    have fz := (lies_cells f1).2 a
    refine wpAnyT_step 18 none (v5.setCell ⟨sb, a, none⟩ (.slice (some ⟨g, 0, none⟩) (rl + 1) cap)) rfl (by kernel_rfl) (by kernel_rfl) ?rs1 rfl (fun h => absurd rfl h) ?_
    case rs1 => go_simp
    refine wpAnyT_done (by kernel_rfl) ?_ _
    generalize hA : Act.put _ _ _ = A0
    simp only [put_mk, put_no, List.setIfInBounds_toArray, List.set_cons_succ, List.set_cons_zero] at hA
    subst hA
    have HB2 := Lib.hid G1.out.2.1
    have KE2 := Lib.hid G1.out.2.2
    obtain ⟨w2, hw2⟩ : ∃ w2, v5.setCell ⟨sb, a, none⟩ (.slice (some ⟨g, 0, none⟩) (rl + 1) cap) = w2 := ⟨_, rfl⟩
    rw [hw2] at HB2 KE2 ⊢
    clear hw2 G1 y1 z1 f1 fz hS0 x0 x1 x2 x3 c1 HF1
    have hz2 : z ≤ w2.heap.size := by have := KE2.out.below.size; omega
    obtain ⟨u, q, hq, c2, own2, grow2⟩ := HB2.out.rowP hbs hz2 (a := b) (by have := HN.out; omega)
    have hql := HE.out.plen hq
    obtain ⟨ql, hql2⟩ : ∃ n, q.length = n := ⟨_, rfl⟩
    have hlt2 : bt < w2.heap.size := lt_heap HB2.out.bl
    have hlp2 : pb < w2.heap.size := by obtain ⟨vs, us, _, h1, _⟩ := HB2.out.rows; exact lt_heap h1
    obtain ⟨PC, hPC⟩ : ∃ c, w2.heap[pb]? = some (.cells c IT (0, 0)) := by obtain ⟨vs, us, _, h1, _⟩ := HB2.out.rows; exact ⟨_, h1⟩
    have HF2 := Lib.hid hPC
    have HQ2 := Lib.hid hq
    have OWN2 := Lib.hid own2
    have GROW2 := Lib.hid grow2
    obtain ⟨x0, x1, x2, x3⟩ := cells4s HB2.out.bl
    rw [HN.out] at x1 x2 hql
    rw [hql2] at hql OWN2 GROW2
    clear hq own2 grow2 hPC hql2
    obtain ⟨g1, hg1⟩ : ∃ g1 : Nat, g = g1 := ⟨_, rfl⟩
    obtain ⟨cap1, hc1⟩ : ∃ c1 : Nat, cap = c1 := ⟨_, rfl⟩
    subst hg1 hc1
    clear OWN GROW
    go_upto_region 2 with (fail)
    refine wp_region_D (S := fun w' => w'.cell? ⟨bt, 2, none⟩ = some (.slice (some ⟨pb, 0, none⟩) n n) ∧ w'.cell? ⟨pb, b, none⟩ = some u) (st := 18) (by kernel_rfl) ?_
    have hS0 : (fun w' : World => w'.cell? ⟨bt, 2, none⟩ = some (.slice (some ⟨pb, 0, none⟩) n n) ∧ w'.cell? ⟨pb, b, none⟩ = some u) _ := ⟨x2, c2⟩
    refine wpAnyT_pureD 0 (some 34) ?v17 rfl (by kernel_rfl) (by kernel_rfl) (by kernel_rfl) (by kernel_rfl) (fun _ _ _ h => h) hS0 (by kernel_rfl) rfl ?run17 ?rest17
    case run17 => intro w hS; obtain ⟨s0, s1⟩ := hS; go_simp; rfl
    refine wpAnyT_pureD 1 (some 35) ?v18 rfl (by kernel_rfl) (by kernel_rfl) (by kernel_rfl) (by kernel_rfl) (fun _ _ _ h => h) hS0 (by kernel_rfl) rfl ?run18 ?rest18
    case run18 => intro w hS; obtain ⟨s0, s1⟩ := hS; go_simp; rfl
    refine wpAnyT_pureD 2 (some 36) ?v19 rfl (by kernel_rfl) (by kernel_rfl) (by kernel_rfl) (by kernel_rfl) (fun _ _ _ h => h) hS0 (by kernel_rfl) rfl ?run19 ?rest19
    case run19 => intro w hS; obtain ⟨s0, s1⟩ := hS; go_simp; rfl
    refine wpAnyT_pureD 3 (some 37) ?v20 rfl (by kernel_rfl) (by kernel_rfl) (by kernel_rfl) (by kernel_rfl) (fun _ _ _ h => h) hS0 (by kernel_rfl) rfl ?run20 ?rest20
    case run20 => intro w hS; obtain ⟨s0, s1⟩ := hS; go_simp; rfl
    refine wpAnyT_pureD 4 (some 38) ?v21 rfl (by kernel_rfl) (by kernel_rfl) (by kernel_rfl) (by kernel_rfl) (fun _ _ _ h => h) hS0 (by kernel_rfl) rfl ?run21 ?rest21
    case run21 => intro w hS; obtain ⟨s0, s1⟩ := hS; go_simp; rfl
    refine wpAnyT_pureD 5 (some 39) ?v22 rfl (by kernel_rfl) (by kernel_rfl) (by kernel_rfl) (by kernel_rfl) (fun _ _ _ h => h) hS0 (by kernel_rfl) rfl ?run22 ?rest22
    case run22 => intro w hS; obtain ⟨s0, s1⟩ := hS; go_simp; rfl
    refine wpAnyT_pureD 6 (some 40) ?v23 rfl (by kernel_rfl) (by kernel_rfl) (by kernel_rfl) (by kernel_rfl) (fun _ _ _ h => h) hS0 (by kernel_rfl) rfl ?run23 ?rest23
    case run23 => intro w hS; obtain ⟨s0, s1⟩ := hS; go_simp; rfl
    refine wpAnyT_pureD 7 (some 41) ?v24 rfl (by kernel_rfl) (by kernel_rfl) (by kernel_rfl) (by kernel_rfl) (fun _ _ _ h => h) hS0 (by kernel_rfl) rfl ?run24 ?rest24
    case run24 => intro w hS; obtain ⟨s0, s1⟩ := hS; go_simp; rfl
    refine wpAnyT_pureD 8 (some 42) ?v25 rfl (by kernel_rfl) (by kernel_rfl) (by kernel_rfl) (by kernel_rfl) (fun _ _ _ h => h) hS0 (by kernel_rfl) rfl ?run25 ?rest25
    case run25 => intro w hS; obtain ⟨s0, s1⟩ := hS; go_simp; rfl
    refine wpAnyT_pureD 9 (some 43) ?v26 rfl (by kernel_rfl) (by kernel_rfl) (by kernel_rfl) (by kernel_rfl) (fun _ _ _ h => h) hS0 (by kernel_rfl) rfl ?run26 ?rest26
    case run26 => intro w hS; obtain ⟨s0, s1⟩ := hS; go_simp; rfl
    refine wpAnyT_pureD 10 (some 44) ?v27 rfl (by kernel_rfl) (by kernel_rfl) (by kernel_rfl) (by kernel_rfl) (fun _ _ _ h => h) hS0 (by kernel_rfl) rfl ?run27 ?rest27
    case run27 => intro w hS; obtain ⟨s0, s1⟩ := hS; go_simp; rfl
    refine wpAnyT_pureD 11 (some 45) ?v28 rfl (by kernel_rfl) (by kernel_rfl) (by kernel_rfl) (by kernel_rfl) (fun _ _ _ h => h) hS0 (by kernel_rfl) rfl ?run28 ?rest28
    case run28 => intro w hS; obtain ⟨s0, s1⟩ := hS; go_simp; rfl
    refine wpAnyT_pureD 12 (some 46) ?v29 rfl (by kernel_rfl) (by kernel_rfl) (by kernel_rfl) (by kernel_rfl) (fun _ _ _ h => h) hS0 (by kernel_rfl) rfl ?run29 ?rest29
    case run29 => intro w hS; obtain ⟨s0, s1⟩ := hS; go_simp; rfl
    refine wpAnyT_pureD 13 (some 47) ?v30 rfl (by kernel_rfl) (by kernel_rfl) (by kernel_rfl) (by kernel_rfl) (fun _ _ _ h => h) hS0 (by kernel_rfl) rfl ?run30 ?rest30
    case run30 => intro w hS; obtain ⟨s0, s1⟩ := hS; go_simp; rfl
    refine wpAnyT_pureD 14 (some 48) ?v31 rfl (by kernel_rfl) (by kernel_rfl) (by kernel_rfl) (by kernel_rfl) (fun _ _ _ h => h) hS0 (by kernel_rfl) rfl ?run31 ?rest31
    case run31 => intro w hS; obtain ⟨s0, s1⟩ := hS; go_simp; rfl
    refine wpAnyT_value 15 (some 49) (.slice (some ⟨w2.heap.size, 0, none⟩) 1 1) ((w2.drewN 1).alloc (.cells #[iv (a : Int)] IN)) rfl (by kernel_rfl) (by kernel_rfl) ?rva2 rfl (fun _ => ?sa2) ?_
    case rva2 => go_simp
    case sa2 => exact ⟨(World.cell?_of_block (Below.heap_alloc _ _ _ (by show bt < w2.heap.size; omega))).trans hS0.1, (World.cell?_of_block (Below.heap_alloc _ _ _ (by show pb < w2.heap.size; omega))).trans hS0.2⟩
    clear hS0
    refine wpAnyT_push 16 (some 50) (w := w2.drewN 1) [iv (a : Int)] IN rfl rfl (by kernel_rfl) (by kernel_rfl) rfl _ _ IT rfl z _ 1 8 Tryz.underlying120 info_int rfl (by decide) u _ _ OWN2.out (by kernel_rfl) (by kernel_rfl) rfl rfl (by unfold maxLen; omega) (by omega) hz2 ?_
    intro g cap v5 ho hg hn
    have G2 := Lib.hid (GROW2.out g cap v5 (a : Int) ho ⟨hg.os, hg.tape, hg.output, hg.size, hg.block⟩ hn)
    clear ho hg hn
    have y2 := (World.cell?_of_block (a := ⟨bt, 2, none⟩) G2.out.1.1).trans x2
    have z2 := (World.cell?_of_block (a := ⟨pb, b, none⟩) G2.out.1.2).trans c2
    have f2 := G2.out.1.2.trans HF2.out
    have hS0 : (fun w' : World => w'.cell? ⟨bt, 2, none⟩ = some (.slice (some ⟨pb, 0, none⟩) n n) ∧ w'.cell? ⟨pb, b, none⟩ = some u) v5 := ⟨y2, z2⟩
    refine ⟨fun _ => hS0, ?_⟩
    refine wpAnyT_pureD 17 (some 51) ?v32 rfl (by kernel_rfl) (by kernel_rfl) (by kernel_rfl) (by kernel_rfl) (fun _ _ _ h => h) hS0 (by kernel_rfl) rfl ?run32 ?rest32
    case run32 => intro w hS; obtain ⟨s0, s1⟩ := hS; go_simp; rfl
    have fz := (lies_cells f2).2 b
    refine wpAnyT_step 18 none (v5.setCell ⟨pb, b, none⟩ (.slice (some ⟨g, 0, none⟩) (ql + 1) cap)) rfl (by kernel_rfl) (by kernel_rfl) ?rs2 rfl (fun h => absurd rfl h) ?_
    case rs2 => go_simp
    refine wpAnyT_done (by kernel_rfl) ?_ _
    generalize hA : Act.put _ _ _ = A0
    simp only [put_mk, put_no, List.setIfInBounds_toArray, List.set_cons_succ, List.set_cons_zero] at hA
    subst hA
    have HFIN := Lib.hid (show BldE z bt sb pb mb nv N (E ++ [(a, b)]) (v5.setCell ⟨pb, b, none⟩ (.slice (some ⟨g, 0, none⟩) (ql + 1) cap)) from ⟨_, _, G2.out.2.1, HE.out.add (by have := HN.out; omega) (by have := HN.out; omega) HR.out HQ2.out HM.out⟩)
    have KFIN := Lib.hid (KE2.out.trans G2.out.2.2)
    clear y2 z2 f2 fz hS0 x0 x1 x2 x3 c2
    go_wp2
    exact bodyPost_end (v := .tuple #[]) (by simp [results, Tryz.results49, go_sem]) rfl ⟨rfl, HFIN.out, KFIN.out⟩
end Go.Proofs.YtipnhmdibkkifaaGreatDoor
set_option linter.unusedVariables false
set_option linter.unusedSimpArgs false
set_option linter.unusedSectionVars false
namespace Go.Proofs.YtipnhmdibkkifaaGreatDoor
open Go.RowKit
variable [Base]
set_option maxRecDepth 100000 in
set_option maxHeartbeats 4000000 in
theorem firstc_any (y x : Str) (v : Value) (nb : Nat) (w : World) (hx : w.heap[nb]? = some (.cells #[sv x] TS (0, 0))) :
    Calls Tryz.prog 112 #[.agg #[sv y, v], .pointer (some ⟨nb, 0, none⟩)] w (BoolQ (decide (y = x)) w) := by
  have hlt := lt_heap hx
  have c0 := ((Below.refl w.heap.size w).alloc (Nat.le_refl _) (.cells #[sv y, v] 99)).cell (p := ⟨nb, 0, none⟩) hlt
  have x0 := (blk_cells hx).1 0
  simp at x0
  rw [x0] at c0
  by_cases hyx : y = x
  · subst hyx
    have hd : decide (y = y) = true := by simp
    rw [hd]
    clear hd
    go_enter Tryz.func112, Tryz.ntmps112
    go_wp2
    go_ret
    exact ⟨by simp, (Below.refl _ _).alloc (Nat.le_refl _) _⟩
  · have hd : decide (y = x) = false := by simpa using hyx
    have he : (y == x) = false := by simpa using hyx
    have HNE := Lib.hid hyx
    rw [hd]
    clear hd hyx
    go_enter Tryz.func112, Tryz.ntmps112
    go_wp2
    go_ret
    exact ⟨by (first | (simp [he]; done) | (simp; exact HNE.out)), (Below.refl _ _).alloc (Nat.le_refl _) _⟩
set_option maxRecDepth 100000 in
set_option maxHeartbeats 4000000 in
theorem index_blocks (l : List PBlock) (v : Value) (x : Str) (nb : Nat) (w : World) (h : BlocksAt w v l) (hx : w.heap[nb]? = some (.cells #[sv x] TS (0, 0))) :
    Calls Tryz.prog 111 #[v, .func (.func 112) #[] #[.pointer (some ⟨nb, 0, none⟩)]] w (IntQ (idxI (l.map PBlock.name) x) w) := by
  obtain ⟨a, c, rfl, hn, hc⟩ := h.cell
  have HC := Lib.hid hc
  obtain ⟨n, hl⟩ : ∃ n, l.length = n := ⟨_, rfl⟩
  rw [hl] at hn ⊢
  have HL := Lib.hid hl
  obtain ⟨L, hL⟩ : ∃ L, l.map PBlock.name = L := ⟨_, rfl⟩
  rw [hL]
  have HLL := Lib.hid hL
  have HLN := Lib.hid (show L.length = n by rw [← hL, List.length_map, hl])
  have HX := Lib.hid hx
  clear hc h hl hL hx
  unfold maxLen at hn
  go_enter Tryz.func111, Tryz.ntmps111
  go_wp2
  go_loopw [8] (fun y wr => ∃ k : Nat, k ≤ n ∧ y = .int .i64 k ∧ Hid (Below w.heap.size w wr) ∧ Hid (x ∉ L.take k)) (fun y _ => n - (intOf y).toNat)
  case atStart => exact ⟨0, Nat.zero_le _, rfl, Below.refl _ _, by unfold Hid; simp⟩
  case round =>
    obtain ⟨k, hk, rfl, HB, HNI⟩ := hrel
    by_cases hlt : k < n
    · obtain ⟨f, hf⟩ : ∃ f, l[k]? = some f := ⟨_, List.getElem?_eq_getElem (by rw [HL.out]; exact hlt)⟩
      obtain ⟨fb, off, bv, rfl, hfb, g0, g1, hbl⟩ := HC.out k f hf
      have g0 := (HB.out.cell (p := ⟨fb, off + k * 2, none⟩) hfb).trans g0
      have g1 := (HB.out.cell (p := ⟨fb, off + k * 2 + 1, none⟩) hfb).trans g1
      obtain ⟨ba, bc, rfl, -, -⟩ := hbl.cell
      obtain ⟨bn, hbn⟩ : ∃ n, List.length f.stmts = n := ⟨_, rfl⟩
      rw [hbn] at g1
      have HY := Lib.hid (show L[k]? = some f.name by rw [← HLL.out, List.getElem?_map, hf]; rfl)
      obtain ⟨y, hy⟩ : ∃ y, f.name = y := ⟨_, rfl⟩
      rw [hy] at g0 HY
      have K := Lib.hid (firstc_any y x (.slice ba bn bc) nb wr ((HB.out.block nb (lt_heap HX.out)).trans HX.out))
      clear hf hbl hbn hy
      go_wp2_with fail
      refine K.out.mono ?_
      rintro e w2 ⟨rfl, b2⟩
      have HB2 := Lib.hid (HB.out.trans (b2.mono HB.out.size))
      clear b2 g0 g1 K HB
      by_cases hxy : y = x
      · subst hxy
        have HK := Lib.hid (show idxI L y = (k : Int) from idxI_first HY.out HNI.out)
        have hd : decide (y = y) = true := by simp
        rw [hd]
        clear hd
        go_wp2
        go_ret
        exact ⟨ret_intQ HK.out.symm, HB2.out⟩
      · have HN1 := Lib.hid (show x ∉ L.take (k + 1) by
          rw [List.take_add_one, HY.out]
          intro h
          rcases List.mem_append.1 h with h | h
          · exact HNI.out h
          · simp at h; exact hxy h.symm)
        have hd : decide (y = x) = false := by simpa using hxy
        rw [hd]
        clear hd hxy
        go_wp2
        go_roundw
        case rel => exact ⟨k + 1, by omega, by go_num, HB2, HN1⟩
        case measure => simp [intOf]; omega
    · have HK := Lib.hid (show idxI L x = -1 by
        unfold idxI
        rw [if_neg (fun h => HNI.out (by rwa [List.take_of_length_le (by rw [HLN.out]; omega)]))])
      go_wp2
      go_ret
      exact ⟨ret_intQ HK.out.symm, HB.out⟩
set_option maxRecDepth 100000 in
set_option maxHeartbeats 4000000 in
theorem stmtc_any (y x : Str) (v : Value) (nb : Nat) (w : World) (op : Int) (dn : Str) (u t : Value) (hx : w.heap[nb]? = some (.cells #[iv op, sv dn, u, t] 118 (0, 0))) (tl : List Str) (ht : StrsAt w t (x :: tl)) :
    Calls Tryz.prog 80 #[.agg #[sv y, v], .pointer (some ⟨nb, 0, none⟩)] w (BoolQ (decide (y = x)) w) := by
  have hlt := lt_heap hx
  obtain ⟨ta, tc, rfl, -, htc⟩ := ht.cell
  obtain ⟨tb, toff, rfl, htb, g1⟩ := htc 0 x rfl
  obtain ⟨tn, htn⟩ : ∃ n, (x :: tl).length = n + 1 := ⟨tl.length, rfl⟩
  rw [htn] at hx
  have AL := (Below.refl w.heap.size w).alloc (Nat.le_refl _) (.cells #[sv y, v] 74)
  have hx2 := (AL.block nb hlt).trans hx
  have c0 := (AL.cell (p := ⟨tb, toff, none⟩) htb).trans (by simpa using g1)
  have n0 := heap_alloc_new w (.cells #[sv y, v] 74)
  obtain ⟨W, hW⟩ : ∃ W, w.alloc (.cells #[sv y, v] 74) = W := ⟨_, rfl⟩
  have HW := Lib.hid hW
  rw [hW] at hx2 c0 n0
  have BW := Lib.hid (hW ▸ AL)
  obtain ⟨s0, s1, s2, s3⟩ := cells4s hx2
  obtain ⟨m0, m1⟩ := cells2s n0
  obtain ⟨q, hq⟩ : ∃ q, w.heap.size = q := ⟨_, rfl⟩
  have HQ := Lib.hid hq
  rw [hq] at m0 m1
  clear hW AL hx hx2 n0 htn g1 htc ht htb
  go_enter Tryz.func80, Tryz.ntmps80
  go_upto_region 1 with (fail)
  rw [show w.alloc (.cells #[sv y, v] 74) = W from HW.out]
  try rw [hq]
  clear hq
  by_cases hyx : y = x
  · subst hyx
    have hd : decide (y = y) = true := by simp
    rw [hd]
    clear hd
    go_region
    go_wp2
    go_ret
    exact ⟨by simp, below_drewQ BW.out 1⟩
  · have hd : decide (y = x) = false := by simpa using hyx
    have he : (y == x) = false := by simpa using hyx
    have HNE := Lib.hid hyx
    rw [hd]
    clear hd hyx
    go_region
    go_wp2
    go_ret
    exact ⟨by (first | (simp [he]; done) | (simp; exact HNE.out)), below_drewQ BW.out 1⟩
set_option maxRecDepth 100000 in
set_option maxHeartbeats 4000000 in
theorem index_funcs (l : List PFunc) (v : Value) (x : Str) (nb : Nat) (w : World) (h : FuncsAt w v l) (op : Int) (dn : Str) (u t : Value) (hx : w.heap[nb]? = some (.cells #[iv op, sv dn, u, t] 118 (0, 0))) (tl : List Str) (ht : StrsAt w t (x :: tl)) :
    Calls Tryz.prog 79 #[v, .func (.func 80) #[] #[.pointer (some ⟨nb, 0, none⟩)]] w (IntQ (idxI (l.map PFunc.name) x) w) := by
  obtain ⟨a, c, rfl, hn, hc⟩ := h.cell
  have HC := Lib.hid hc
  obtain ⟨n, hl⟩ : ∃ n, l.length = n := ⟨_, rfl⟩
  rw [hl] at hn ⊢
  have HL := Lib.hid hl
  obtain ⟨L, hL⟩ : ∃ L, l.map PFunc.name = L := ⟨_, rfl⟩
  rw [hL]
  have HLL := Lib.hid hL
  have HLN := Lib.hid (show L.length = n by rw [← hL, List.length_map, hl])
  have HX := Lib.hid hx
  have HT := Lib.hid ht
  clear hc h hl hL hx ht
  unfold maxLen at hn
  go_enter Tryz.func79, Tryz.ntmps79
  go_wp2
  go_loopw [8] (fun y wr => ∃ k : Nat, k ≤ n ∧ y = .int .i64 k ∧ Hid (Below w.heap.size w wr) ∧ Hid (x ∉ L.take k)) (fun y _ => n - (intOf y).toNat)
  case atStart => exact ⟨0, Nat.zero_le _, rfl, Below.refl _ _, by unfold Hid; simp⟩
  case round =>
    obtain ⟨k, hk, rfl, HB, HNI⟩ := hrel
    by_cases hlt : k < n
    · obtain ⟨f, hf⟩ : ∃ f, l[k]? = some f := ⟨_, List.getElem?_eq_getElem (by rw [HL.out]; exact hlt)⟩
      obtain ⟨fb, off, bv, rfl, hfb, g0, g1, hbl⟩ := HC.out k f hf
      have g0 := (HB.out.cell (p := ⟨fb, off + k * 2, none⟩) hfb).trans g0
      have g1 := (HB.out.cell (p := ⟨fb, off + k * 2 + 1, none⟩) hfb).trans g1
      obtain ⟨ba, bc, rfl, -, -⟩ := hbl.cell
      obtain ⟨bn, hbn⟩ : ∃ n, List.length f.blocks = n := ⟨_, rfl⟩
      rw [hbn] at g1
      have HY := Lib.hid (show L[k]? = some f.name by rw [← HLL.out, List.getElem?_map, hf]; rfl)
      obtain ⟨y, hy⟩ : ∃ y, f.name = y := ⟨_, rfl⟩
      rw [hy] at g0 HY
      have K := Lib.hid (stmtc_any y x (.slice ba bn bc) nb wr op dn u t ((HB.out.block nb (lt_heap HX.out)).trans HX.out) tl (HT.out.same (SameT.below HB.out)))
      clear hf hbl hbn hy
      go_wp2_with fail
      refine K.out.mono ?_
      rintro e w2 ⟨rfl, b2⟩
      have HB2 := Lib.hid (HB.out.trans (b2.mono HB.out.size))
      clear b2 g0 g1 K HB
      by_cases hxy : y = x
      · subst hxy
        have HK := Lib.hid (show idxI L y = (k : Int) from idxI_first HY.out HNI.out)
        have hd : decide (y = y) = true := by simp
        rw [hd]
        clear hd
        go_wp2
        go_ret
        exact ⟨ret_intQ HK.out.symm, HB2.out⟩
      · have HN1 := Lib.hid (show x ∉ L.take (k + 1) by
          rw [List.take_add_one, HY.out]
          intro h
          rcases List.mem_append.1 h with h | h
          · exact HNI.out h
          · simp at h; exact hxy h.symm)
        have hd : decide (y = x) = false := by simpa using hxy
        rw [hd]
        clear hd hxy
        go_wp2
        go_roundw
        case rel => exact ⟨k + 1, by omega, by go_num, HB2, HN1⟩
        case measure => simp [intOf]; omega
    · have HK := Lib.hid (show idxI L x = -1 by
        unfold idxI
        rw [if_neg (fun h => HNI.out (by rwa [List.take_of_length_le (by rw [HLN.out]; omega)]))])
      go_wp2
      go_ret
      exact ⟨ret_intQ HK.out.symm, HB.out⟩
set_option maxRecDepth 100000 in
theorem at_any {z bt sb pb mb : Nat} {nv : Value} {N : List PNode} {E : List (Nat × Nat)} {w : World} (h : BldE z bt sb pb mb nv N E w) (a b c d : Int) (hf : fitN ⟨a, b, c, d⟩) :
    Calls Tryz.prog 50 #[.pointer (some ⟨bt, 0, none⟩), iv a, iv b, iv c, iv d] w (fun e w' => e = .returned (iv (numN N ⟨a, b, c, d⟩)) ∧ w' = w) := by
  obtain ⟨S, P, hB, -⟩ := h
  obtain ⟨x0, x1, x2, x3⟩ := cells4s hB.bl
  have hlk := hB.mp.look hf
  simp only at hlk
  obtain ⟨r, hr⟩ : ∃ r, numN N ⟨a, b, c, d⟩ = r := ⟨_, rfl⟩
  rw [hr] at hlk ⊢
  obtain ⟨n, hn⟩ : ∃ n, N.length = n := ⟨_, rfl⟩
  rw [hn] at x1 x2
  clear hB hf hr hn
  go_enter Tryz.func50, Tryz.ntmps50
  go_wp2
  go_ret
  exact ⟨rfl, rfl⟩
end Go.Proofs.YtipnhmdibkkifaaGreatDoor
