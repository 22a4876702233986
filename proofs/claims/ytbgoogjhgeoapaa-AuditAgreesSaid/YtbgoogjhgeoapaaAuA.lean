/- Walks: the audit's account. -/
import Derived.Test.YtbgoogjhgeoapaaAuS
set_option linter.unusedVariables false
set_option linter.unusedSimpArgs false
set_option linter.unusedSectionVars false
namespace Go.Proofs.Ytbgoogjhgeoapaa
open Go.RowKit
variable [Base]

def Same (ρ ρ' : Rho) (n : Nat) : Prop := ∀ q, q < n → ρ' q = ρ q
def AccQ (B M N : Nat) (w : World) (b : Nat) (c : CV) (s : Aud) (km : Nat) (ρ : Rho) (pt sm : Int → Nat) (q : Int) (e : Ending) (w' : World) : Prop :=
  ∃ ρ' pt', e = .returned (pv (pt' q)) ∧ AudAt B (M + 1) N w' b c { s with known := ensure s.known q } km ρ' pt' sm ∧ Fr ρ w w' ∧ Same ρ ρ' w.heap.size
theorem accOf_ne_snoc {l : List Acc} {q k : Int} (h : k ≠ q) : accOf (l ++ [newAcc q]) k = accOf l k := by
  unfold accOf
  rw [List.find?_append]
  have : List.find? (fun a => decide (a.id = k)) [newAcc q] = none := by simp [newAcc, Ne.symm h]
  rw [this]
  cases List.find? (fun a => decide (a.id = k)) l <;> rfl
theorem AccAt.fresh {w : World} {p m N : Nat} {q : Int} (h : w.heap[p]? = some (.cells #[iv 0, .bool true, .bool true, .bool true, .bool true, iv 0, .bool false, .map none] 78 (0, 0))) : AccAt w N p m (newAcc q) :=
  ⟨⟨true, true, true, true, .map none, rfl, h, .inl ⟨rfl, rfl⟩⟩, ⟨Int.le_refl 0, by show (0 : Int) ≤ N; omega⟩, ⟨by show (-7 : Int) ≤ 0; decide, by show (0 : Int) ≤ 64 * N; omega⟩, fun k => ⟨Int.le_refl 0, by show (0 : Int) ≤ N; omega⟩⟩
/-- A new account behind the store. -/
theorem AudAt.more {B M N : Nat} {w w' : World} {b : Nat} {c : CV} {s : Aud} {km : Nat} {ρ : Rho} {pt sm : Int → Nat} {o : Obj} (h : AudAt B M N w b c s km ρ pt sm) {q : Int} (hq : 0 ≤ q ∧ q ≤ 1073741824) (hn : accOf s.known q = none)
    (ho : o = .cells #[iv 0, .bool true, .bool true, .bool true, .bool true, iv 0, .bool false, .map none] 78 (0, 0))
    (hm : MapF Try.prog TI ptrEnc w' km (M + 1) (fun k => if k = q then some w.heap.size else (accOf s.known k).map fun _ => pt k) (fun k => decide (k = q) || ((accOf s.known k).map fun _ => pt k).isSome)) (hg : (w.alloc o).grownBy w' (some km)) :
    AudAt B (M + 1) N w' b c { s with known := ensure s.known q } km (fun p => if p = w.heap.size then some (2, q) else ρ p) (fun k => if k = q then w.heap.size else pt k) sm := by
  have he : ensure s.known q = s.known ++ [newAcc q] := by unfold ensure; rw [hn]
  have hid : ∀ a ∈ s.known, a.id ≠ q := by
    intro a ha e
    have := h.uq a ha
    rw [e, hn] at this
    cases this
  have hb := lt_heap h.main
  have hk := MapF.lt h.mp
  have hbk : b ≠ km := fun e => by have h1 := h.rb; have h2 := h.rk; rw [e, h2] at h1; simp at h1
  have old : ∀ p, p < w.heap.size → p ≠ km → w'.heap[p]? = w.heap[p]? := fun p hp hpk => (hg.block p (by simp; omega) (fun e => hpk (by cases e; rfl))).trans (Below.heap_alloc _ _ _ hp)
  have rn : ∀ p, p < w.heap.size → (fun p => if p = w.heap.size then some ((2 : Nat), q) else ρ p) p = ρ p := fun p hp => if_neg (by omega)
  have hpt : ∀ a ∈ s.known, pt a.id ≠ km := fun a ha e => by have h1 := h.ra a ha; rw [e, h.rk] at h1; simp at h1
  have hsm : ∀ a ∈ s.known, 0 < a.turns → sm a.id ≠ km := fun a ha ht e => by have h1 := h.rs a ha ht; rw [e, h.rk] at h1; simp at h1
  refine ⟨(old b hb hbk).trans h.main, ?_, ?_, h.uq.ensure q, (rn b hb).trans h.rb, (rn km hk).trans h.rk, ?_, ?_, fun p hp => (rn p (by have := h.big; omega)).trans (h.out p hp), ?_, ?_, ?_⟩
  · refine MapF.congr hm (fun k => ?_) (fun k => ?_)
    · show (if k = q then some w.heap.size else (accOf s.known k).map fun _ => pt k) = (accOf (ensure s.known q) k).map fun _ => if k = q then w.heap.size else pt k
      rw [he]
      by_cases e : k = q
      · subst e
        have : accOf (s.known ++ [newAcc k]) k = some (newAcc k) := accOf_snoc (a := newAcc k) hn
        simp [this]
      · rw [accOf_ne_snoc e]; simp [e]
    · show _ = ((accOf (ensure s.known q) k).map fun _ => if k = q then w.heap.size else pt k).isSome
      rw [he]
      by_cases e : k = q
      · subst e
        have : accOf (s.known ++ [newAcc k]) k = some (newAcc k) := accOf_snoc (a := newAcc k) hn
        simp [this]
      · rw [accOf_ne_snoc e]; simp [e]
  · intro a ha
    show AccAt w' N (if a.id = q then w.heap.size else pt a.id) (sm a.id) a
    rw [he] at ha
    rcases List.mem_append.1 ha with h1 | h1
    · rw [if_neg (hid a h1)]
      exact (h.acc a h1).keep (old _ (h.acc a h1).lt.1 (hpt a h1)) (fun ht => old _ ((h.acc a h1).lt.2 ht) (hsm a h1 ht))
    · rw [List.mem_singleton.1 h1, if_pos (show (newAcc q).id = q from rfl)]
      refine AccAt.fresh ?_
      rw [hg.block _ (by simp) (fun e => by cases e; omega), heap_alloc_new w o, ho]
  · intro a ha
    show (if (if a.id = q then w.heap.size else pt a.id) = w.heap.size then some ((2 : Nat), q) else ρ (if a.id = q then w.heap.size else pt a.id)) = some (2, a.id)
    rw [he] at ha
    rcases List.mem_append.1 ha with h1 | h1
    · rw [if_neg (hid a h1), if_neg (by have := (h.acc a h1).lt.1; omega)]; exact h.ra a h1
    · rw [List.mem_singleton.1 h1, if_pos (show (newAcc q).id = q from rfl), if_pos rfl]; rfl
  · intro a ha ht
    show (if sm a.id = w.heap.size then some ((2 : Nat), q) else ρ (sm a.id)) = some (3, a.id)
    rw [he] at ha
    rcases List.mem_append.1 ha with h1 | h1
    · rw [if_neg (by have := (h.acc a h1).lt.2 ht; omega)]; exact h.rs a h1 ht
    · rw [List.mem_singleton.1 h1] at ht; exact absurd ht (Int.lt_irrefl 0)
  · intro p hp
    have hs := hg.size
    simp at hs
    show (if p = w.heap.size then some ((2 : Nat), q) else ρ p) = none
    rw [if_neg (by omega)]; exact h.new p (by omega)
  · intro a ha
    rw [he] at ha
    rcases List.mem_append.1 ha with h1 | h1
    · exact h.wf a h1
    · rw [List.mem_singleton.1 h1]; exact hq
  · have hs := hg.size
    simp at hs
    have := h.big
    omega
set_option maxHeartbeats 1000000 in
theorem account_any {B M N : Nat} {w : World} {b : Nat} {c : CV} {s : Aud} {km : Nat} {ρ : Rho} {pt sm : Int → Nat} (h : AudAt B M N w b c s km ρ pt sm) (hM : M ≤ 8192) {q : Int} (hq : 0 ≤ q ∧ q ≤ 1073741824) :
    Calls Try.prog 35 #[pv b, iv q] w (AccQ B M N w b c s km ρ pt sm q) := by
  have wk : Wf q := wf_small (by omega)
  have lk := h.mp.look und_int und_mp (zeroPA w) wk
  obtain ⟨y5, y6, y7, y8, y9⟩ := cells10 h.main
  have H := Lib.hid h
  have HQ := Lib.hid hq
  have WK := Lib.hid wk
  cases hn : accOf s.known q with
  | some a =>
    simp only [hn, Option.map_some, ptrEnc, ptrV] at lk
    have HE := Lib.hid (show ensure s.known q = s.known by unfold ensure; rw [hn])
    clear h hn wk hq
    go_enter Try.func35, Try.ntmps35
    go_wp2
    go_ret
    refine ⟨ρ, pt, rfl, ?_, Fr.refl _ _, fun _ _ => rfl⟩
    rw [HE.out]
    exact { H.out with mp := MapF.mono H.out.mp (Nat.le_succ M) }
  | none =>
    simp only [hn, Option.map_none, ptrEnc, ptrV] at lk
    have HN := Lib.hid hn
    have MP := Lib.hid (show MapF Try.prog TI ptrEnc (w.alloc (.cells #[iv 0, .bool true, .bool true, .bool true, .bool true, iv 0, .bool false, .map none] 78)) km M (fun k => (accOf s.known k).map fun _ => pt k) (fun k => ((accOf s.known k).map fun _ => pt k).isSome) from h.mp.block (Below.heap_alloc _ _ _ (MapF.lt h.mp)))
    have hbl := lt_heap h.main
    have HB := Lib.hid hbl
    clear h hn wk hq hbl
    go_enter Try.func35, Try.ntmps35
    go_wp2_with (at_mapUpdate; refine wpList_storeF ptrEnc rfl _ _ _ _ rfl und_int und_mp rfl MP.out (by unfold maxLen; omega) rfl WK.out (some w.heap.size) rfl ?_; intro w1 hm1 hg1; have HA := Lib.hid (H.out.more HQ.out HN.out rfl hm1 hg1); have HG := Lib.hid hg1; have lk1 := hm1.look und_int und_mp (zeroPA w1) WK.out; simp only [if_true, ptrEnc, ptrV] at lk1; obtain ⟨z5, z6, z7, z8, z9⟩ := cells10 HA.out.main; clear hm1 hg1 lk)
    go_ret
    refine ⟨_, _, ?_, HA.out, ?_, fun p hp => if_neg (by omega)⟩
    · show Ending.returned _ = .returned (pv (if q = q then w.heap.size else pt q))
      rw [if_pos rfl]
      rfl
    · exact ((Fr.refl ρ w).alloc _).grown HG.out (by rw [H.out.rk]; simp)
end Go.Proofs.Ytbgoogjhgeoapaa
