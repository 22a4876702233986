/- The laws of Boolean algebra on sets of bits: plain Lean, no program in sight. -/
import Derived.Test.YtmanmlankfoflaaDoorBsX
import Derived.Test.YtmanmlankfoflaaDoorBsMp
import Derived.Test.YtmanmlankfoflaaDoorBsQ
set_option linter.unusedVariables false
set_option linter.unusedSimpArgs false
set_option linter.unusedSectionVars false
namespace Go.Proofs.YtmanmlankfoflaaDoor
variable [Base]

/-- A valid set of width m. -/
structure Ok (m : Nat) (s : QSet) : Prop where
  form : FormS s
  ok : setB s = true
  width : s.width = (m : Int)
theorem Ok.le {m : Nat} {s : QSet} (h : Ok m s) : m ≤ 256 := by
  obtain ⟨k, h1, h2, -⟩ := form_len h.form
  have := h.width
  omega
theorem Ok.words {m : Nat} {s : QSet} (h : Ok m s) : wordsOk s.words := h.form.2.2
theorem Ok.ext {m : Nat} {s t : QSet} (h : Ok m s) (k : Ok m t) (hb : ∀ b : Nat, bitOf s.words b = bitOf t.words b) : s = t := set_ext (h.width.trans k.width.symm) h.form k.form hb
theorem merge_ok {f : Nat → Nat → Nat} {g : Bool → Bool → Bool} (hfg : ∀ a b k, (f a b).testBit k = g (a.testBit k) (b.testBit k)) (hlt : ∀ a b, a < 18446744073709551616 → b < 18446744073709551616 → f a b < 18446744073709551616) (h0 : g false false = false)
    {m : Nat} {s t : QSet} (hs : Ok m s) (ht : Ok m t) : ∃ r, mergeS f s t = (r, 0) ∧ Ok m r ∧ ∀ b : Nat, bitOf r.words b = g (bitOf s.words b) (bitOf t.words b) := by
  have hw : s.width = t.width := hs.width.trans ht.width.symm
  have hz := zip_form hlt hs.form ht.form hw
  refine ⟨zipS f s t, ?_, ⟨hz.1, zip_ok hfg hlt h0 hs.ok ht.ok hs.words ht.words hw, hs.width⟩, fun b => ?_⟩
  · unfold mergeS
    rw [if_neg (by rw [hs.ok, ht.ok]; simp), if_neg (by simpa using hw)]
  · rw [show (zipS f s t).words = List.zipWith f s.words t.words from rfl, zip_bit hfg hz.2 h0]
theorem or_ok {m : Nat} {s t : QSet} (hs : Ok m s) (ht : Ok m t) : ∃ r, mergeS (· ||| ·) s t = (r, 0) ∧ Ok m r ∧ ∀ b : Nat, bitOf r.words b = (bitOf s.words b || bitOf t.words b) := merge_ok bit_or (fun _ _ => lt_or) rfl hs ht
theorem and_ok {m : Nat} {s t : QSet} (hs : Ok m s) (ht : Ok m t) : ∃ r, mergeS (· &&& ·) s t = (r, 0) ∧ Ok m r ∧ ∀ b : Nat, bitOf r.words b = (bitOf s.words b && bitOf t.words b) := merge_ok bit_and (fun _ _ h _ => and_lt h) rfl hs ht
theorem clr_ok {m : Nat} {s t : QSet} (hs : Ok m s) (ht : Ok m t) : ∃ r, mergeS clr s t = (r, 0) ∧ Ok m r ∧ ∀ b : Nat, bitOf r.words b = (bitOf s.words b && !bitOf t.words b) := merge_ok (g := fun a b => a && !b) bit_clr (fun _ _ h _ => clr_lt h) rfl hs ht
theorem full_ok {m : Nat} (h : m ≤ 256) : Ok m (fullTo m m) ∧ ∀ b : Nat, bitOf (fullTo m m).words b = decide (b < m) := by
  have hf := fullTo_form h m
  have hb := fullTo_bit h m (Nat.le_refl _)
  refine ⟨⟨hf.1, valid_of hf.1 fun b hb2 => ?_, hf.2⟩, hb⟩
  rw [hb]
  rw [hf.2] at hb2
  simp; omega
theorem Ok.tail {m : Nat} {s : QSet} (h : Ok m s) {b : Nat} (hb : m ≤ b) : bitOf s.words b = false := valid_tail h.ok h.words (by rw [h.width]; omega)
theorem hasB_bit {m : Nat} {s : QSet} (h : Ok m s) {k : Nat} (hk : k < m) : hasB s (k : Int) = bitOf s.words k := by
  unfold hasB
  rw [h.ok, h.width]
  simp [hk]
theorem rhas_at {s : QSet} {b : Int} {d : Bool} (h : hasB s b = d) (u : Value) (w : World) (h1 : WordsAt w u s.words) : Calls Tryd.prog 41 #[.agg #[.int .i64 s.width, u], .int .i64 b] w (BoolQ d w) := h ▸ rhas_any s b u w h1
theorem eqB_self {m : Nat} {s : QSet} (h : Ok m s) : eqB s s = true := by unfold eqB; rw [h.ok]; simp
theorem memS_none {m : Nat} {s : QSet} (h : Ok m s) (hb : ∀ b : Nat, bitOf s.words b = false) : memS s = [] := by
  unfold memS
  rw [if_pos h.ok, List.filter_eq_nil_iff]
  intro b _
  rw [hb]; simp
theorem sub_ok {m : Nat} {s t : QSet} (hs : Ok m s) (ht : Ok m t) (h : ∀ b : Nat, bitOf s.words b = true → bitOf t.words b = true) : subB s t = true := by
  obtain ⟨r, e, hr, hb⟩ := clr_ok hs ht
  unfold subB
  rw [e, memS_none hr fun b => ?_]
  · rfl
  · rw [hb]
    cases h1 : bitOf s.words b
    · rfl
    · rw [h b h1]; rfl
theorem count_split (p q : Nat → Bool) : ∀ l : List Nat, (l.filter fun b => p b || q b).length + (l.filter fun b => p b && q b).length = (l.filter p).length + (l.filter q).length
  | [] => rfl
  | a :: l => by
    have ih := count_split p q l
    simp only [List.filter_cons]
    cases hp : p a <;> cases hq : q a <;> simp <;> omega
theorem count_ok {m : Nat} {a b u i : QSet} (ha : Ok m a) (hb : Ok m b) (hu : Ok m u) (hi : Ok m i) (bu : ∀ k : Nat, bitOf u.words k = (bitOf a.words k || bitOf b.words k)) (bi : ∀ k : Nat, bitOf i.words k = (bitOf a.words k && bitOf b.words k)) :
    (memS u).length + (memS i).length = (memS a).length + (memS b).length := by
  unfold memS
  rw [if_pos ha.ok, if_pos hb.ok, if_pos hu.ok, if_pos hi.ok, ha.width, hb.width, hu.width, hi.width, show bitOf u.words = fun k => bitOf a.words k || bitOf b.words k from funext bu, show bitOf i.words = fun k => bitOf a.words k && bitOf b.words k from funext bi]
  exact count_split _ _ _
/-- All that the law computes of three sets. -/
structure Alg (m : Nat) (a b c u x p q y d f g na nb bo nu i : QSet) : Prop where
  ha : Ok m a
  hb : Ok m b
  hu : mergeS (· ||| ·) a b = (u, 0)
  hx : mergeS (· &&& ·) u c = (x, 0)
  hp : mergeS (· &&& ·) a c = (p, 0)
  hq : mergeS (· &&& ·) b c = (q, 0)
  hy : mergeS (· ||| ·) p q = (y, 0)
  hd : mergeS clr u b = (d, 0)
  hf : mergeS clr a b = (f, 0)
  hg : fullTo m m = g
  hna : mergeS clr g a = (na, 0)
  hnb : mergeS clr g b = (nb, 0)
  hbo : mergeS (· &&& ·) na nb = (bo, 0)
  hnu : mergeS clr g u = (nu, 0)
  hi : mergeS (· &&& ·) a b = (i, 0)
  e1 : eqB x y = true
  e2 : eqB d f = true
  e3 : eqB bo nu = true
  e4 : subB a u = true
  e5 : (memS u).length + (memS i).length = (memS a).length + (memS b).length
theorem alg {m : Nat} {a b c : QSet} (ha : Ok m a) (hb : Ok m b) (hc : Ok m c) : ∃ u x p q y d f g na nb bo nu i, Alg m a b c u x p q y d f g na nb bo nu i := by
  obtain ⟨u, eu, hu, bu⟩ := or_ok ha hb
  obtain ⟨x, ex, hx, bx⟩ := and_ok hu hc
  obtain ⟨p, ep, hp, bp⟩ := and_ok ha hc
  obtain ⟨q, eq, hq, bq⟩ := and_ok hb hc
  obtain ⟨y, ey, hy, byy⟩ := or_ok hp hq
  obtain ⟨d, ed, hd, bd⟩ := clr_ok hu hb
  obtain ⟨f, ef, hf, bf⟩ := clr_ok ha hb
  obtain ⟨hg, bg⟩ := full_ok ha.le
  obtain ⟨g, eg⟩ : ∃ g, fullTo m m = g := ⟨_, rfl⟩
  rw [eg] at hg bg
  obtain ⟨na, ena, hna, bna⟩ := clr_ok hg ha
  obtain ⟨nb, enb, hnb, bnb⟩ := clr_ok hg hb
  obtain ⟨bo, ebo, hbo, bbo⟩ := and_ok hna hnb
  obtain ⟨nu, enu, hnu, bnu⟩ := clr_ok hg hu
  obtain ⟨i, ei, hi, bi⟩ := and_ok ha hb
  refine ⟨u, x, p, q, y, d, f, g, na, nb, bo, nu, i, ha, hb, eu, ex, ep, eq, ey, ed, ef, eg, ena, enb, ebo, enu, ei, ?_, ?_, ?_, ?_, count_ok ha hb hu hi bu bi⟩
  · obtain rfl : x = y := hx.ext hy fun k => by
      rw [bx, bu, byy, bp, bq]
      cases bitOf a.words k <;> cases bitOf b.words k <;> cases bitOf c.words k <;> rfl
    exact eqB_self hx
  · obtain rfl : d = f := hd.ext hf fun k => by
      rw [bd, bu, bf]
      cases bitOf a.words k <;> cases bitOf b.words k <;> rfl
    exact eqB_self hd
  · obtain rfl : bo = nu := hbo.ext hnu fun k => by
      rw [bbo, bna, bnb, bnu, bu]
      cases bitOf a.words k <;> cases bitOf b.words k <;> cases bitOf g.words k <;> rfl
    exact eqB_self hbo
  · exact sub_ok ha hu fun k h => by rw [bu, h]; rfl
end Go.Proofs.YtmanmlankfoflaaDoor
