/- Walks: flqref19.AddSeat, at a valid ring that has room. Printed by wip/gen_aug3.py. -/
import Derived.Test.YtbgoogjhgeoapaaAuG2
import Derived.Test.YtbgoogjhgeoapaaSlv
import Derived.Test.YtbgoogjhgeoapaaMem2
import Derived.Deep.DeepMust
set_option linter.unusedVariables false
set_option linter.unusedSimpArgs false
set_option linter.unusedSectionVars false
namespace Go.Proofs.Ytbgoogjhgeoapaa
open Go.RowKit
variable [Base]

theorem info_seat : (Try.prog.info? 49).map (fun i => (i.zero, i.size, i.bytes)) = some (some (Value.agg #[.int .i64 0, .int .i64 0, .int .i64 0, .int .i64 0]), 4, 32) := by kernel_rfl
theorem empty_seat (w : World) : (w.alloc (.cells #[] 49)).ownsRow w.heap.size 49 4 (.slice (some ⟨w.heap.size, 0, none⟩) 0 0) 0 [] :=
  ⟨rfl, .inr ⟨w.heap.size, 0, #[], rfl, Nat.le_refl _, heap_alloc_new w _, Nat.le_refl _, Nat.zero_le _, rfl, rfl⟩⟩
theorem own_empty {w : World} {k : Nat} (h : w.heap.size = k) : (w.alloc (.cells #[] 49)).ownsRow k 49 4 (.slice (some ⟨k, 0, none⟩) 0 0) 0 [] := by subst h; exact empty_seat w
theorem grown_below {w w' : World} {k d n : Nat} (h : w.heap.size = k) (hg : (w.alloc (.cells #[] 49)).grownBy w' (Value.slice (some ⟨k, 0, none⟩) n d).ownBlock) : Below k w w' := by
  subst h
  exact ((Below.refl _ w).alloc (Nat.le_refl _) _).trans ⟨hg.os, hg.tape, hg.output, hg.size, fun q hq => hg.block q (by simp; omega) (fun e => by simp [Value.ownBlock] at e; omega)⟩
abbrev seatsX (l : List SV) : List Value := (l.map seatC).flatten
theorem seatsX_len (l : List SV) : (seatsX l).length = l.length * 4 := by rw [flatten_len 4 _ (seatC_len l), List.length_map]
theorem seatsX_oc (l : List SV) : (seatsX l).all Value.oneCell' = true := by
  rw [List.all_eq_true]
  intro x hx
  obtain ⟨y, hy, hx⟩ := List.mem_flatten.1 hx
  obtain ⟨s, _, rfl⟩ := List.mem_map.1 hy
  simp only [seatC, List.mem_cons, List.not_mem_nil, or_false] at hx
  rcases hx with rfl | rfl | rfl | rfl <;> rfl
theorem seatsX_app (a b : List SV) : seatsX (a ++ b) = seatsX a ++ seatsX b := by simp [seatsX]
theorem seatsX_take (l : List SV) : ∀ k, (seatsX l).take (k * 4) = seatsX (l.take k) := by
  induction l with
  | nil => intro k; simp [seatsX]
  | cons s l ih =>
    intro k
    cases k with
    | zero => simp [seatsX]
    | succ k =>
      have := ih k
      simp only [seatsX, List.map_cons, List.flatten_cons, List.take_succ_cons] at this ⊢
      rw [show (k + 1) * 4 = (seatC s).length + k * 4 by simp [seatC]; omega, List.take_length_add_append, this]
theorem seatsX_drop (l : List SV) : ∀ k, (seatsX l).drop (k * 4) = seatsX (l.drop k) := by
  induction l with
  | nil => intro k; simp [seatsX]
  | cons s l ih =>
    intro k
    cases k with
    | zero => simp [seatsX]
    | succ k =>
      have := ih k
      simp only [seatsX, List.map_cons, List.flatten_cons, List.drop_succ_cons] at this ⊢
      rw [show (k + 1) * 4 = (seatC s).length + k * 4 by simp [seatC]; omega, List.drop_length_add_append, this]
/-- A ring's seats, owned. -/
def OwnS (B : Nat) (w : World) (v : Value) (l : List SV) : Prop := w.ownsRow B 49 4 v l.length (seatsX l)
theorem OwnS.seats {B : Nat} {w : World} {v : Value} {l : List SV} (h : OwnS B w v l) : SeatsAt w v l := SliceAt.of_owns h
def posR (r : RV) : Nat := if r.at_ ≠ 0 ∨ r.op = true then r.at_ else r.ss.length
def addR (r : RV) (id pri : Int) : RV := ⟨r.ba, r.pe, r.ss.take (posR r) ++ (⟨id, pri, 0, 0⟩ :: r.ss.drop (posR r)), if r.at_ ≠ 0 ∨ r.op = true then r.at_ + 1 else r.at_, r.op⟩
/-- A function's answer: a ring and a number. -/
def RingQ (B : Nat) (r : RV) (k : Value) (w : World) (e : Ending) (w' : World) : Prop := ∃ v', e = .returned (.tuple #[ringV r v', k]) ∧ OwnS B w' v' r.ss ∧ Below w.heap.size w w'
/-- The answer's block, when the ring was stored and copied into it. -/
theorem ring_out {B base : Nat} {w v F : World} {rb : Nat} {s z0 z1 z2 z3 z4 y0 y1 y3 y4 u : Value} (r : RV) (hz : v.heap[rb + 1]? = some (.cells #[z0, z1, z2, z3, z4] 44 (0, 0))) (hb : Below w.heap.size w v) (hrb : w.heap.size = rb) (hB : B ≤ w.heap.size) (hbase : rb + 1 < base)
    (ho : v.ownsRow base 49 4 s r.ss.length (seatsX r.ss)) (hF : F = (((((v.setCell ⟨rb, 2, none⟩ u).setCell ⟨rb + 1, 0, none⟩ y0).setCell ⟨rb + 1, 1, none⟩ y1).setCell ⟨rb + 1, 2, none⟩ s).setCell ⟨rb + 1, 3, none⟩ y3).setCell ⟨rb + 1, 4, none⟩ y4) :
    F.heap[rb + 1]? = some (.cells #[y0, y1, s, y3, y4] 44 (0, 0)) ∧ OwnS B F s r.ss ∧ Below w.heap.size w F := by
  subst hF
  have e0 : (v.setCell ⟨rb, 2, none⟩ u).heap[rb + 1]? = some (.cells #[z0, z1, z2, z3, z4] 44 (0, 0)) := by rw [Below.heap_setCell _ _ _ _ (by show rb + 1 ≠ rb; omega)]; exact hz
  have e1 := set_cells (o := 4) (u := y4) (set_cells (o := 3) (u := y3) (set_cells (o := 2) (u := s) (set_cells (o := 1) (u := y1) (set_cells (o := 0) (u := y0) e0))))
  simp only [List.setIfInBounds_toArray, List.set_cons_zero, List.set_cons_succ] at e1
  refine ⟨e1, ?_, ?_⟩
  · refine own_base (own_keep ho fun q hq hq2 => ?_) (show B ≤ base by omega)
    rw [Below.heap_setCell _ _ _ _ (by show q ≠ rb + 1; omega), Below.heap_setCell _ _ _ _ (by show q ≠ rb + 1; omega), Below.heap_setCell _ _ _ _ (by show q ≠ rb + 1; omega), Below.heap_setCell _ _ _ _ (by show q ≠ rb + 1; omega), Below.heap_setCell _ _ _ _ (by show q ≠ rb + 1; omega), Below.heap_setCell _ _ _ _ (by show q ≠ rb; omega)]
  · exact (((((hb.setCell (by show w.heap.size ≤ rb; omega) _).setCell (by show w.heap.size ≤ rb + 1; omega) _).setCell (by show w.heap.size ≤ rb + 1; omega) _).setCell (by show w.heap.size ≤ rb + 1; omega) _).setCell (by show w.heap.size ≤ rb + 1; omega) _).setCell (by show w.heap.size ≤ rb + 1; omega) _
set_option maxRecDepth 100000 in
set_option maxHeartbeats 4000000 in
theorem add_A_mid {B : Nat} (r : RV) (id pri : Int) (w : World) (n g c po at0 : Nat) (op0 : Bool) (hB : B ≤ w.heap.size) (hop : r.op = op0) (hat : r.at_ = at0) (hl : r.ss.length = n) (hown : OwnS B w (.slice (some ⟨g, 0, none⟩) n c) r.ss) (hr : RingOk r) (hid : ∀ s ∈ r.ss, s.id ≠ id) (hcn : cnB id = true) (hp1 : 0 ≤ pri) (hp2 : pri ≤ 3) (hn : n < 16) (hpo : posR r = po) (ha : at0 ≠ 0) (hlt : po < c) (hpn : po ≤ n) (hnc : n ≤ c) (hc : c ≤ maxLen) :
    Calls Try.prog 16 #[ringV r (.slice (some ⟨g, 0, none⟩) n c), iv id, iv pri] w (RingQ B (addR r id pri) (iv 0) w) := by
  have hx := hown.seats
  have HOWN := Lib.hid hown
  have HX := Lib.hid hx
  have HR := Lib.hid hr
  have HID := Lib.hid hid
  have HCN := Lib.hid hcn
  have HL := Lib.hid hl
  have HPO := Lib.hid hpo
  have HBB := Lib.hid hB
  have HRV : ∀ v, ringV r v = .agg #[iv r.ba, iv r.pe, v, iv at0, .bool op0] := fun v => by unfold ringV; rw [hop, hat]
  rw [HRV]
  have HVR := Lib.hid (show ∀ w', SeatsAt w' (.slice (some ⟨g, 0, none⟩) n c) r.ss → Calls Try.prog 29 #[.agg #[iv r.ba, iv r.pe, .slice (some ⟨g, 0, none⟩) n c, iv at0, .bool op0]] w' (BoolQ true w') from fun w' h' => by rw [← HRV]; exact vring_any r _ w' h' HR.out)
  have HSE := Lib.hid (show ∀ w', SeatsAt w' (.slice (some ⟨g, 0, none⟩) n c) r.ss → Calls Try.prog 30 #[.agg #[iv r.ba, iv r.pe, .slice (some ⟨g, 0, none⟩) n c, iv at0, .bool op0], iv id] w' (IntQ (-1) w') from fun w' h' => by rw [← HRV]; exact seat_eq (seatFrom_no _ _ _ HID.out) _ w' h')
  have HADD := Lib.hid (show addR r id pri = ⟨r.ba, r.pe, r.ss.take po ++ (⟨id, pri, 0, 0⟩ :: r.ss.drop po), at0 + 1, op0⟩ by
    unfold addR
    rw [HPO.out, hop, hat]
    simp [ha])
  obtain ⟨W, hW⟩ : ∃ W, (w.alloc (.cells #[iv r.ba, iv r.pe, .slice (some ⟨g, 0, none⟩) n c, iv at0, .bool op0] 44)).alloc (.cells #[iv 0, iv 0, .slice none 0 0, iv 0, .bool false] 44) = W := ⟨_, rfl⟩
  obtain ⟨rb, hrb⟩ : ∃ b, w.heap.size = b := ⟨_, rfl⟩
  have HB := Lib.hid (show W.heap[rb]? = some (.cells #[iv r.ba, iv r.pe, .slice (some ⟨g, 0, none⟩) n c, iv at0, .bool op0] 44 (0, 0)) by rw [← hW, ← hrb]; exact lies_alloc _ (heap_alloc_new _ _))
  have HZ := Lib.hid (show W.heap[rb + 1]? = some (.cells #[iv 0, iv 0, .slice none 0 0, iv 0, .bool false] 44 (0, 0)) by rw [← hW, ← hrb]; exact lies_new2 _ _)
  have BW := Lib.hid (show Below w.heap.size w W by rw [← hW]; exact ((Below.refl _ _).alloc (Nat.le_refl _) _).alloc (by simp) _)
  have HW := Lib.hid hW
  have HRB := Lib.hid hrb
  have hud : ∀ b : Bool, (undef = Value.bool b) = False := fun b => by simp [undef]
  have hatn : at0 ≤ 16 := by have h1 := HR.out.at_; have h2 := HR.out.len; rw [hat] at h1; omega
  have hwr : wrap64 ((at0 : Int) + 1) = (at0 : Int) + 1 := IntWalk.wrap64_in _ (by omega)
  have i1 : 0 ≤ (po : Int) := by omega
  have i2 : (po : Int) ≤ (c : Int) := by omega
  have i3 : (po : Int) ≤ (n : Int) := by omega
  have i4 : (n : Int) ≤ (c : Int) := by omega
  obtain rfl : po = at0 := by rw [← hpo]; unfold posR; rw [hat, if_pos (.inl ha)]
  have hb0 : ((po : Int) != 0) = true := by simp; omega
  have hn16 : ((n : Int) == 16) = false := by simp; omega
  clear ha hx hown hr hid hcn hl hpo hop hat HRV hW hB
  have LEN := HL.out
  have SF := Lib.hid (show SliceAt w 49 4 (.slice (some ⟨g, 0, none⟩) po c) (seatsX (r.ss.take po)) by rw [← seatsX_take]; exact (show SliceAt w 49 4 (.slice (some ⟨g, 0, none⟩) n c) (seatsX r.ss) from HX.out).front po (by omega))
  have SB := Lib.hid (show SliceAt w 49 4 (.slice (some ⟨g, po * 4, none⟩) (n - po) (c - po)) (seatsX (r.ss.drop po)) by rw [← seatsX_drop]; have h1 := (show SliceAt w 49 4 (.slice (some ⟨g, 0, none⟩) n c) (seatsX r.ss) from HX.out).back po (by omega); rw [Nat.zero_add] at h1; exact h1)
  have LF := Lib.hid (show (seatsX (r.ss.take po)).length = po * 4 by rw [seatsX_len, List.length_take, HL.out]; omega)
  have LB := Lib.hid (show (seatsX (r.ss.drop po)).length = (n - po) * 4 by rw [seatsX_len, List.length_drop, HL.out])
  clear LEN
  go_enter Try.func16, Try.ntmps16
  go_wp2_with fail
  rw [show (w.alloc (.cells #[iv r.ba, iv r.pe, .slice (some ⟨g, 0, none⟩) n c, iv po, .bool op0] 44)).alloc (.cells #[iv 0, iv 0, .slice none 0 0, iv 0, .bool false] 44) = W from HW.out]
  try rw [HRB.out]
  obtain ⟨x0, x1, x2, x3, x4⟩ := cells5 HB.out
  clear hrb
  go_wp2_with first
    | (go_at_call 29; refine (HVR.out _ (HX.out.below BW.out)).mono ?_; rintro e w1 ⟨rfl, b1⟩; have B1 := Lib.hid b1; clear b1 x0 x1 x2 x3 x4; have HB1 := Lib.hid (lies_below HB.out B1.out (lt_heap HB.out)); obtain ⟨x0, x1, x2, x3, x4⟩ := cells5 HB1.out)
    | (go_at_call 24; refine (counter_eq HCN.out _).mono ?_; rintro e w2 ⟨rfl, rfl⟩)
    | (go_at_call 30; refine (HSE.out _ ((HX.out.below BW.out).below B1.out)).mono ?_; rintro e w2 ⟨rfl, b2⟩; have B2 := Lib.hid (B1.out.trans (b2.mono B1.out.size)); clear b2 x0 x1 x2 x3 x4; have HB2 := Lib.hid (lies_below HB.out B2.out (lt_heap HB.out)); have HZ2 := Lib.hid (lies_below HZ.out B2.out (lt_heap HZ.out)); obtain ⟨x0, x1, x2, x3, x4⟩ := cells5 HB2.out; have f3 := (lies_cells HB2.out).2 3; have hltrb := lt_heap HB2.out; have HBV := Lib.hid (show (w2.setCell ⟨rb, 3, none⟩ (.int .i64 ((po : Int) + 1))).heap[rb]? = some (.cells #[iv r.ba, iv r.pe, .slice (some ⟨g, 0, none⟩) n c, iv (po + 1 : Nat), .bool op0] 44 (0, 0)) by exact set_cells HB2.out); have HZV := Lib.hid (show (w2.setCell ⟨rb, 3, none⟩ (.int .i64 ((po : Int) + 1))).heap[rb + 1]? = some (.cells #[iv 0, iv 0, .slice none 0 0, iv 0, .bool false] 44 (0, 0)) by rw [Below.heap_setCell _ _ _ _ (by show rb + 1 ≠ rb; omega)]; exact HZ2.out); have BV := Lib.hid (show Below w.heap.size w (w2.setCell ⟨rb, 3, none⟩ (.int .i64 ((po : Int) + 1))) by exact (BW.out.trans (B2.out.mono BW.out.size)).setCell (by show w.heap.size ≤ rb; rw [HRB.out]; exact Nat.le_refl _) _); have HS2 := Lib.hid (show w.heap.size ≤ w2.heap.size from Nat.le_trans BW.out.size B2.out.size); have hlrb : rb < w2.heap.size := lt_heap HB2.out; have hlrz : rb + 1 < w2.heap.size := lt_heap HZ2.out)
    | (at_builtin; refine wpList_append_sl rfl _ _ 42 rfl w2.heap.size 49 _ 4 32 Try.underlying42 info_seat rfl (by decide) _ _ _ (own_empty (w := w2.setCell ⟨rb, 3, none⟩ (.int .i64 ((po : Int) + 1))) (by simp)) rfl _ po _ rfl (SliceAt.same SF.out (SameT.below (BV.out.alloc BV.out.size _))) LF.out (seatsX_oc _) (by unfold maxLen; omega) (by omega) (by simp) ?_; intro g1 d1 v1 own1 gr1; (try simp only [Nat.zero_add, List.nil_append] at own1); have B3 := Lib.hid (show Below w2.heap.size (w2.setCell ⟨rb, 3, none⟩ (.int .i64 ((po : Int) + 1))) v1 from grown_below (by simp) gr1); have OW1 := Lib.hid own1; have S3 := Lib.hid (show w2.heap.size ≤ v1.heap.size by have h1 := B3.out.size; simpa using h1); clear own1 gr1 SF x0 x1 x2 x3 x4; have HB3 := Lib.hid (lies_below HBV.out B3.out hlrb); obtain ⟨x0, x1, x2, x3, x4⟩ := cells5 HB3.out)
    | (at_builtin; have hgo := OW1.out; clear hgo; (refine wpList_pushH [iv id, iv pri, iv 0, iv 0] rfl _ _ 42 rfl w2.heap.size 49 _ 4 32 Try.underlying42 info_seat rfl (by decide) _ po _ OW1.out rfl _ rfl rfl rfl rfl (by unfold maxLen; omega) (by omega) S3.out ?_); intro g2 d2 v2 own2 gr2 q1 q2; have B4 := Lib.hid (B3.out.trans (Below.of_grown gr2 OW1.out S3.out)); have OW2 := Lib.hid own2; have S4 := Lib.hid (show w2.heap.size ≤ v2.heap.size by have h1 := B4.out.size; simpa using h1); clear own2 gr2 q1 q2 x0 x1 x2 x3 x4; have HB4 := Lib.hid (lies_below HBV.out B4.out hlrb); obtain ⟨x0, x1, x2, x3, x4⟩ := cells5 HB4.out; clear OW1)
    | (at_builtin; have sl := SliceAt.same SB.out (SameT.below (BV.out.trans (B4.out.mono HS2.out))); refine wpList_append_sl rfl _ _ 42 rfl w2.heap.size 49 _ 4 32 Try.underlying42 info_seat rfl (by decide) _ _ _ OW2.out rfl (.slice (some ⟨g, po * 4, none⟩) (n - po) (c - po)) (n - po) (seatsX (r.ss.drop po)) rfl sl LB.out (seatsX_oc _) (by unfold maxLen; omega) (by omega) S4.out ?_; clear sl; intro g3 d3 v3 own3 gr3; have B5 := Lib.hid (B4.out.trans (Below.of_grown gr3 OW2.out S4.out)); have OW3 := Lib.hid own3; clear own3 gr3 x0 x1 x2 x3 x4 SB; have HB5 := Lib.hid (lies_below HBV.out B5.out hlrb); have HZ5 := Lib.hid (lies_below HZV.out B5.out hlrz); obtain ⟨x0, x1, x2, x3, x4⟩ := cells5 HB5.out; obtain ⟨z0, z1, z2, z3, z4⟩ := cells5 HZ5.out; have f2 := (lies_cells HB5.out).2 2; have fz := (lies_cells HZ5.out).2; have hrz : rb ≠ rb + 1 := Nat.ne_of_lt (Nat.lt_succ_self rb); have hrz2 : rb + 1 ≠ rb := Nat.succ_ne_self rb)
  have HLEN := Lib.hid (show (addR r id pri).ss.length = po + 1 + (n - po) by rw [HADD.out]; simp only [List.length_append, List.length_cons, List.length_take, List.length_drop, HL.out]; omega)
  have HXS := Lib.hid (show seatsX (addR r id pri).ss = seatsX (r.ss.take po) ++ [iv id, iv pri, iv 0, iv 0] ++ seatsX (r.ss.drop po) by rw [HADD.out]; simp [seatsX, seatC])
  obtain ⟨s3, hs3⟩ : ∃ s, Value.slice g3 (po + 1 + (n - po)) d3 = s := ⟨_, rfl⟩
  have OW4 := Lib.hid (show v3.ownsRow w2.heap.size 49 4 s3 (addR r id pri).ss.length (seatsX (addR r id pri).ss) by rw [HLEN.out, HXS.out, ← hs3]; exact OW3.out)
  show bodyPost _ _ _ _ _ ((((((v3.setCell ⟨rb, 2, none⟩ (.slice g3 (po + 1 + (n - po)) d3)).setCell ⟨rb + 1, 0, none⟩ (iv r.ba)).setCell ⟨rb + 1, 1, none⟩ (iv r.pe)).setCell ⟨rb + 1, 2, none⟩ (.slice g3 (po + 1 + (n - po)) d3)).setCell ⟨rb + 1, 3, none⟩ (iv (po + 1 : Nat))).setCell ⟨rb + 1, 4, none⟩ (.bool op0))
  rw [hs3]
  obtain ⟨F, hF⟩ : ∃ F, (((((v3.setCell ⟨rb, 2, none⟩ s3).setCell ⟨rb + 1, 0, none⟩ (iv r.ba)).setCell ⟨rb + 1, 1, none⟩ (iv r.pe)).setCell ⟨rb + 1, 2, none⟩ s3).setCell ⟨rb + 1, 3, none⟩ (iv (po + 1 : Nat))).setCell ⟨rb + 1, 4, none⟩ (.bool op0) = F := ⟨_, rfl⟩
  rw [hF]
  have HF := Lib.hid (ring_out (B := B) (addR r id pri) HZ5.out (BV.out.trans (B5.out.mono HS2.out)) HRB.out HBB.out hlrz OW4.out hF.symm)
  obtain ⟨f0, f1, f2, f3, f4⟩ := cells5 HF.out.1
  refine bodyPost_ret (v := .tuple #[ringV (addR r id pri) s3, iv 0]) (by simp [results, Try.results16, go_sem, f0, f1, f2, f3, f4, ringV, HADD.out]) rfl ⟨_, rfl, HF.out.2.1, HF.out.2.2⟩
set_option maxRecDepth 100000 in
set_option maxHeartbeats 4000000 in
theorem add_B_mid {B : Nat} (r : RV) (id pri : Int) (w : World) (n g c po at0 : Nat)  (hB : B ≤ w.heap.size) (hop : r.op = true) (hat : r.at_ = at0) (hl : r.ss.length = n) (hown : OwnS B w (.slice (some ⟨g, 0, none⟩) n c) r.ss) (hr : RingOk r) (hid : ∀ s ∈ r.ss, s.id ≠ id) (hcn : cnB id = true) (hp1 : 0 ≤ pri) (hp2 : pri ≤ 3) (hn : n < 16) (hpo : posR r = po) (ha : at0 = 0) (hlt : po < c) (hpn : po ≤ n) (hnc : n ≤ c) (hc : c ≤ maxLen) :
    Calls Try.prog 16 #[ringV r (.slice (some ⟨g, 0, none⟩) n c), iv id, iv pri] w (RingQ B (addR r id pri) (iv 0) w) := by
  have hx := hown.seats
  have HOWN := Lib.hid hown
  have HX := Lib.hid hx
  have HR := Lib.hid hr
  have HID := Lib.hid hid
  have HCN := Lib.hid hcn
  have HL := Lib.hid hl
  have HPO := Lib.hid hpo
  have HBB := Lib.hid hB
  have HRV : ∀ v, ringV r v = .agg #[iv r.ba, iv r.pe, v, iv at0, .bool true] := fun v => by unfold ringV; rw [hop, hat]
  rw [HRV]
  have HVR := Lib.hid (show ∀ w', SeatsAt w' (.slice (some ⟨g, 0, none⟩) n c) r.ss → Calls Try.prog 29 #[.agg #[iv r.ba, iv r.pe, .slice (some ⟨g, 0, none⟩) n c, iv at0, .bool true]] w' (BoolQ true w') from fun w' h' => by rw [← HRV]; exact vring_any r _ w' h' HR.out)
  have HSE := Lib.hid (show ∀ w', SeatsAt w' (.slice (some ⟨g, 0, none⟩) n c) r.ss → Calls Try.prog 30 #[.agg #[iv r.ba, iv r.pe, .slice (some ⟨g, 0, none⟩) n c, iv at0, .bool true], iv id] w' (IntQ (-1) w') from fun w' h' => by rw [← HRV]; exact seat_eq (seatFrom_no _ _ _ HID.out) _ w' h')
  have HADD := Lib.hid (show addR r id pri = ⟨r.ba, r.pe, r.ss.take po ++ (⟨id, pri, 0, 0⟩ :: r.ss.drop po), at0 + 1, true⟩ by
    unfold addR
    rw [HPO.out, hop, hat]
    simp [ha])
  obtain ⟨W, hW⟩ : ∃ W, (w.alloc (.cells #[iv r.ba, iv r.pe, .slice (some ⟨g, 0, none⟩) n c, iv at0, .bool true] 44)).alloc (.cells #[iv 0, iv 0, .slice none 0 0, iv 0, .bool false] 44) = W := ⟨_, rfl⟩
  obtain ⟨rb, hrb⟩ : ∃ b, w.heap.size = b := ⟨_, rfl⟩
  have HB := Lib.hid (show W.heap[rb]? = some (.cells #[iv r.ba, iv r.pe, .slice (some ⟨g, 0, none⟩) n c, iv at0, .bool true] 44 (0, 0)) by rw [← hW, ← hrb]; exact lies_alloc _ (heap_alloc_new _ _))
  have HZ := Lib.hid (show W.heap[rb + 1]? = some (.cells #[iv 0, iv 0, .slice none 0 0, iv 0, .bool false] 44 (0, 0)) by rw [← hW, ← hrb]; exact lies_new2 _ _)
  have BW := Lib.hid (show Below w.heap.size w W by rw [← hW]; exact ((Below.refl _ _).alloc (Nat.le_refl _) _).alloc (by simp) _)
  have HW := Lib.hid hW
  have HRB := Lib.hid hrb
  have hud : ∀ b : Bool, (undef = Value.bool b) = False := fun b => by simp [undef]
  have hatn : at0 ≤ 16 := by have h1 := HR.out.at_; have h2 := HR.out.len; rw [hat] at h1; omega
  have hwr : wrap64 ((at0 : Int) + 1) = (at0 : Int) + 1 := IntWalk.wrap64_in _ (by omega)
  have i1 : 0 ≤ (po : Int) := by omega
  have i2 : (po : Int) ≤ (c : Int) := by omega
  have i3 : (po : Int) ≤ (n : Int) := by omega
  have i4 : (n : Int) ≤ (c : Int) := by omega
  obtain rfl : po = at0 := by rw [← hpo]; unfold posR; rw [hat, hop, if_pos (.inr rfl)]
  have hb0 : ((po : Int) != 0) = false := by simp; omega
  have hn16 : ((n : Int) == 16) = false := by simp; omega
  clear ha hx hown hr hid hcn hl hpo hop hat HRV hW hB
  have LEN := HL.out
  have SF := Lib.hid (show SliceAt w 49 4 (.slice (some ⟨g, 0, none⟩) po c) (seatsX (r.ss.take po)) by rw [← seatsX_take]; exact (show SliceAt w 49 4 (.slice (some ⟨g, 0, none⟩) n c) (seatsX r.ss) from HX.out).front po (by omega))
  have SB := Lib.hid (show SliceAt w 49 4 (.slice (some ⟨g, po * 4, none⟩) (n - po) (c - po)) (seatsX (r.ss.drop po)) by rw [← seatsX_drop]; have h1 := (show SliceAt w 49 4 (.slice (some ⟨g, 0, none⟩) n c) (seatsX r.ss) from HX.out).back po (by omega); rw [Nat.zero_add] at h1; exact h1)
  have LF := Lib.hid (show (seatsX (r.ss.take po)).length = po * 4 by rw [seatsX_len, List.length_take, HL.out]; omega)
  have LB := Lib.hid (show (seatsX (r.ss.drop po)).length = (n - po) * 4 by rw [seatsX_len, List.length_drop, HL.out])
  clear LEN
  go_enter Try.func16, Try.ntmps16
  go_wp2_with fail
  rw [show (w.alloc (.cells #[iv r.ba, iv r.pe, .slice (some ⟨g, 0, none⟩) n c, iv po, .bool true] 44)).alloc (.cells #[iv 0, iv 0, .slice none 0 0, iv 0, .bool false] 44) = W from HW.out]
  try rw [HRB.out]
  obtain ⟨x0, x1, x2, x3, x4⟩ := cells5 HB.out
  clear hrb
  go_wp2_with first
    | (go_at_call 29; refine (HVR.out _ (HX.out.below BW.out)).mono ?_; rintro e w1 ⟨rfl, b1⟩; have B1 := Lib.hid b1; clear b1 x0 x1 x2 x3 x4; have HB1 := Lib.hid (lies_below HB.out B1.out (lt_heap HB.out)); obtain ⟨x0, x1, x2, x3, x4⟩ := cells5 HB1.out)
    | (go_at_call 24; refine (counter_eq HCN.out _).mono ?_; rintro e w2 ⟨rfl, rfl⟩)
    | (go_at_call 30; refine (HSE.out _ ((HX.out.below BW.out).below B1.out)).mono ?_; rintro e w2 ⟨rfl, b2⟩; have B2 := Lib.hid (B1.out.trans (b2.mono B1.out.size)); clear b2 x0 x1 x2 x3 x4; have HB2 := Lib.hid (lies_below HB.out B2.out (lt_heap HB.out)); have HZ2 := Lib.hid (lies_below HZ.out B2.out (lt_heap HZ.out)); obtain ⟨x0, x1, x2, x3, x4⟩ := cells5 HB2.out; have f3 := (lies_cells HB2.out).2 3; have hltrb := lt_heap HB2.out; have HBV := Lib.hid (show (w2.setCell ⟨rb, 3, none⟩ (.int .i64 ((po : Int) + 1))).heap[rb]? = some (.cells #[iv r.ba, iv r.pe, .slice (some ⟨g, 0, none⟩) n c, iv (po + 1 : Nat), .bool true] 44 (0, 0)) by exact set_cells HB2.out); have HZV := Lib.hid (show (w2.setCell ⟨rb, 3, none⟩ (.int .i64 ((po : Int) + 1))).heap[rb + 1]? = some (.cells #[iv 0, iv 0, .slice none 0 0, iv 0, .bool false] 44 (0, 0)) by rw [Below.heap_setCell _ _ _ _ (by show rb + 1 ≠ rb; omega)]; exact HZ2.out); have BV := Lib.hid (show Below w.heap.size w (w2.setCell ⟨rb, 3, none⟩ (.int .i64 ((po : Int) + 1))) by exact (BW.out.trans (B2.out.mono BW.out.size)).setCell (by show w.heap.size ≤ rb; rw [HRB.out]; exact Nat.le_refl _) _); have HS2 := Lib.hid (show w.heap.size ≤ w2.heap.size from Nat.le_trans BW.out.size B2.out.size); have hlrb : rb < w2.heap.size := lt_heap HB2.out; have hlrz : rb + 1 < w2.heap.size := lt_heap HZ2.out)
    | (at_builtin; refine wpList_append_sl rfl _ _ 42 rfl w2.heap.size 49 _ 4 32 Try.underlying42 info_seat rfl (by decide) _ _ _ (own_empty (w := w2.setCell ⟨rb, 3, none⟩ (.int .i64 ((po : Int) + 1))) (by simp)) rfl _ po _ rfl (SliceAt.same SF.out (SameT.below (BV.out.alloc BV.out.size _))) LF.out (seatsX_oc _) (by unfold maxLen; omega) (by omega) (by simp) ?_; intro g1 d1 v1 own1 gr1; (try simp only [Nat.zero_add, List.nil_append] at own1); have B3 := Lib.hid (show Below w2.heap.size (w2.setCell ⟨rb, 3, none⟩ (.int .i64 ((po : Int) + 1))) v1 from grown_below (by simp) gr1); have OW1 := Lib.hid own1; have S3 := Lib.hid (show w2.heap.size ≤ v1.heap.size by have h1 := B3.out.size; simpa using h1); clear own1 gr1 SF x0 x1 x2 x3 x4; have HB3 := Lib.hid (lies_below HBV.out B3.out hlrb); obtain ⟨x0, x1, x2, x3, x4⟩ := cells5 HB3.out)
    | (at_builtin; have hgo := OW1.out; clear hgo; (refine wpList_pushH [iv id, iv pri, iv 0, iv 0] rfl _ _ 42 rfl w2.heap.size 49 _ 4 32 Try.underlying42 info_seat rfl (by decide) _ po _ OW1.out rfl _ rfl rfl rfl rfl (by unfold maxLen; omega) (by omega) S3.out ?_); intro g2 d2 v2 own2 gr2 q1 q2; have B4 := Lib.hid (B3.out.trans (Below.of_grown gr2 OW1.out S3.out)); have OW2 := Lib.hid own2; have S4 := Lib.hid (show w2.heap.size ≤ v2.heap.size by have h1 := B4.out.size; simpa using h1); clear own2 gr2 q1 q2 x0 x1 x2 x3 x4; have HB4 := Lib.hid (lies_below HBV.out B4.out hlrb); obtain ⟨x0, x1, x2, x3, x4⟩ := cells5 HB4.out; clear OW1)
    | (at_builtin; have sl := SliceAt.same SB.out (SameT.below (BV.out.trans (B4.out.mono HS2.out))); refine wpList_append_sl rfl _ _ 42 rfl w2.heap.size 49 _ 4 32 Try.underlying42 info_seat rfl (by decide) _ _ _ OW2.out rfl (.slice (some ⟨g, po * 4, none⟩) (n - po) (c - po)) (n - po) (seatsX (r.ss.drop po)) rfl sl LB.out (seatsX_oc _) (by unfold maxLen; omega) (by omega) S4.out ?_; clear sl; intro g3 d3 v3 own3 gr3; have B5 := Lib.hid (B4.out.trans (Below.of_grown gr3 OW2.out S4.out)); have OW3 := Lib.hid own3; clear own3 gr3 x0 x1 x2 x3 x4 SB; have HB5 := Lib.hid (lies_below HBV.out B5.out hlrb); have HZ5 := Lib.hid (lies_below HZV.out B5.out hlrz); obtain ⟨x0, x1, x2, x3, x4⟩ := cells5 HB5.out; obtain ⟨z0, z1, z2, z3, z4⟩ := cells5 HZ5.out; have f2 := (lies_cells HB5.out).2 2; have fz := (lies_cells HZ5.out).2; have hrz : rb ≠ rb + 1 := Nat.ne_of_lt (Nat.lt_succ_self rb); have hrz2 : rb + 1 ≠ rb := Nat.succ_ne_self rb)
  have HLEN := Lib.hid (show (addR r id pri).ss.length = po + 1 + (n - po) by rw [HADD.out]; simp only [List.length_append, List.length_cons, List.length_take, List.length_drop, HL.out]; omega)
  have HXS := Lib.hid (show seatsX (addR r id pri).ss = seatsX (r.ss.take po) ++ [iv id, iv pri, iv 0, iv 0] ++ seatsX (r.ss.drop po) by rw [HADD.out]; simp [seatsX, seatC])
  obtain ⟨s3, hs3⟩ : ∃ s, Value.slice g3 (po + 1 + (n - po)) d3 = s := ⟨_, rfl⟩
  have OW4 := Lib.hid (show v3.ownsRow w2.heap.size 49 4 s3 (addR r id pri).ss.length (seatsX (addR r id pri).ss) by rw [HLEN.out, HXS.out, ← hs3]; exact OW3.out)
  show bodyPost _ _ _ _ _ ((((((v3.setCell ⟨rb, 2, none⟩ (.slice g3 (po + 1 + (n - po)) d3)).setCell ⟨rb + 1, 0, none⟩ (iv r.ba)).setCell ⟨rb + 1, 1, none⟩ (iv r.pe)).setCell ⟨rb + 1, 2, none⟩ (.slice g3 (po + 1 + (n - po)) d3)).setCell ⟨rb + 1, 3, none⟩ (iv (po + 1 : Nat))).setCell ⟨rb + 1, 4, none⟩ (.bool true))
  rw [hs3]
  obtain ⟨F, hF⟩ : ∃ F, (((((v3.setCell ⟨rb, 2, none⟩ s3).setCell ⟨rb + 1, 0, none⟩ (iv r.ba)).setCell ⟨rb + 1, 1, none⟩ (iv r.pe)).setCell ⟨rb + 1, 2, none⟩ s3).setCell ⟨rb + 1, 3, none⟩ (iv (po + 1 : Nat))).setCell ⟨rb + 1, 4, none⟩ (.bool true) = F := ⟨_, rfl⟩
  rw [hF]
  have HF := Lib.hid (ring_out (B := B) (addR r id pri) HZ5.out (BV.out.trans (B5.out.mono HS2.out)) HRB.out HBB.out hlrz OW4.out hF.symm)
  obtain ⟨f0, f1, f2, f3, f4⟩ := cells5 HF.out.1
  refine bodyPost_ret (v := .tuple #[ringV (addR r id pri) s3, iv 0]) (by simp [results, Try.results16, go_sem, f0, f1, f2, f3, f4, ringV, HADD.out]) rfl ⟨_, rfl, HF.out.2.1, HF.out.2.2⟩
set_option maxRecDepth 100000 in
set_option maxHeartbeats 4000000 in
theorem add_C_mid {B : Nat} (r : RV) (id pri : Int) (w : World) (n g c at0 : Nat)  (hB : B ≤ w.heap.size) (hop : r.op = false) (hat : r.at_ = at0) (hl : r.ss.length = n) (hown : OwnS B w (.slice (some ⟨g, 0, none⟩) n c) r.ss) (hr : RingOk r) (hid : ∀ s ∈ r.ss, s.id ≠ id) (hcn : cnB id = true) (hp1 : 0 ≤ pri) (hp2 : pri ≤ 3) (hn : n < 16) (hpo : posR r = n) (ha : at0 = 0) (hlt : n < c) (hnc : n ≤ c) (hc : c ≤ maxLen) :
    Calls Try.prog 16 #[ringV r (.slice (some ⟨g, 0, none⟩) n c), iv id, iv pri] w (RingQ B (addR r id pri) (iv 0) w) := by
  have hx := hown.seats
  have HOWN := Lib.hid hown
  have HX := Lib.hid hx
  have HR := Lib.hid hr
  have HID := Lib.hid hid
  have HCN := Lib.hid hcn
  have HL := Lib.hid hl
  have HPO := Lib.hid hpo
  have HBB := Lib.hid hB
  have HRV : ∀ v, ringV r v = .agg #[iv r.ba, iv r.pe, v, iv at0, .bool false] := fun v => by unfold ringV; rw [hop, hat]
  rw [HRV]
  have HVR := Lib.hid (show ∀ w', SeatsAt w' (.slice (some ⟨g, 0, none⟩) n c) r.ss → Calls Try.prog 29 #[.agg #[iv r.ba, iv r.pe, .slice (some ⟨g, 0, none⟩) n c, iv at0, .bool false]] w' (BoolQ true w') from fun w' h' => by rw [← HRV]; exact vring_any r _ w' h' HR.out)
  have HSE := Lib.hid (show ∀ w', SeatsAt w' (.slice (some ⟨g, 0, none⟩) n c) r.ss → Calls Try.prog 30 #[.agg #[iv r.ba, iv r.pe, .slice (some ⟨g, 0, none⟩) n c, iv at0, .bool false], iv id] w' (IntQ (-1) w') from fun w' h' => by rw [← HRV]; exact seat_eq (seatFrom_no _ _ _ HID.out) _ w' h')
  have HADD := Lib.hid (show addR r id pri = ⟨r.ba, r.pe, r.ss.take n ++ (⟨id, pri, 0, 0⟩ :: r.ss.drop n), at0, false⟩ by
    unfold addR
    rw [HPO.out, hop, hat]
    simp [ha])
  obtain ⟨W, hW⟩ : ∃ W, (w.alloc (.cells #[iv r.ba, iv r.pe, .slice (some ⟨g, 0, none⟩) n c, iv at0, .bool false] 44)).alloc (.cells #[iv 0, iv 0, .slice none 0 0, iv 0, .bool false] 44) = W := ⟨_, rfl⟩
  obtain ⟨rb, hrb⟩ : ∃ b, w.heap.size = b := ⟨_, rfl⟩
  have HB := Lib.hid (show W.heap[rb]? = some (.cells #[iv r.ba, iv r.pe, .slice (some ⟨g, 0, none⟩) n c, iv at0, .bool false] 44 (0, 0)) by rw [← hW, ← hrb]; exact lies_alloc _ (heap_alloc_new _ _))
  have HZ := Lib.hid (show W.heap[rb + 1]? = some (.cells #[iv 0, iv 0, .slice none 0 0, iv 0, .bool false] 44 (0, 0)) by rw [← hW, ← hrb]; exact lies_new2 _ _)
  have BW := Lib.hid (show Below w.heap.size w W by rw [← hW]; exact ((Below.refl _ _).alloc (Nat.le_refl _) _).alloc (by simp) _)
  have HW := Lib.hid hW
  have HRB := Lib.hid hrb
  have hud : ∀ b : Bool, (undef = Value.bool b) = False := fun b => by simp [undef]
  have hatn : at0 ≤ 16 := by have h1 := HR.out.at_; have h2 := HR.out.len; rw [hat] at h1; omega
  have hwr : wrap64 ((at0 : Int) + 1) = (at0 : Int) + 1 := IntWalk.wrap64_in _ (by omega)
  have i1 : 0 ≤ (n : Int) := by omega
  have i4 : (n : Int) ≤ (c : Int) := by omega
  have hb0 : ((at0 : Int) != 0) = false := by simp; omega
  have hn16 : ((n : Int) == 16) = false := by simp; omega
  clear ha hx hown hr hid hcn hl hpo hop hat HRV hW hB
  have LEN := HL.out
  have SF := Lib.hid (show SliceAt w 49 4 (.slice (some ⟨g, 0, none⟩) n c) (seatsX (r.ss.take n)) by rw [← seatsX_take]; exact (show SliceAt w 49 4 (.slice (some ⟨g, 0, none⟩) n c) (seatsX r.ss) from HX.out).front n (by omega))
  have SB := Lib.hid (show SliceAt w 49 4 (.slice (some ⟨g, n * 4, none⟩) 0 (c - n)) [] by have h1 := (show SliceAt w 49 4 (.slice (some ⟨g, 0, none⟩) n c) (seatsX r.ss) from HX.out).back n (Nat.le_refl _); rw [Nat.zero_add, Nat.sub_self, List.drop_eq_nil_of_le (by rw [seatsX_len, HL.out]; exact Nat.le_refl _)] at h1; exact h1)
  have LF := Lib.hid (show (seatsX (r.ss.take n)).length = n * 4 by rw [seatsX_len, List.length_take, HL.out]; omega)
  clear LEN
  go_enter Try.func16, Try.ntmps16
  go_wp2_with fail
  rw [show (w.alloc (.cells #[iv r.ba, iv r.pe, .slice (some ⟨g, 0, none⟩) n c, iv at0, .bool false] 44)).alloc (.cells #[iv 0, iv 0, .slice none 0 0, iv 0, .bool false] 44) = W from HW.out]
  try rw [HRB.out]
  obtain ⟨x0, x1, x2, x3, x4⟩ := cells5 HB.out
  clear hrb
  go_wp2_with first
    | (go_at_call 29; refine (HVR.out _ (HX.out.below BW.out)).mono ?_; rintro e w1 ⟨rfl, b1⟩; have B1 := Lib.hid b1; clear b1 x0 x1 x2 x3 x4; have HB1 := Lib.hid (lies_below HB.out B1.out (lt_heap HB.out)); obtain ⟨x0, x1, x2, x3, x4⟩ := cells5 HB1.out)
    | (go_at_call 24; refine (counter_eq HCN.out _).mono ?_; rintro e w2 ⟨rfl, rfl⟩)
    | (go_at_call 30; refine (HSE.out _ ((HX.out.below BW.out).below B1.out)).mono ?_; rintro e w2 ⟨rfl, b2⟩; have B2 := Lib.hid (B1.out.trans (b2.mono B1.out.size)); clear b2 x0 x1 x2 x3 x4; have HB2 := Lib.hid (lies_below HB.out B2.out (lt_heap HB.out)); have HZ2 := Lib.hid (lies_below HZ.out B2.out (lt_heap HZ.out)); obtain ⟨x0, x1, x2, x3, x4⟩ := cells5 HB2.out; have f3 := (lies_cells HB2.out).2 3; have hltrb := lt_heap HB2.out; have HBV := Lib.hid (show (w2).heap[rb]? = some (.cells #[iv r.ba, iv r.pe, .slice (some ⟨g, 0, none⟩) n c, iv (at0 : Nat), .bool false] 44 (0, 0)) by exact HB2.out); have HZV := Lib.hid (show (w2).heap[rb + 1]? = some (.cells #[iv 0, iv 0, .slice none 0 0, iv 0, .bool false] 44 (0, 0)) by exact HZ2.out); have BV := Lib.hid (show Below w.heap.size w (w2) by exact BW.out.trans (B2.out.mono BW.out.size)); have HS2 := Lib.hid (show w.heap.size ≤ w2.heap.size from Nat.le_trans BW.out.size B2.out.size); have hlrb : rb < w2.heap.size := lt_heap HB2.out; have hlrz : rb + 1 < w2.heap.size := lt_heap HZ2.out)
    | (at_builtin; refine wpList_append_sl rfl _ _ 42 rfl w2.heap.size 49 _ 4 32 Try.underlying42 info_seat rfl (by decide) _ _ _ (own_empty (w := w2) (by simp)) rfl _ n _ rfl (SliceAt.same SF.out (SameT.below (BV.out.alloc BV.out.size _))) LF.out (seatsX_oc _) (by unfold maxLen; omega) (by omega) (by simp) ?_; intro g1 d1 v1 own1 gr1; (try simp only [Nat.zero_add, List.nil_append] at own1); have B3 := Lib.hid (show Below w2.heap.size (w2) v1 from grown_below (by simp) gr1); have OW1 := Lib.hid own1; have S3 := Lib.hid (show w2.heap.size ≤ v1.heap.size by have h1 := B3.out.size; simpa using h1); clear own1 gr1 SF x0 x1 x2 x3 x4; have HB3 := Lib.hid (lies_below HBV.out B3.out hlrb); obtain ⟨x0, x1, x2, x3, x4⟩ := cells5 HB3.out)
    | (at_builtin; have hgo := OW1.out; clear hgo; (refine wpList_pushH [iv id, iv pri, iv 0, iv 0] rfl _ _ 42 rfl w2.heap.size 49 _ 4 32 Try.underlying42 info_seat rfl (by decide) _ n _ OW1.out rfl _ rfl rfl rfl rfl (by unfold maxLen; omega) (by omega) S3.out ?_); intro g2 d2 v2 own2 gr2 q1 q2; have B4 := Lib.hid (B3.out.trans (Below.of_grown gr2 OW1.out S3.out)); have OW2 := Lib.hid own2; have S4 := Lib.hid (show w2.heap.size ≤ v2.heap.size by have h1 := B4.out.size; simpa using h1); clear own2 gr2 q1 q2 x0 x1 x2 x3 x4; have HB4 := Lib.hid (lies_below HBV.out B4.out hlrb); obtain ⟨x0, x1, x2, x3, x4⟩ := cells5 HB4.out; clear OW1)
    | (at_builtin; have sl : SliceAt v2 49 4 (.slice (some ⟨g, n * 4, none⟩) 0 (c - n)) [] := SliceAt.same SB.out (SameT.below (BV.out.trans (B4.out.mono HS2.out))); refine wpList_append_sl rfl _ _ 42 rfl w2.heap.size 49 _ 4 32 Try.underlying42 info_seat rfl (by decide) _ _ _ OW2.out rfl (.slice (some ⟨g, n * 4, none⟩) 0 (c - n)) 0 [] rfl sl rfl rfl (by unfold maxLen; omega) (by omega) S4.out ?_; clear sl; intro g3 d3 v3 own3 gr3; have B5 := Lib.hid (B4.out.trans (Below.of_grown gr3 OW2.out S4.out)); have OW3 := Lib.hid own3; clear own3 gr3 x0 x1 x2 x3 x4; have HB5 := Lib.hid (lies_below HBV.out B5.out hlrb); have HZ5 := Lib.hid (lies_below HZV.out B5.out hlrz); obtain ⟨x0, x1, x2, x3, x4⟩ := cells5 HB5.out; obtain ⟨z0, z1, z2, z3, z4⟩ := cells5 HZ5.out; have f2 := (lies_cells HB5.out).2 2; have fz := (lies_cells HZ5.out).2; have hrz : rb ≠ rb + 1 := Nat.ne_of_lt (Nat.lt_succ_self rb); have hrz2 : rb + 1 ≠ rb := Nat.succ_ne_self rb)
  have HLEN := Lib.hid (show (addR r id pri).ss.length = n + 1 by rw [HADD.out]; simp only [List.length_append, List.length_cons, List.length_take, List.length_drop, HL.out]; omega)
  have HXS := Lib.hid (show seatsX (addR r id pri).ss = seatsX (r.ss.take n) ++ [iv id, iv pri, iv 0, iv 0]  by rw [HADD.out]; simp [seatsX, seatC, List.drop_eq_nil_of_le (show r.ss.length ≤ n by rw [HL.out]; exact Nat.le_refl _)])
  obtain ⟨s3, hs3⟩ : ∃ s, Value.slice g3 (n + 1) d3 = s := ⟨_, rfl⟩
  have OW4 := Lib.hid (show v3.ownsRow w2.heap.size 49 4 s3 (addR r id pri).ss.length (seatsX (addR r id pri).ss) by rw [HLEN.out, HXS.out, ← hs3]; have ho := OW3.out; rw [List.append_nil] at ho; exact ho)
  show bodyPost _ _ _ _ _ ((((((v3.setCell ⟨rb, 2, none⟩ (.slice g3 (n + 1) d3)).setCell ⟨rb + 1, 0, none⟩ (iv r.ba)).setCell ⟨rb + 1, 1, none⟩ (iv r.pe)).setCell ⟨rb + 1, 2, none⟩ (.slice g3 (n + 1) d3)).setCell ⟨rb + 1, 3, none⟩ (iv (at0 : Nat))).setCell ⟨rb + 1, 4, none⟩ (.bool false))
  rw [hs3]
  obtain ⟨F, hF⟩ : ∃ F, (((((v3.setCell ⟨rb, 2, none⟩ s3).setCell ⟨rb + 1, 0, none⟩ (iv r.ba)).setCell ⟨rb + 1, 1, none⟩ (iv r.pe)).setCell ⟨rb + 1, 2, none⟩ s3).setCell ⟨rb + 1, 3, none⟩ (iv (at0 : Nat))).setCell ⟨rb + 1, 4, none⟩ (.bool false) = F := ⟨_, rfl⟩
  rw [hF]
  have HF := Lib.hid (ring_out (B := B) (addR r id pri) HZ5.out (BV.out.trans (B5.out.mono HS2.out)) HRB.out HBB.out hlrz OW4.out hF.symm)
  obtain ⟨f0, f1, f2, f3, f4⟩ := cells5 HF.out.1
  refine bodyPost_ret (v := .tuple #[ringV (addR r id pri) s3, iv 0]) (by simp [results, Try.results16, go_sem, f0, f1, f2, f3, f4, ringV, HADD.out]) rfl ⟨_, rfl, HF.out.2.1, HF.out.2.2⟩
set_option maxRecDepth 100000 in
set_option maxHeartbeats 4000000 in
theorem add_C_end {B : Nat} (r : RV) (id pri : Int) (w : World) (n g at0 : Nat)  (hB : B ≤ w.heap.size) (hop : r.op = false) (hat : r.at_ = at0) (hl : r.ss.length = n) (hown : OwnS B w (.slice (some ⟨g, 0, none⟩) n n) r.ss) (hr : RingOk r) (hid : ∀ s ∈ r.ss, s.id ≠ id) (hcn : cnB id = true) (hp1 : 0 ≤ pri) (hp2 : pri ≤ 3) (hn : n < 16) (hpo : posR r = n) (ha : at0 = 0) (hc : n ≤ maxLen) :
    Calls Try.prog 16 #[ringV r (.slice (some ⟨g, 0, none⟩) n n), iv id, iv pri] w (RingQ B (addR r id pri) (iv 0) w) := by
  have hx := hown.seats
  have HOWN := Lib.hid hown
  have HX := Lib.hid hx
  have HR := Lib.hid hr
  have HID := Lib.hid hid
  have HCN := Lib.hid hcn
  have HL := Lib.hid hl
  have HPO := Lib.hid hpo
  have HBB := Lib.hid hB
  have HRV : ∀ v, ringV r v = .agg #[iv r.ba, iv r.pe, v, iv at0, .bool false] := fun v => by unfold ringV; rw [hop, hat]
  rw [HRV]
  have HVR := Lib.hid (show ∀ w', SeatsAt w' (.slice (some ⟨g, 0, none⟩) n n) r.ss → Calls Try.prog 29 #[.agg #[iv r.ba, iv r.pe, .slice (some ⟨g, 0, none⟩) n n, iv at0, .bool false]] w' (BoolQ true w') from fun w' h' => by rw [← HRV]; exact vring_any r _ w' h' HR.out)
  have HSE := Lib.hid (show ∀ w', SeatsAt w' (.slice (some ⟨g, 0, none⟩) n n) r.ss → Calls Try.prog 30 #[.agg #[iv r.ba, iv r.pe, .slice (some ⟨g, 0, none⟩) n n, iv at0, .bool false], iv id] w' (IntQ (-1) w') from fun w' h' => by rw [← HRV]; exact seat_eq (seatFrom_no _ _ _ HID.out) _ w' h')
  have HADD := Lib.hid (show addR r id pri = ⟨r.ba, r.pe, r.ss.take n ++ (⟨id, pri, 0, 0⟩ :: r.ss.drop n), at0, false⟩ by
    unfold addR
    rw [HPO.out, hop, hat]
    simp [ha])
  obtain ⟨W, hW⟩ : ∃ W, (w.alloc (.cells #[iv r.ba, iv r.pe, .slice (some ⟨g, 0, none⟩) n n, iv at0, .bool false] 44)).alloc (.cells #[iv 0, iv 0, .slice none 0 0, iv 0, .bool false] 44) = W := ⟨_, rfl⟩
  obtain ⟨rb, hrb⟩ : ∃ b, w.heap.size = b := ⟨_, rfl⟩
  have HB := Lib.hid (show W.heap[rb]? = some (.cells #[iv r.ba, iv r.pe, .slice (some ⟨g, 0, none⟩) n n, iv at0, .bool false] 44 (0, 0)) by rw [← hW, ← hrb]; exact lies_alloc _ (heap_alloc_new _ _))
  have HZ := Lib.hid (show W.heap[rb + 1]? = some (.cells #[iv 0, iv 0, .slice none 0 0, iv 0, .bool false] 44 (0, 0)) by rw [← hW, ← hrb]; exact lies_new2 _ _)
  have BW := Lib.hid (show Below w.heap.size w W by rw [← hW]; exact ((Below.refl _ _).alloc (Nat.le_refl _) _).alloc (by simp) _)
  have HW := Lib.hid hW
  have HRB := Lib.hid hrb
  have hud : ∀ b : Bool, (undef = Value.bool b) = False := fun b => by simp [undef]
  have hatn : at0 ≤ 16 := by have h1 := HR.out.at_; have h2 := HR.out.len; rw [hat] at h1; omega
  have hwr : wrap64 ((at0 : Int) + 1) = (at0 : Int) + 1 := IntWalk.wrap64_in _ (by omega)
  have i1 : 0 ≤ (n : Int) := by omega
  have hb0 : ((at0 : Int) != 0) = false := by simp; omega
  have hn16 : ((n : Int) == 16) = false := by simp; omega
  clear ha hx hown hr hid hcn hl hpo hop hat HRV hW hB
  have LEN := HL.out
  have SF := Lib.hid (show SliceAt w 49 4 (.slice (some ⟨g, 0, none⟩) n n) (seatsX (r.ss.take n)) by rw [← seatsX_take]; exact (show SliceAt w 49 4 (.slice (some ⟨g, 0, none⟩) n n) (seatsX r.ss) from HX.out).front n (by omega))
  have LF := Lib.hid (show (seatsX (r.ss.take n)).length = n * 4 by rw [seatsX_len, List.length_take, HL.out]; omega)
  clear LEN
  go_enter Try.func16, Try.ntmps16
  go_wp2_with fail
  rw [show (w.alloc (.cells #[iv r.ba, iv r.pe, .slice (some ⟨g, 0, none⟩) n n, iv at0, .bool false] 44)).alloc (.cells #[iv 0, iv 0, .slice none 0 0, iv 0, .bool false] 44) = W from HW.out]
  try rw [HRB.out]
  obtain ⟨x0, x1, x2, x3, x4⟩ := cells5 HB.out
  clear hrb
  go_wp2_with first
    | (go_at_call 29; refine (HVR.out _ (HX.out.below BW.out)).mono ?_; rintro e w1 ⟨rfl, b1⟩; have B1 := Lib.hid b1; clear b1 x0 x1 x2 x3 x4; have HB1 := Lib.hid (lies_below HB.out B1.out (lt_heap HB.out)); obtain ⟨x0, x1, x2, x3, x4⟩ := cells5 HB1.out)
    | (go_at_call 24; refine (counter_eq HCN.out _).mono ?_; rintro e w2 ⟨rfl, rfl⟩)
    | (go_at_call 30; refine (HSE.out _ ((HX.out.below BW.out).below B1.out)).mono ?_; rintro e w2 ⟨rfl, b2⟩; have B2 := Lib.hid (B1.out.trans (b2.mono B1.out.size)); clear b2 x0 x1 x2 x3 x4; have HB2 := Lib.hid (lies_below HB.out B2.out (lt_heap HB.out)); have HZ2 := Lib.hid (lies_below HZ.out B2.out (lt_heap HZ.out)); obtain ⟨x0, x1, x2, x3, x4⟩ := cells5 HB2.out; have f3 := (lies_cells HB2.out).2 3; have hltrb := lt_heap HB2.out; have HBV := Lib.hid (show (w2).heap[rb]? = some (.cells #[iv r.ba, iv r.pe, .slice (some ⟨g, 0, none⟩) n n, iv (at0 : Nat), .bool false] 44 (0, 0)) by exact HB2.out); have HZV := Lib.hid (show (w2).heap[rb + 1]? = some (.cells #[iv 0, iv 0, .slice none 0 0, iv 0, .bool false] 44 (0, 0)) by exact HZ2.out); have BV := Lib.hid (show Below w.heap.size w (w2) by exact BW.out.trans (B2.out.mono BW.out.size)); have HS2 := Lib.hid (show w.heap.size ≤ w2.heap.size from Nat.le_trans BW.out.size B2.out.size); have hlrb : rb < w2.heap.size := lt_heap HB2.out; have hlrz : rb + 1 < w2.heap.size := lt_heap HZ2.out)
    | (at_builtin; refine wpList_append_sl rfl _ _ 42 rfl w2.heap.size 49 _ 4 32 Try.underlying42 info_seat rfl (by decide) _ _ _ (own_empty (w := w2) (by simp)) rfl _ n _ rfl (SliceAt.same SF.out (SameT.below (BV.out.alloc BV.out.size _))) LF.out (seatsX_oc _) (by unfold maxLen; omega) (by omega) (by simp) ?_; intro g1 d1 v1 own1 gr1; (try simp only [Nat.zero_add, List.nil_append] at own1); have B3 := Lib.hid (show Below w2.heap.size (w2) v1 from grown_below (by simp) gr1); have OW1 := Lib.hid own1; have S3 := Lib.hid (show w2.heap.size ≤ v1.heap.size by have h1 := B3.out.size; simpa using h1); clear own1 gr1 SF x0 x1 x2 x3 x4; have HB3 := Lib.hid (lies_below HBV.out B3.out hlrb); obtain ⟨x0, x1, x2, x3, x4⟩ := cells5 HB3.out)
    | (at_builtin; have hgo := OW1.out; clear hgo; (refine wpList_pushH [iv id, iv pri, iv 0, iv 0] rfl _ _ 42 rfl w2.heap.size 49 _ 4 32 Try.underlying42 info_seat rfl (by decide) _ n _ OW1.out rfl _ rfl rfl rfl rfl (by unfold maxLen; omega) (by omega) S3.out ?_); intro g2 d2 v2 own2 gr2 q1 q2; have B4 := Lib.hid (B3.out.trans (Below.of_grown gr2 OW1.out S3.out)); have OW2 := Lib.hid own2; have S4 := Lib.hid (show w2.heap.size ≤ v2.heap.size by have h1 := B4.out.size; simpa using h1); clear own2 gr2 q1 q2 x0 x1 x2 x3 x4; have HB4 := Lib.hid (lies_below HBV.out B4.out hlrb); obtain ⟨x0, x1, x2, x3, x4⟩ := cells5 HB4.out; clear OW1)
    | (at_builtin; have sl : SliceAt v2 49 4 (.slice (some ⟨g, 0, none⟩) 0 0) [] := ⟨0, 0, rfl, Nat.zero_le _, Nat.zero_le _, .inl ⟨⟨_, rfl⟩, rfl⟩⟩; refine wpList_append_sl rfl _ _ 42 rfl w2.heap.size 49 _ 4 32 Try.underlying42 info_seat rfl (by decide) _ _ _ OW2.out rfl (.slice (some ⟨g, 0, none⟩) 0 0) 0 [] rfl sl rfl rfl (by unfold maxLen; omega) (by omega) S4.out ?_; clear sl; intro g3 d3 v3 own3 gr3; have B5 := Lib.hid (B4.out.trans (Below.of_grown gr3 OW2.out S4.out)); have OW3 := Lib.hid own3; clear own3 gr3 x0 x1 x2 x3 x4; have HB5 := Lib.hid (lies_below HBV.out B5.out hlrb); have HZ5 := Lib.hid (lies_below HZV.out B5.out hlrz); obtain ⟨x0, x1, x2, x3, x4⟩ := cells5 HB5.out; obtain ⟨z0, z1, z2, z3, z4⟩ := cells5 HZ5.out; have f2 := (lies_cells HB5.out).2 2; have fz := (lies_cells HZ5.out).2; have hrz : rb ≠ rb + 1 := Nat.ne_of_lt (Nat.lt_succ_self rb); have hrz2 : rb + 1 ≠ rb := Nat.succ_ne_self rb)
  have HLEN := Lib.hid (show (addR r id pri).ss.length = n + 1 by rw [HADD.out]; simp only [List.length_append, List.length_cons, List.length_take, List.length_drop, HL.out]; omega)
  have HXS := Lib.hid (show seatsX (addR r id pri).ss = seatsX (r.ss.take n) ++ [iv id, iv pri, iv 0, iv 0]  by rw [HADD.out]; simp [seatsX, seatC, List.drop_eq_nil_of_le (show r.ss.length ≤ n by rw [HL.out]; exact Nat.le_refl _)])
  obtain ⟨s3, hs3⟩ : ∃ s, Value.slice g3 (n + 1) d3 = s := ⟨_, rfl⟩
  have OW4 := Lib.hid (show v3.ownsRow w2.heap.size 49 4 s3 (addR r id pri).ss.length (seatsX (addR r id pri).ss) by rw [HLEN.out, HXS.out, ← hs3]; have ho := OW3.out; rw [List.append_nil] at ho; exact ho)
  show bodyPost _ _ _ _ _ ((((((v3.setCell ⟨rb, 2, none⟩ (.slice g3 (n + 1) d3)).setCell ⟨rb + 1, 0, none⟩ (iv r.ba)).setCell ⟨rb + 1, 1, none⟩ (iv r.pe)).setCell ⟨rb + 1, 2, none⟩ (.slice g3 (n + 1) d3)).setCell ⟨rb + 1, 3, none⟩ (iv (at0 : Nat))).setCell ⟨rb + 1, 4, none⟩ (.bool false))
  rw [hs3]
  obtain ⟨F, hF⟩ : ∃ F, (((((v3.setCell ⟨rb, 2, none⟩ s3).setCell ⟨rb + 1, 0, none⟩ (iv r.ba)).setCell ⟨rb + 1, 1, none⟩ (iv r.pe)).setCell ⟨rb + 1, 2, none⟩ s3).setCell ⟨rb + 1, 3, none⟩ (iv (at0 : Nat))).setCell ⟨rb + 1, 4, none⟩ (.bool false) = F := ⟨_, rfl⟩
  rw [hF]
  have HF := Lib.hid (ring_out (B := B) (addR r id pri) HZ5.out (BV.out.trans (B5.out.mono HS2.out)) HRB.out HBB.out hlrz OW4.out hF.symm)
  obtain ⟨f0, f1, f2, f3, f4⟩ := cells5 HF.out.1
  refine bodyPost_ret (v := .tuple #[ringV (addR r id pri) s3, iv 0]) (by simp [results, Try.results16, go_sem, f0, f1, f2, f3, f4, ringV, HADD.out]) rfl ⟨_, rfl, HF.out.2.1, HF.out.2.2⟩
set_option maxRecDepth 100000 in
set_option maxHeartbeats 4000000 in
theorem add_C_nil {B : Nat} (r : RV) (id pri : Int) (w : World) (n n at0 : Nat)  (hB : B ≤ w.heap.size) (hop : r.op = false) (hat : r.at_ = at0) (hl : r.ss.length = n) (hown : OwnS B w (.slice none 0 0) r.ss) (hr : RingOk r) (hid : ∀ s ∈ r.ss, s.id ≠ id) (hcn : cnB id = true) (hp1 : 0 ≤ pri) (hp2 : pri ≤ 3) (hn : n < 16) (hpo : posR r = n) (ha : at0 = 0) :
    Calls Try.prog 16 #[ringV r (.slice none 0 0), iv id, iv pri] w (RingQ B (addR r id pri) (iv 0) w) := by
  obtain rfl : n = 0 := by have := hown.1; rw [seatsX_len, hl] at this; rcases hown.2 with h | ⟨g, cap, cur, h, _⟩; exact hl.symm.trans h.2; cases h
  have hx := hown.seats
  have HOWN := Lib.hid hown
  have HX := Lib.hid hx
  have HR := Lib.hid hr
  have HID := Lib.hid hid
  have HCN := Lib.hid hcn
  have HL := Lib.hid hl
  have HPO := Lib.hid hpo
  have HBB := Lib.hid hB
  have HRV : ∀ v, ringV r v = .agg #[iv r.ba, iv r.pe, v, iv at0, .bool false] := fun v => by unfold ringV; rw [hop, hat]
  rw [HRV]
  have HVR := Lib.hid (show ∀ w', SeatsAt w' (.slice none 0 0) r.ss → Calls Try.prog 29 #[.agg #[iv r.ba, iv r.pe, .slice none 0 0, iv at0, .bool false]] w' (BoolQ true w') from fun w' h' => by rw [← HRV]; exact vring_any r _ w' h' HR.out)
  have HSE := Lib.hid (show ∀ w', SeatsAt w' (.slice none 0 0) r.ss → Calls Try.prog 30 #[.agg #[iv r.ba, iv r.pe, .slice none 0 0, iv at0, .bool false], iv id] w' (IntQ (-1) w') from fun w' h' => by rw [← HRV]; exact seat_eq (seatFrom_no _ _ _ HID.out) _ w' h')
  have HADD := Lib.hid (show addR r id pri = ⟨r.ba, r.pe, r.ss.take 0 ++ (⟨id, pri, 0, 0⟩ :: r.ss.drop 0), at0, false⟩ by
    unfold addR
    rw [HPO.out, hop, hat]
    simp [ha])
  obtain ⟨W, hW⟩ : ∃ W, (w.alloc (.cells #[iv r.ba, iv r.pe, .slice none 0 0, iv at0, .bool false] 44)).alloc (.cells #[iv 0, iv 0, .slice none 0 0, iv 0, .bool false] 44) = W := ⟨_, rfl⟩
  obtain ⟨rb, hrb⟩ : ∃ b, w.heap.size = b := ⟨_, rfl⟩
  have HB := Lib.hid (show W.heap[rb]? = some (.cells #[iv r.ba, iv r.pe, .slice none 0 0, iv at0, .bool false] 44 (0, 0)) by rw [← hW, ← hrb]; exact lies_alloc _ (heap_alloc_new _ _))
  have HZ := Lib.hid (show W.heap[rb + 1]? = some (.cells #[iv 0, iv 0, .slice none 0 0, iv 0, .bool false] 44 (0, 0)) by rw [← hW, ← hrb]; exact lies_new2 _ _)
  have BW := Lib.hid (show Below w.heap.size w W by rw [← hW]; exact ((Below.refl _ _).alloc (Nat.le_refl _) _).alloc (by simp) _)
  have HW := Lib.hid hW
  have HRB := Lib.hid hrb
  have hud : ∀ b : Bool, (undef = Value.bool b) = False := fun b => by simp [undef]
  have hatn : at0 ≤ 16 := by have h1 := HR.out.at_; have h2 := HR.out.len; rw [hat] at h1; omega
  have hwr : wrap64 ((at0 : Int) + 1) = (at0 : Int) + 1 := IntWalk.wrap64_in _ (by omega)
  have i1 : 0 ≤ (0 : Int) := by omega
  have hb0 : ((at0 : Int) != 0) = false := by simp; omega
  have hn16 : ((0 : Int) == 16) = false := rfl
  clear ha hx hown hr hid hcn hl hpo hop hat HRV hW hB
  have LEN := HL.out
  have SF := Lib.hid (show SliceAt w 49 4 (.slice none 0 0) (seatsX (r.ss.take 0)) from SliceAt.nil)
  have LF := Lib.hid (show (seatsX (r.ss.take 0)).length = 0 * 4 by rw [seatsX_len, List.length_take, HL.out]; omega)
  clear LEN
  go_enter Try.func16, Try.ntmps16
  go_wp2_with fail
  rw [show (w.alloc (.cells #[iv r.ba, iv r.pe, .slice none 0 0, iv at0, .bool false] 44)).alloc (.cells #[iv 0, iv 0, .slice none 0 0, iv 0, .bool false] 44) = W from HW.out]
  try rw [HRB.out]
  obtain ⟨x0, x1, x2, x3, x4⟩ := cells5 HB.out
  clear hrb
  go_wp2_with first
    | (go_at_call 29; refine (HVR.out _ (HX.out.below BW.out)).mono ?_; rintro e w1 ⟨rfl, b1⟩; have B1 := Lib.hid b1; clear b1 x0 x1 x2 x3 x4; have HB1 := Lib.hid (lies_below HB.out B1.out (lt_heap HB.out)); obtain ⟨x0, x1, x2, x3, x4⟩ := cells5 HB1.out)
    | (go_at_call 24; refine (counter_eq HCN.out _).mono ?_; rintro e w2 ⟨rfl, rfl⟩)
    | (go_at_call 30; refine (HSE.out _ ((HX.out.below BW.out).below B1.out)).mono ?_; rintro e w2 ⟨rfl, b2⟩; have B2 := Lib.hid (B1.out.trans (b2.mono B1.out.size)); clear b2 x0 x1 x2 x3 x4; have HB2 := Lib.hid (lies_below HB.out B2.out (lt_heap HB.out)); have HZ2 := Lib.hid (lies_below HZ.out B2.out (lt_heap HZ.out)); obtain ⟨x0, x1, x2, x3, x4⟩ := cells5 HB2.out; have f3 := (lies_cells HB2.out).2 3; have hltrb := lt_heap HB2.out; have HBV := Lib.hid (show (w2).heap[rb]? = some (.cells #[iv r.ba, iv r.pe, .slice none 0 0, iv (at0 : Nat), .bool false] 44 (0, 0)) by exact HB2.out); have HZV := Lib.hid (show (w2).heap[rb + 1]? = some (.cells #[iv 0, iv 0, .slice none 0 0, iv 0, .bool false] 44 (0, 0)) by exact HZ2.out); have BV := Lib.hid (show Below w.heap.size w (w2) by exact BW.out.trans (B2.out.mono BW.out.size)); have HS2 := Lib.hid (show w.heap.size ≤ w2.heap.size from Nat.le_trans BW.out.size B2.out.size); have hlrb : rb < w2.heap.size := lt_heap HB2.out; have hlrz : rb + 1 < w2.heap.size := lt_heap HZ2.out)
    | (at_builtin; refine wpList_append_sl rfl _ _ 42 rfl w2.heap.size 49 _ 4 32 Try.underlying42 info_seat rfl (by decide) _ _ _ (own_empty (w := w2) (by simp)) rfl _ 0 _ rfl (SliceAt.same SF.out (SameT.below (BV.out.alloc BV.out.size _))) LF.out (seatsX_oc _) (by unfold maxLen; omega) (by omega) (by simp) ?_; intro g1 d1 v1 own1 gr1; (try simp only [Nat.zero_add, List.nil_append] at own1); have B3 := Lib.hid (show Below w2.heap.size (w2) v1 from grown_below (by simp) gr1); have OW1 := Lib.hid own1; have S3 := Lib.hid (show w2.heap.size ≤ v1.heap.size by have h1 := B3.out.size; simpa using h1); clear own1 gr1 SF x0 x1 x2 x3 x4; have HB3 := Lib.hid (lies_below HBV.out B3.out hlrb); obtain ⟨x0, x1, x2, x3, x4⟩ := cells5 HB3.out)
    | (at_builtin; have hgo := OW1.out; clear hgo; (refine wpList_pushH [iv id, iv pri, iv 0, iv 0] rfl _ _ 42 rfl w2.heap.size 49 _ 4 32 Try.underlying42 info_seat rfl (by decide) _ 0 _ OW1.out rfl _ rfl rfl rfl rfl (by unfold maxLen; omega) (by omega) S3.out ?_); intro g2 d2 v2 own2 gr2 q1 q2; have B4 := Lib.hid (B3.out.trans (Below.of_grown gr2 OW1.out S3.out)); have OW2 := Lib.hid own2; have S4 := Lib.hid (show w2.heap.size ≤ v2.heap.size by have h1 := B4.out.size; simpa using h1); clear own2 gr2 q1 q2 x0 x1 x2 x3 x4; have HB4 := Lib.hid (lies_below HBV.out B4.out hlrb); obtain ⟨x0, x1, x2, x3, x4⟩ := cells5 HB4.out; clear OW1)
    | (at_builtin; have sl : SliceAt v2 49 4 (.slice none 0 0) [] := ⟨0, 0, rfl, Nat.zero_le _, Nat.zero_le _, .inl ⟨⟨_, rfl⟩, rfl⟩⟩; refine wpList_append_sl rfl _ _ 42 rfl w2.heap.size 49 _ 4 32 Try.underlying42 info_seat rfl (by decide) _ _ _ OW2.out rfl (.slice none 0 0) 0 [] rfl sl rfl rfl (by unfold maxLen; omega) (by omega) S4.out ?_; clear sl; intro g3 d3 v3 own3 gr3; have B5 := Lib.hid (B4.out.trans (Below.of_grown gr3 OW2.out S4.out)); have OW3 := Lib.hid own3; clear own3 gr3 x0 x1 x2 x3 x4; have HB5 := Lib.hid (lies_below HBV.out B5.out hlrb); have HZ5 := Lib.hid (lies_below HZV.out B5.out hlrz); obtain ⟨x0, x1, x2, x3, x4⟩ := cells5 HB5.out; obtain ⟨z0, z1, z2, z3, z4⟩ := cells5 HZ5.out; have f2 := (lies_cells HB5.out).2 2; have fz := (lies_cells HZ5.out).2; have hrz : rb ≠ rb + 1 := Nat.ne_of_lt (Nat.lt_succ_self rb); have hrz2 : rb + 1 ≠ rb := Nat.succ_ne_self rb)
  have HLEN := Lib.hid (show (addR r id pri).ss.length = 0 + 1 by rw [HADD.out]; simp only [List.length_append, List.length_cons, List.length_take, List.length_drop, HL.out]; omega)
  have HXS := Lib.hid (show seatsX (addR r id pri).ss = seatsX (r.ss.take 0) ++ [iv id, iv pri, iv 0, iv 0]  by rw [HADD.out]; simp [seatsX, seatC, List.drop_eq_nil_of_le (show r.ss.length ≤ 0 by rw [HL.out]; exact Nat.le_refl _)])
  obtain ⟨s3, hs3⟩ : ∃ s, Value.slice g3 (0 + 1) d3 = s := ⟨_, rfl⟩
  have OW4 := Lib.hid (show v3.ownsRow w2.heap.size 49 4 s3 (addR r id pri).ss.length (seatsX (addR r id pri).ss) by rw [HLEN.out, HXS.out, ← hs3]; have ho := OW3.out; rw [List.append_nil] at ho; exact ho)
  show bodyPost _ _ _ _ _ ((((((v3.setCell ⟨rb, 2, none⟩ (.slice g3 (0 + 1) d3)).setCell ⟨rb + 1, 0, none⟩ (iv r.ba)).setCell ⟨rb + 1, 1, none⟩ (iv r.pe)).setCell ⟨rb + 1, 2, none⟩ (.slice g3 (0 + 1) d3)).setCell ⟨rb + 1, 3, none⟩ (iv (at0 : Nat))).setCell ⟨rb + 1, 4, none⟩ (.bool false))
  rw [hs3]
  obtain ⟨F, hF⟩ : ∃ F, (((((v3.setCell ⟨rb, 2, none⟩ s3).setCell ⟨rb + 1, 0, none⟩ (iv r.ba)).setCell ⟨rb + 1, 1, none⟩ (iv r.pe)).setCell ⟨rb + 1, 2, none⟩ s3).setCell ⟨rb + 1, 3, none⟩ (iv (at0 : Nat))).setCell ⟨rb + 1, 4, none⟩ (.bool false) = F := ⟨_, rfl⟩
  rw [hF]
  have HF := Lib.hid (ring_out (B := B) (addR r id pri) HZ5.out (BV.out.trans (B5.out.mono HS2.out)) HRB.out HBB.out hlrz OW4.out hF.symm)
  obtain ⟨f0, f1, f2, f3, f4⟩ := cells5 HF.out.1
  refine bodyPost_ret (v := .tuple #[ringV (addR r id pri) s3, iv 0]) (by simp [results, Try.results16, go_sem, f0, f1, f2, f3, f4, ringV, HADD.out]) rfl ⟨_, rfl, HF.out.2.1, HF.out.2.2⟩
end Go.Proofs.Ytbgoogjhgeoapaa
