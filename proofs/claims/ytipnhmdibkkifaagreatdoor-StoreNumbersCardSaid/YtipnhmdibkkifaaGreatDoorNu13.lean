/- A part of the proof. -/
import Derived.Test.YtipnhmdibkkifaaGreatDoorNu12
import Derived.Test.YtipnhmdibkkifaaGreatDoorNu03
import Derived.Test.YtipnhmdibkkifaaGreatDoorNu04
import Derived.Test.YtipnhmdibkkifaaGreatDoorNu01
import Derived.BigRegion
import Derived.RegionTactic
set_option linter.unusedVariables false
set_option linter.unusedSimpArgs false
set_option linter.unusedVariables false
set_option linter.unusedSimpArgs false
set_option linter.unusedSectionVars false
namespace Go.Proofs.YtipnhmdibkkifaaGreatDoor
open Go.RowKit
variable [Base]
abbrev NT : TypeId := 80
def nodeV (n : PNode) : List Value := [iv n.kind, iv n.fn, iv n.bl, iv n.st]
def nodesV (l : List PNode) : List Value := (l.map nodeV).flatten
def NodesAt (w : World) (v : Value) (l : List PNode) : Prop := SliceAt w NT 4 v (nodesV l)
def OwnN (z : Nat) (w : World) (v : Value) (l : List PNode) : Prop := w.ownsRow z NT 4 v l.length (nodesV l)
theorem nodesV_len (l : List PNode) : ∀ x ∈ l.map nodeV, x.length = 4 := fun x hx => by
  obtain ⟨n, -, rfl⟩ := List.mem_map.1 hx
  rfl
theorem nodesV_app (a b : List PNode) : nodesV (a ++ b) = nodesV a ++ nodesV b := by simp [nodesV]
theorem OwnN.at_ {z : Nat} {w : World} {v : Value} {l : List PNode} (h : OwnN z w v l) : NodesAt w v l := SliceAt.of_owns h
theorem OwnN.below {z : Nat} {w w' : World} {v : Value} {l : List PNode} (h : OwnN z w v l) (b : Below w.heap.size w w') : OwnN z w' v l := own_below h b
theorem OwnN.nil {z : Nat} {w : World} : OwnN z w (.slice none 0 0) [] := by simp [OwnN, World.ownsRow, nodesV]
theorem OwnN.push {z g cap : Nat} {w : World} {l : List PNode} {n : PNode} (h : w.ownsRow z NT 4 (.slice (some ⟨g, 0, none⟩) (l.length + 1) cap) (l.length + 1) (nodesV l ++ nodeV n)) : OwnN z w (.slice (some ⟨g, 0, none⟩) (l.length + 1) cap) (l ++ [n]) := by
  unfold OwnN
  rw [nodesV_app, List.length_append]
  simpa [nodesV] using h
theorem NodesAt.below {w w' : World} {v : Value} {l : List PNode} (h : NodesAt w v l) (b : Below w.heap.size w w') : NodesAt w' v l := h.same (SameT.below b)
theorem NodesAt.cell {w : World} {v : Value} {l : List PNode} (h : NodesAt w v l) : ∃ a c, v = .slice a l.length c ∧ l.length ≤ maxLen ∧ l.length ≤ c ∧ c ≤ maxLen ∧ ∀ k n, l[k]? = some n → ∃ b off, a = some ⟨b, off, none⟩ ∧ b < w.heap.size ∧
    w.cell? ⟨b, off + k * 4, none⟩ = some (iv n.kind) ∧ w.cell? ⟨b, off + k * 4 + 1, none⟩ = some (iv n.fn) ∧ w.cell? ⟨b, off + k * 4 + 2, none⟩ = some (iv n.bl) ∧ w.cell? ⟨b, off + k * 4 + 3, none⟩ = some (iv n.st) := by
  obtain ⟨a, c, e, hm, h3, h4, hc⟩ := rows_lie h (nodesV_len l) (by omega)
  rw [List.length_map] at e hm h3
  refine ⟨a, c, e, hm, h3, h4, fun k n hk => ?_⟩
  have hx : (l.map nodeV)[k]? = some (nodeV n) := by rw [List.getElem?_map, hk]; rfl
  obtain ⟨b, off, rfl, hlt, _, hc2⟩ := hc k _ hx
  exact ⟨b, off, rfl, hlt, hc2 0 (by omega), hc2 1 (by omega), hc2 2 (by omega), hc2 3 (by omega)⟩
theorem info_node : (Tryz.prog.info? NT).map (fun i => (i.zero, i.size, i.bytes)) = some (some (Value.agg #[iv 0, iv 0, iv 0, iv 0]), 4, 32) := by kernel_rfl
theorem stmtsN_app (i k : Nat) : ∀ (a b : List PStmt) (m : Nat), stmtsN i k (a ++ b) m = stmtsN i k a m ++ stmtsN i k b (m + a.length)
  | [], b, m => by simp [stmtsN]
  | x :: r, b, m => by
    show stmtN i k m x ++ stmtsN i k (r ++ b) (m + 1) = _
    rw [stmtsN_app i k r b (m + 1)]
    simp only [stmtsN, List.append_assoc, List.length_cons]
    rw [show m + 1 + r.length = m + (r.length + 1) by omega]
theorem blocksN_app (i : Nat) : ∀ (a b : List PBlock) (m : Nat), blocksN i (a ++ b) m = blocksN i a m ++ blocksN i b (m + a.length)
  | [], b, m => by simp [blocksN]
  | x :: r, b, m => by
    show stmtsN i m x.stmts 0 ++ blocksN i (r ++ b) (m + 1) = _
    rw [blocksN_app i r b (m + 1)]
    simp only [blocksN, List.append_assoc, List.length_cons]
    rw [show m + 1 + r.length = m + (r.length + 1) by omega]
theorem funcsN_app : ∀ (a b : List PFunc) (m : Nat), funcsN (a ++ b) m = funcsN a m ++ funcsN b (m + a.length)
  | [], b, m => by simp [funcsN]
  | x :: r, b, m => by
    show funcN m x ++ funcsN (r ++ b) (m + 1) = _
    rw [funcsN_app r b (m + 1)]
    simp only [funcsN, List.append_assoc, List.length_cons]
    rw [show m + 1 + r.length = m + (r.length + 1) by omega]
theorem take_eq {α : Type} {l : List α} {i : Nat} {x : α} (h : l[i]? = some x) : l = l.take i ++ x :: l.drop (i + 1) ∧ (l.take i).length = i := by
  have hi : i < l.length := (List.getElem?_eq_some_iff.1 h).1
  refine ⟨?_, by rw [List.length_take]; omega⟩
  rw [← (List.getElem?_eq_some_iff.1 h).2, List.getElem_cons_drop, List.take_append_drop]
def entN (i : Nat) : PNode := ⟨1, i, -1, -1⟩
def extN (i : Nat) : PNode := ⟨2, i, -1, -1⟩
theorem funcsN_take {p : List PFunc} {i : Nat} {f : PFunc} (h : p[i]? = some f) : funcsN (p.take (i + 1)) 0 = funcsN (p.take i) 0 ++ [entN i] ++ blocksN i f.blocks 0 ++ [extN i] := by
  rw [List.take_add_one, h]
  show funcsN (p.take i ++ [f]) 0 = _
  rw [funcsN_app, (take_eq h).2]
  simp [funcsN, funcN, entN, extN]
theorem blocksN_take {l : List PBlock} {i k : Nat} {b : PBlock} (h : l[k]? = some b) : blocksN i (l.take (k + 1)) 0 = blocksN i (l.take k) 0 ++ stmtsN i k b.stmts 0 := by
  rw [List.take_add_one, h]
  show blocksN i (l.take k ++ [b]) 0 = _
  rw [blocksN_app, (take_eq h).2]
  simp [blocksN]
theorem stmtsN_take {l : List PStmt} {i k j : Nat} {s : PStmt} (h : l[j]? = some s) : stmtsN i k (l.take (j + 1)) 0 = stmtsN i k (l.take j) 0 ++ stmtN i k j s := by
  rw [List.take_add_one, h]
  show stmtsN i k (l.take j ++ [s]) 0 = _
  rw [stmtsN_app, (take_eq h).2]
  simp [stmtsN]
theorem funcsN_pre {p : List PFunc} {i : Nat} {f : PFunc} (h : p[i]? = some f) : (funcsN (p.take i) 0).length + (funcN i f).length ≤ (funcsN p 0).length := by
  have h1 := (take_eq h).1
  have h2 : funcsN p 0 = funcsN (p.take i ++ f :: p.drop (i + 1)) 0 := by rw [← h1]
  rw [h2, funcsN_app, (take_eq h).2]
  simp [funcsN]
theorem blocksN_pre {l : List PBlock} {i k : Nat} {b : PBlock} (h : l[k]? = some b) : (blocksN i (l.take k) 0).length + (stmtsN i k b.stmts 0).length ≤ (blocksN i l 0).length := by
  have h1 := (take_eq h).1
  have h2 : blocksN i l 0 = blocksN i (l.take k ++ b :: l.drop (k + 1)) 0 := by rw [← h1]
  rw [h2, blocksN_app, (take_eq h).2]
  simp [blocksN]
theorem stmtsN_pre {l : List PStmt} {i k j : Nat} {s : PStmt} (h : l[j]? = some s) : (stmtsN i k (l.take j) 0).length + (stmtN i k j s).length ≤ (stmtsN i k l 0).length := by
  have h1 := (take_eq h).1
  have h2 : stmtsN i k l 0 = stmtsN i k (l.take j ++ s :: l.drop (j + 1)) 0 := by rw [← h1]
  rw [h2, stmtsN_app, (take_eq h).2]
  simp [stmtsN]
end Go.Proofs.YtipnhmdibkkifaaGreatDoor
set_option linter.unusedVariables false
set_option linter.unusedSimpArgs false
set_option linter.unusedSectionVars false
namespace Go.Proofs.YtipnhmdibkkifaaGreatDoor
open Go.RowKit
variable [Base]
def NodesQ (l : List PNode) (w : World) (e : Ending) (w' : World) : Prop := ∃ v, e = .returned v ∧ OwnN w.heap.size w' v l ∧ Below w.heap.size w w'
set_option maxRecDepth 100000 in
set_option maxHeartbeats 8000000 in
theorem list_any {B : Nat} {w : World} (kw : KwIn B w) (hB : B ≤ w.heap.size) (p : List PFunc) (v : Value) (h : FuncsAt w v p) (hf : ∀ f ∈ p, ∀ b ∈ f.blocks, ∀ s ∈ b.stmts, FitS s) :
    Calls Tryz.prog 48 #[.agg #[v]] w (NodesQ (nodesP p) w) := by
  obtain ⟨z, hz⟩ : ∃ b, w.heap.size = b := ⟨_, rfl⟩
  have hbz : Base.b ≤ z := by have := kw.bs; omega
  have HV := Lib.hid (fun (x : World) (b : Below z w x) => check_any (kw.keep fun k hk => b.block k (by omega)) (by have := b.size; omega) p v (h.keep (SameT.below (hz ▸ b)) (SameT.below (hz ▸ b)) (SameT.below (hz ▸ b)) (SameT.below (hz ▸ b))) hf)
  obtain ⟨a, c, rfl, hn, hc⟩ := h.cell
  have HC := Lib.hid hc
  obtain ⟨n, hl⟩ : ∃ n, p.length = n := ⟨_, rfl⟩
  rw [hl] at hn HV ⊢
  unfold maxLen at hn
  obtain ⟨W, hW⟩ : ∃ W, w.alloc (.cells #[.slice a n c] 48) = W := ⟨_, rfl⟩
  have HPB := Lib.hid (show W.heap[z]? = some (.cells #[.slice a n c] 48 (0, 0)) by rw [← hW, ← hz]; exact heap_alloc_new _ _)
  have BW := Lib.hid (show Below z w W by rw [← hW, ← hz]; exact (Below.refl _ _).alloc (Nat.le_refl _) _)
  have HWW := Lib.hid hW
  have HZ := Lib.hid hz
  have HL := Lib.hid hl
  clear h hc hl hW kw hf
  have x0 := (blk_cells HPB.out).1 0
  simp at x0
  obtain ⟨er, her⟩ : ∃ r, checkE p = r := ⟨_, rfl⟩
  rw [her] at HV
  have HER := Lib.hid her
  clear her
  go_enter Tryz.func48, Tryz.ntmps48
  go_upto_region 1 with (fail)
  rw [show w.alloc (.cells #[.slice a n c] 48) = W from HWW.out]
  try rw [hz]
  go_wp2_with fail
  refine (HV.out W BW.out).mono ?_
  rintro e w1 ⟨na, nb, nc, nd, rfl, b1⟩
  have b2 := b1.trans (((Below.refl w1.heap.size w1).alloc (Nat.le_refl _) (.cells #[iv na, iv nb, iv nc, iv nd] 80)).mono b1.size)
  have hs2 : w1.heap.size < (w1.alloc (.cells #[iv na, iv nb, iv nc, iv nd] 80)).heap.size := by simp
  obtain ⟨w2, hw2⟩ : ∃ V, w1.alloc (.cells #[iv na, iv nb, iv nc, iv nd] 80) = V := ⟨_, rfl⟩
  have HW2 := Lib.hid hw2
  rw [hw2] at b2 hs2
  have HP2 := Lib.hid (lies_below HPB.out b2 (lt_heap HPB.out))
  have zW : z ≤ W.heap.size := by have := BW.out.size; omega
  have HB2 := Lib.hid (BW.out.trans (b2.mono zW))
  have zw2 : z ≤ w2.heap.size := by have := HB2.out.size; omega
  clear b1 b2 hw2 x0 hs2 zW
  by_cases he : er = 0
  rotate_left
  · have hne : (er != 0) = true := by simpa using he
    have HF := Lib.hid (show nodesP p = [] by unfold nodesP; rw [HER.out, if_neg he])
    clear he
    go_wp2
    refine bodyPost_ret (v := .slice none 0 0) (by simp [results, Tryz.results48, go_sem]) rfl ⟨_, rfl, ?_, ?_⟩
    · rw [HF.out]; exact OwnN.nil
    · rw [HZ.out]; exact HW2.out ▸ HB2.out
  have hne : (er != 0) = false := by simpa using he
  have HNP := Lib.hid (show nodesP p = funcsN p 0 from nodes_eq (by rw [HER.out, he]))
  have HLE := Lib.hid (show (funcsN p 0).length ≤ 256 by rw [← HNP.out]; exact nodes_le)
  clear he
  go_upto_region 5 with (fail)
  rw [show w1.alloc (.cells #[iv na, iv nb, iv nc, iv nd] 80) = w2 from HW2.out]
  have x0 := (blk_cells HP2.out).1 0
  simp at x0
  go_wp2
  clear x0
  go_loopw [5, 22] (fun V y wr => ∃ (i : Nat) (Y : Value), i ≤ n ∧ Y = V ∧ y = .int .i64 i ∧ Hid (Below z w wr) ∧ z ≤ wr.heap.size ∧ Hid (OwnN z wr Y (funcsN (p.take i) 0))) (fun _ y _ => n - (intOf y).toNat)
  case atStart => exact ⟨0, _, Nat.zero_le _, rfl, rfl, HB2.out, zw2, OwnN.nil⟩
  case round =>
    obtain ⟨i, V, hi, rfl, rfl, HB, zwr, HO⟩ := hrel
    by_cases hlt : i < n
    rotate_left
    · have HO2 := Lib.hid (show OwnN z wr V (nodesP p) by rw [HNP.out, ← show p.take i = p from List.take_of_length_le (by rw [HL.out]; omega)]; exact HO.out)
      go_wp2
      exact bodyPost_ret (v := V) (by simp [results, Tryz.results48, go_sem]) rfl ⟨_, rfl, by rw [HZ.out]; exact HO2.out, by rw [HZ.out]; exact HB.out⟩
    · obtain ⟨f, hf⟩ : ∃ f, p[i]? = some f := ⟨_, List.getElem?_eq_getElem (by rw [HL.out]; exact hlt)⟩
      obtain ⟨fb, off, bv, rfl, hfb, g0, g1, hbl⟩ := HC.out i f hf
      have g0 := (HB.out.cell (p := ⟨fb, off + i * 2, none⟩) (by show fb < z; omega)).trans g0
      have g1 := (HB.out.cell (p := ⟨fb, off + i * 2 + 1, none⟩) (by show fb < z; omega)).trans g1
      obtain ⟨ba, bc, rfl, hbn, hbc⟩ := hbl.cell
      have HBC := Lib.hid hbc
      obtain ⟨bn, hbn2⟩ : ∃ n, List.length f.blocks = n := ⟨_, rfl⟩
      rw [hbn2] at g1 hbn
      unfold maxLen at hbn
      have HBL := Lib.hid hbn2
      have HFT := Lib.hid (funcsN_take hf)
      have hpre := funcsN_pre hf
      have hlen0 : (funcsN (p.take i) 0).length + (blocksN i f.blocks 0).length + 2 ≤ 256 := by have := HLE.out; simp [funcN] at hpre; omega
      obtain ⟨U, hU⟩ : ∃ U, wr.alloc (.cells #[sv f.name, .slice ba bn bc] 74) = U := ⟨_, rfl⟩
      have BU := Lib.hid (show Below wr.heap.size wr U by rw [← hU]; exact (Below.refl _ _).alloc (Nat.le_refl _) _)
      have HXB := Lib.hid (show U.heap[wr.heap.size]? = some (.cells #[sv f.name, .slice ba bn bc] 74 (0, 0)) by rw [← hU]; exact heap_alloc_new _ _)
      have HUU := Lib.hid hU
      have HBU := Lib.hid (HB.out.trans (BU.out.mono zwr))
      have HOU := Lib.hid (HO.out.below BU.out)
      have zU : z ≤ U.heap.size := Nat.le_trans zwr BU.out.size
      obtain ⟨xb, hxb⟩ : ∃ b, wr.heap.size = b := ⟨_, rfl⟩
      rw [hxb] at HXB BU
      obtain ⟨L0, hL0⟩ : ∃ l, funcsN (p.take i) 0 = l := ⟨_, rfl⟩
      rw [hL0] at HOU HFT hlen0
      clear hf hbl hbn2 hU hpre hbc HO HB hL0
      go_upto_region 8 with (fail)
      rw [show wr.alloc (.cells #[sv f.name, .slice ba bn bc] 74) = U from HUU.out]
      try rw [hxb]
      clear hxb g0 g1
      go_upto_region 9 with (at_builtin; refine wpList_push [iv 1, iv (i : Int), iv (-1), iv (-1)] rfl _ _ _ rfl z NT _ 4 32 Tryz.underlying83 info_node rfl (by omega) _ _ _ HOU.out rfl rfl rfl rfl (by unfold maxLen; omega) (by omega) zU ?_; intro g cap w5 ho hg hzg _; have HO5 := Lib.hid (OwnN.push (n := entN i) ho); have B5 := Lib.hid (Below.of_grown hg HOU.out zU); have HX5 := Lib.hid ((hg.block _ (lt_heap HXB.out) (own_off HOU.out HXB.out (by intro c fr h; injection h with _ h; exact absurd h (by decide)))).trans HXB.out); clear ho hg hzg)
      have HB5 := Lib.hid (HBU.out.trans B5.out)
      have zw5 : z ≤ w5.heap.size := Nat.le_trans zU B5.out.size
      obtain ⟨x0, x1⟩ := cells2s HX5.out
      go_wp2
      clear x0 x1
      go_loopw [5, 35] (fun V y wr => ∃ (k : Nat) (Y : Value), k ≤ bn ∧ Y = V ∧ y = .int .i64 k ∧ Hid (Below z w wr) ∧ z ≤ wr.heap.size ∧ Hid (OwnN z wr Y (L0 ++ [entN i] ++ blocksN i (f.blocks.take k) 0))) (fun _ y _ => bn - (intOf y).toNat)
      case atStart => exact ⟨0, _, Nat.zero_le _, rfl, rfl, HB5.out, zw5, by unfold Hid; simpa [blocksN] using HO5.out⟩
      case round =>
        obtain ⟨k, V, hk, rfl, rfl, HB, zwr, HO⟩ := hrel
        by_cases hlt2 : k < bn
        rotate_left
        · have HO2 := Lib.hid (show OwnN z wr V (L0 ++ [entN i] ++ blocksN i f.blocks 0) by rw [← show f.blocks.take k = f.blocks from List.take_of_length_le (by rw [HBL.out]; omega)]; exact HO.out)
          have hlq : (L0 ++ [entN i] ++ blocksN i f.blocks 0).length ≤ 300 := by simp; omega
          obtain ⟨M, hM⟩ : ∃ l, L0 ++ [entN i] ++ blocksN i f.blocks 0 = l := ⟨_, rfl⟩
          rw [hM] at HO2 HFT hlq
          clear hM HO
          go_wp2_with (at_builtin; refine wpList_push [iv 2, iv (i : Int), iv (-1), iv (-1)] rfl _ _ _ rfl z NT _ 4 32 Tryz.underlying83 info_node rfl (by omega) _ _ _ HO2.out rfl rfl rfl rfl (by unfold maxLen; omega) (by omega) zwr ?_; intro g cap w5 ho hg hzg _; have HO5 := Lib.hid (OwnN.push (n := extN i) ho); have B5 := Lib.hid (Below.of_grown hg HO2.out zwr); clear ho hg hzg)
          have HB6 := Lib.hid (HB.out.trans B5.out)
          have zw6 : z ≤ w5.heap.size := Nat.le_trans zwr B5.out.size
          go_roundw
          case rel => exact ⟨i + 1, _, by omega, rfl, by go_num, HB6, zw6, Lib.hid (by rw [HFT.out]; exact HO5.out)⟩
          case measure => simp [intOf]; omega
        · obtain ⟨b, hb⟩ : ∃ b, f.blocks[k]? = some b := ⟨_, List.getElem?_eq_getElem (by rw [HBL.out]; exact hlt2)⟩
          obtain ⟨kb, ko, sv1, rfl, hkb, g0, g1, hsl⟩ := HBC.out k b hb
          have g0 := (HB.out.cell (p := ⟨kb, ko + k * 2, none⟩) (by show kb < z; omega)).trans g0
          have g1 := (HB.out.cell (p := ⟨kb, ko + k * 2 + 1, none⟩) (by show kb < z; omega)).trans g1
          obtain ⟨sa, sc, rfl, hsn, hsc⟩ := hsl.cell
          have HSC := Lib.hid hsc
          obtain ⟨sn, hsn2⟩ : ∃ n, List.length b.stmts = n := ⟨_, rfl⟩
          rw [hsn2] at g1 hsn
          unfold maxLen at hsn
          have HSL := Lib.hid hsn2
          have HBT := Lib.hid (blocksN_take (i := i) hb)
          have hpre := blocksN_pre (i := i) hb
          have hlen1 : L0.length + (blocksN i (f.blocks.take k) 0).length + (stmtsN i k b.stmts 0).length + 2 ≤ 256 := by omega
          have A1 := (Below.refl wr.heap.size wr).alloc (Nat.le_refl _) (.cells #[sv b.name, .slice sa sn sc] 99)
          have HB3 := Lib.hid (HB.out.trans (A1.mono zwr))
          obtain ⟨L1, hL1⟩ : ∃ l, blocksN i (f.blocks.take k) 0 = l := ⟨_, rfl⟩
          rw [hL1] at HO HBT hlen1
          have HO3 := Lib.hid (HO.out.below A1)
          clear hb hsl hsn2 hpre hsc A1 hL1 HO HB
          go_wp2
          clear g0 g1
          go_loopw [5, 43] (fun V y wr => ∃ (j : Nat) (Y : Value), j ≤ sn ∧ Y = V ∧ y = .int .i64 j ∧ Hid (Below z w wr) ∧ z ≤ wr.heap.size ∧ Hid (OwnN z wr Y (L0 ++ [entN i] ++ L1 ++ stmtsN i k (b.stmts.take j) 0))) (fun _ y _ => sn - (intOf y).toNat)
          case atStart => exact ⟨0, _, Nat.zero_le _, rfl, rfl, HB3.out, by simp; omega, by unfold Hid; simpa [stmtsN, sv] using HO3.out⟩
          case round =>
            obtain ⟨j, V, hj, rfl, rfl, HB, zwr, HO⟩ := hrel
            by_cases hlt3 : j < sn
            rotate_left
            · have HO2 := Lib.hid (show OwnN z wr V (L0 ++ [entN i] ++ blocksN i (f.blocks.take (k + 1)) 0) by rw [HBT.out, ← show b.stmts.take j = b.stmts from List.take_of_length_le (by rw [HSL.out]; omega), ← List.append_assoc]; exact HO.out)
              go_wp2
              go_roundw
              case rel => exact ⟨k + 1, _, by omega, rfl, by go_num, HB, zwr, HO2⟩
              case measure => simp [intOf]; omega
            · obtain ⟨s, hs⟩ : ∃ s, b.stmts[j]? = some s := ⟨_, List.getElem?_eq_getElem (by rw [HSL.out]; exact hlt3)⟩
              obtain ⟨b4, o4, u, t, rfl, hb4, c0, c1, c2, c3, hu, ht⟩ := HSC.out j s hs
              obtain ⟨ua, uc, rfl, -⟩ := hu.cell
              obtain ⟨ta, tc, rfl, -⟩ := ht.cell
              obtain ⟨un, hun⟩ : ∃ n, s.uses.length = n := ⟨_, rfl⟩
              obtain ⟨tn, htn⟩ : ∃ n, s.targets.length = n := ⟨_, rfl⟩
              rw [hun] at c2
              rw [htn] at c3
              have c0 := (HB.out.cell (p := ⟨b4, o4 + j * 4, none⟩) (by show b4 < z; omega)).trans c0
              have c1 := (HB.out.cell (p := ⟨b4, o4 + j * 4 + 1, none⟩) (by show b4 < z; omega)).trans c1
              have c2 := (HB.out.cell (p := ⟨b4, o4 + j * 4 + 2, none⟩) (by show b4 < z; omega)).trans c2
              have c3 := (HB.out.cell (p := ⟨b4, o4 + j * 4 + 3, none⟩) (by show b4 < z; omega)).trans c3
              have HST := Lib.hid (stmtsN_take (i := i) (k := k) hs)
              have hpre := stmtsN_pre (i := i) (k := k) hs
              obtain ⟨U2, hU2⟩ : ∃ U, wr.alloc (.cells #[iv s.op, sv s.dfn, .slice ua un uc, .slice ta tn tc] 118) = U := ⟨_, rfl⟩
              have BU2 := Lib.hid (show Below wr.heap.size wr U2 by rw [← hU2]; exact (Below.refl _ _).alloc (Nat.le_refl _) _)
              have HYB := Lib.hid (show U2.heap[wr.heap.size]? = some (.cells #[iv s.op, sv s.dfn, .slice ua un uc, .slice ta tn tc] 118 (0, 0)) by rw [← hU2]; exact heap_alloc_new _ _)
              have HUU2 := Lib.hid hU2
              have HBU2 := Lib.hid (HB.out.trans (BU2.out.mono zwr))
              obtain ⟨L2, hL2⟩ : ∃ l, stmtsN i k (b.stmts.take j) 0 = l := ⟨_, rfl⟩
              rw [hL2] at HO HST hpre
              have HOU2 := Lib.hid (HO.out.below BU2.out)
              have zU2 : z ≤ U2.heap.size := Nat.le_trans zwr BU2.out.size
              have hlq : (L0 ++ [entN i] ++ L1 ++ L2).length ≤ 300 := by simp; omega
              obtain ⟨M, hM⟩ : ∃ l, L0 ++ [entN i] ++ L1 ++ L2 = l := ⟨_, rfl⟩
              rw [hM] at HOU2 hlq
              have HMM := Lib.hid hM
              clear hM
              obtain ⟨yb, hyb⟩ : ∃ b, wr.heap.size = b := ⟨_, rfl⟩
              rw [hyb] at HYB BU2
              obtain ⟨op, hop⟩ : ∃ o, s.op = o := ⟨_, rfl⟩
              rw [hop] at HYB c0
              have HUU3 := Lib.hid (hop ▸ HUU2.out)
              have HSN := Lib.hid (show stmtN i k j s = ⟨3, i, k, j⟩ :: (if op = 3 then [⟨4, i, k, j⟩] else []) by unfold stmtN; rw [hop])
              clear hs hu ht hun htn hU2 hpre HO HB hL2 HUU2 hop
              go_upto_region 15 with (fail)
              rw [show wr.alloc (.cells #[iv op, sv s.dfn, .slice ua un uc, .slice ta tn tc] 118) = U2 from HUU3.out]
              try rw [hyb]
              clear hyb c0 c1 c2 c3
              go_upto_region 16 with (at_builtin; refine wpList_push [iv 3, iv (i : Int), iv (k : Int), iv (j : Int)] rfl _ _ _ rfl z NT _ 4 32 Tryz.underlying83 info_node rfl (by omega) _ _ _ HOU2.out rfl rfl rfl rfl (by unfold maxLen; omega) (by omega) zU2 ?_; intro g cap w5 ho hg hzg _; have HO5 := Lib.hid (OwnN.push (n := ⟨3, i, k, j⟩) ho); have B5 := Lib.hid (Below.of_grown hg HOU2.out zU2); have HX5 := Lib.hid ((hg.block _ (lt_heap HYB.out) (own_off HOU2.out HYB.out (by intro c fr h; injection h with _ h; exact absurd h (by decide)))).trans HYB.out); clear ho hg hzg)
              have HB6 := Lib.hid (HBU2.out.trans B5.out)
              have zw6 : z ≤ w5.heap.size := Nat.le_trans zU2 B5.out.size
              obtain ⟨y0, y1, y2, y3⟩ := cells4s HX5.out
              by_cases h3 : op = 3
              · rw [if_pos h3] at HSN
                have HO6 := HO5
                have B6 := B5
                have w6q : (M ++ [(⟨3, i, k, j⟩ : PNode)]).length ≤ 301 := by rw [List.length_append]; simp only [List.length_singleton]; omega
                obtain ⟨M2, hM2⟩ : ∃ l, M ++ [(⟨3, i, k, j⟩ : PNode)] = l := ⟨_, rfl⟩
                rw [hM2] at HO6 w6q
                have HMM2 := Lib.hid hM2
                obtain ⟨w6, hw6⟩ : ∃ w6 : World, w5 = w6 := ⟨_, rfl⟩
                subst hw6
                clear HO5 B5 hM2
                subst h3
                go_wp2_with (at_builtin; refine wpList_push [iv 4, iv (i : Int), iv (k : Int), iv (j : Int)] rfl _ _ _ rfl z NT _ 4 32 Tryz.underlying83 info_node rfl (by omega) _ _ _ HO6.out rfl rfl rfl rfl (by unfold maxLen; omega) (by omega) zw6 ?_; intro g cap w7 ho hg hzg _; have HO7 := Lib.hid (OwnN.push (n := ⟨4, i, k, j⟩) ho); have B7 := Lib.hid (Below.of_grown hg HO6.out zw6); clear ho hg hzg)
                have HB7 := Lib.hid (HB6.out.trans B7.out)
                have zw7 := Nat.le_trans zw6 B7.out.size
                go_roundw
                case rel => exact ⟨j + 1, _, by omega, rfl, by go_num, HB7, zw7, Lib.hid (by rw [HST.out, HSN.out, ← List.append_assoc, HMM.out, show [(⟨3, i, k, j⟩ : PNode), ⟨4, i, k, j⟩] = [⟨3, i, k, j⟩] ++ [⟨4, i, k, j⟩] from rfl, ← List.append_assoc, HMM2.out]; exact HO7.out)⟩
                case measure => simp [intOf]; omega
              · rw [if_neg h3] at HSN
                have h3b : (op == 3) = false := by simpa using h3
                go_wp2
                go_roundw
                case rel => exact ⟨j + 1, _, by omega, rfl, by go_num, HB6, zw6, Lib.hid (by rw [HST.out, HSN.out, ← List.append_assoc, HMM.out]; exact HO5.out)⟩
                case measure => simp [intOf]; omega
end Go.Proofs.YtipnhmdibkkifaaGreatDoor
set_option linter.unusedVariables false
set_option linter.unusedSimpArgs false
set_option linter.unusedSectionVars false
namespace Go.Proofs.YtipnhmdibkkifaaGreatDoor
open Go.RowKit
variable [Base]
def nodeA (n : PNode) : Value := .agg #[iv n.kind, iv n.fn, iv n.bl, iv n.st]
theorem idxOf_take {α : Type} [BEq α] [LawfulBEq α] : ∀ {l : List α} {k : Nat} {x : α}, l[k]? = some x → x ∉ l.take k → l.idxOf x = k
  | [], k, x, h, _ => by simp at h
  | a :: r, 0, x, h, _ => by simp at h; simp [h]
  | a :: r, k + 1, x, h, hn => by
    simp at h hn
    have e : (a == x) = false := by simpa using fun e => hn.1 (Eq.symm e)
    rw [List.idxOf_cons, e, idxOf_take h hn.2]
    rfl
end Go.Proofs.YtipnhmdibkkifaaGreatDoor
set_option linter.unusedVariables false
set_option linter.unusedSimpArgs false
set_option linter.unusedSectionVars false
namespace Go.Proofs.YtipnhmdibkkifaaGreatDoor
open Go.RowKit
variable [Base]
theorem node_places {p : List PFunc} {x : PNode} (hm : x ∈ nodesP p) (hi : insN x = true) : ∃ (i k j : Nat) (f : PFunc) (b : PBlock) (s : PStmt), x.fn = i ∧ x.bl = k ∧ x.st = j ∧ p[i]? = some f ∧ f.blocks[k]? = some b ∧ b.stmts[j]? = some s ∧ stmtP p x = some s := by
  unfold nodesP at hm
  split at hm
  · obtain ⟨i, f, hf, h⟩ := mem_nodes.1 hm
    rcases h with rfl | rfl | ⟨k, b, j, s, hb, hs, h⟩
    · simp [insN] at hi
    · simp [insN] at hi
    · have hx : ∀ q : Int, stmtP p ⟨q, (i : Nat), (k : Nat), (j : Nat)⟩ = some s := fun q => by
        unfold stmtP
        simp [hf, hb, hs]
      rcases h with rfl | ⟨-, rfl⟩
      · exact ⟨i, k, j, f, b, s, rfl, rfl, rfl, hf, hb, hs, hx _⟩
      · exact ⟨i, k, j, f, b, s, rfl, rfl, rfl, hf, hb, hs, hx _⟩
  · cases hm
end Go.Proofs.YtipnhmdibkkifaaGreatDoor
set_option linter.unusedVariables false
set_option linter.unusedSimpArgs false
set_option linter.unusedSectionVars false
namespace Go.Proofs.YtipnhmdibkkifaaGreatDoor
open Go.RowKit
variable [Base]
theorem idxI_first {α : Type} [DecidableEq α] {l : List α} {k : Nat} {x : α} (h : l[k]? = some x) (hn : x ∉ l.take k) : idxI l x = (k : Int) := by
  unfold idxI
  rw [if_pos (List.mem_of_getElem? h), idxOf_take h hn]
end Go.Proofs.YtipnhmdibkkifaaGreatDoor
