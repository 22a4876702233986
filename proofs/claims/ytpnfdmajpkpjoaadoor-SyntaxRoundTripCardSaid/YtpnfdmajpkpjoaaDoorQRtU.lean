/- Walks: the program's Valid of a valid program; its texts; Print and Inline. -/
import Derived.Test.YtpnfdmajpkpjoaaDoorQRtV
import Derived.Test.YtpnfdmajpkpjoaaDoorQRtJ
import Derived.Test.YtpnfdmajpkpjoaaDoorQSParL
import Derived.Test.YtpnfdmajpkpjoaaDoorQTxtN
import Derived.Test.YtpnfdmajpkpjoaaDoorQGenV
set_option linter.unusedVariables false
set_option linter.unusedSimpArgs false
namespace Go.Proofs.YtpnfdmajpkpjoaaDoor
open Go.RowKit

def FalseB (w : World) (e : Ending) (w' : World) : Prop := e = .returned (.bool false) ∧ Below w.heap.size w w'
def NoneB (w : World) (e : Ending) (w' : World) : Prop := e = .returned (.int .i64 (-1)) ∧ Below w.heap.size w w'
theorem valid2_any {B : Nat} {w : World} (kw : KwIn B w) (hB : B ≤ w.heap.size) {s : PStmt} (hs : stmtB s = true) (u t : Value) (hu : StrsAt w u s.uses) (ht : StrsAt w t s.targets) :
    Calls Tryd.prog 74 #[.agg #[.int .i64 s.op, sv s.dfn, u, t]] w (FalseB w) := by
  obtain ⟨ua, uc, rfl, -, -⟩ := hu.cell
  obtain ⟨ta, tc, rfl, -, -⟩ := ht.cell
  have ba := Lib.hid ((Below.refl w.heap.size w).alloc (Nat.le_refl _) (.cells #[.int .i64 s.op, sv s.dfn, .slice ua s.uses.length uc, .slice ta s.targets.length tc] 67))
  have K := Lib.hid (pvalid_any (kw.keep fun k hk => ba.out.block k (by omega)) (by simp; omega) hs _ _ (SliceAt.same hu SameT.alloc : StrsAt (w.alloc (.cells #[.int .i64 s.op, sv s.dfn, .slice ua s.uses.length uc, .slice ta s.targets.length tc] 67)) _ _) (SliceAt.same ht SameT.alloc))
  clear kw hs hu ht
  go_enter Tryd.func74, Tryd.ntmps74
  go_wp2_with fail
  refine K.out.mono ?_
  rintro e w' ⟨rfl, hb⟩
  have HB := Lib.hid (ba.out.trans (hb.mono ba.out.size))
  clear hb ba
  go_wp2
  go_ret
  exact ⟨rfl, HB.out⟩
set_option maxHeartbeats 400000 in
theorem index2_any {B : Nat} {w : World} (kw : KwIn B w) (hB : B ≤ w.heap.size) (l : List PStmt) (hl : ∀ s ∈ l, stmtB s = true) (v : Value) (h : StmtsAt w v l) :
    Calls Tryd.prog 88 #[v, .func (.func 74) #[] #[]] w (NoneB w) := by
  obtain ⟨a, c, rfl, hn, hc⟩ := h.cell
  have HC := Lib.hid hc
  have HA := Lib.hid hl
  have KW := Lib.hid kw
  obtain ⟨n, hl⟩ : ∃ n, l.length = n := ⟨_, rfl⟩
  rw [hl] at hn ⊢
  have HL := Lib.hid hl
  clear hc h hl kw
  unfold maxLen at hn
  go_enter Tryd.func88, Tryd.ntmps88
  go_wp2
  go_loopw [8] (fun x wr => ∃ k : Nat, k ≤ n ∧ x = .int .i64 k ∧ Hid (Below w.heap.size w wr)) (fun x _ => n - (intOf x).toNat)
  case atStart => exact ⟨0, Nat.zero_le _, rfl, Below.refl _ _⟩
  case round =>
    obtain ⟨k, hk, rfl, HB⟩ := hrel
    by_cases hlt : k < n
    · obtain ⟨s, hs⟩ : ∃ s, l[k]? = some s := ⟨_, List.getElem?_eq_getElem (show k < l.length by have := HL.out; omega)⟩
      obtain ⟨jb, joff, su, tu, rfl, hjb, g0, g1, g2, g3, hsu, htu⟩ := HC.out k s hs
      have g0 := (HB.out.cell (p := ⟨jb, joff + k * 4, none⟩) hjb).trans g0
      have g1 := (HB.out.cell (p := ⟨jb, joff + k * 4 + 1, none⟩) hjb).trans g1
      have g2 := (HB.out.cell (p := ⟨jb, joff + k * 4 + 2, none⟩) hjb).trans g2
      have g3 := (HB.out.cell (p := ⟨jb, joff + k * 4 + 3, none⟩) hjb).trans g3
      have K := Lib.hid (valid2_any (KW.out.keep fun q hq => HB.out.block q (by omega)) (by have := HB.out.size; omega) (HA.out s (List.mem_of_getElem? hs)) su tu (SliceAt.same hsu (SameT.below HB.out)) (SliceAt.same htu (SameT.below HB.out)))
      obtain ⟨sua, suc, rfl, -, -⟩ := hsu.cell
      obtain ⟨tua, tuc, rfl, -, -⟩ := htu.cell
      clear hs hsu htu
      go_wp2_with fail
      refine K.out.mono ?_
      rintro e w' ⟨rfl, hb⟩
      have HB2 := Lib.hid (HB.out.trans (hb.mono HB.out.size))
      clear hb K g0 g1 g2 g3
      go_wp2
      go_roundw
      case rel => exact ⟨k + 1, by omega, by go_num, HB2⟩
      case measure => simp [intOf]; omega
    · go_wp2
      go_ret
      exact ⟨rfl, HB.out⟩
theorem contains2_any {B : Nat} {w : World} (kw : KwIn B w) (hB : B ≤ w.heap.size) (l : List PStmt) (hl : ∀ s ∈ l, stmtB s = true) (v : Value) (h : StmtsAt w v l) :
    Calls Tryd.prog 73 #[v, .func (.func 74) #[] #[]] w (FalseB w) := by
  obtain ⟨a, c, rfl, -, -⟩ := h.cell
  have K := Lib.hid (index2_any kw hB l hl _ h)
  clear h kw hl
  go_enter Tryd.func73, Tryd.ntmps73
  go_wp2_with fail
  refine K.out.mono ?_
  rintro e w' ⟨rfl, hb⟩
  have HB := Lib.hid hb
  clear hb K
  go_wp2
  go_ret
  exact ⟨rfl, HB.out⟩
set_option maxRecDepth 100000 in
set_option maxHeartbeats 2000000 in
theorem pValid_any {B : Nat} {w : World} (kw : KwIn B w) (hB : B ≤ w.heap.size) (p : List PFunc) (hv : validB p = true) (v : Value) (h : FuncsAt w v p) :
    Calls Tryd.prog 55 #[.agg #[v]] w (BoolPost true w) := by
  obtain ⟨a, c, rfl, hn, hc⟩ := h.cell
  obtain ⟨hp1, hp8, hfs⟩ := validB_parts hv
  have HC := Lib.hid hc
  have HFS := Lib.hid hfs
  have KW := Lib.hid kw
  obtain ⟨n, hl⟩ : ∃ n, p.length = n := ⟨_, rfl⟩
  rw [hl] at hn hp1 hp8 ⊢
  have HL := Lib.hid hl
  have IZ := Lib.hid (fun (w' : World) (s : Str) (hb : Below w.heap.size w w') => isname_any ⟨s.toArray⟩ w' (KW.out.at_ (hb.mono hB)))
  have I0 := Lib.hid ((Below.refl w.heap.size w).alloc (Nat.le_refl _) (.cells #[.slice a n c] 34))
  clear hc h hl hn hv hfs kw
  go_enter Tryd.func55, Tryd.ntmps55
  go_wp2
  go_loopw [20] (fun x wr => ∃ i : Nat, i ≤ n ∧ x = .int .i64 i ∧ Hid (Below w.heap.size w wr)) (fun x _ => n - (intOf x).toNat)
  case atStart => exact ⟨0, Nat.zero_le _, rfl, I0⟩
  case round =>
    obtain ⟨i, hi, rfl, HB⟩ := hrel
    clear I0
    by_cases hlt : i < n
    · obtain ⟨f, hf⟩ : ∃ f, p[i]? = some f := ⟨_, List.getElem?_eq_getElem (show i < p.length by have := HL.out; omega)⟩
      obtain ⟨fb, off, bv, rfl, hfb, g0, g1, hbl⟩ := HC.out i f hf
      obtain ⟨hfn, hf1, hf16, hfbs⟩ := funcB_parts (HFS.out f (List.mem_of_getElem? hf))
      have g0 := (HB.out.cell (p := ⟨fb, off + i * 2, none⟩) hfb).trans g0
      have g1 := (HB.out.cell (p := ⟨fb, off + i * 2 + 1, none⟩) hfb).trans g1
      obtain ⟨ba, bc, rfl, hbn, hbc⟩ := hbl.cell
      have HBC := Lib.hid hbc
      have HFN := Lib.hid hfn
      have HFBS := Lib.hid hfbs
      obtain ⟨bn, hbl2⟩ : ∃ n, f.blocks.length = n := ⟨_, rfl⟩
      rw [hbl2] at hbn g1 hf1 hf16
      unfold maxLen at hbn
      have HBL := Lib.hid hbl2
      have hfw : fb < wr.heap.size := Nat.lt_of_lt_of_le hfb HB.out.size
      have hbx := heap_alloc_new wr (.cells #[sv f.name, .slice ba bn bc] 50)
      have x0 := (blk_cells hbx).1 0
      have x1 := (blk_cells hbx).1 1
      simp at x0 x1
      have HB1 := Lib.hid (HB.out.alloc HB.out.size (.cells #[sv f.name, .slice ba bn bc] 50))
      clear hf hbl hbc hbl2 hbx hfn hfbs HB
      go_wp2_with fail
      refine (IZ.out _ f.name HB1.out).mono ?_
      rintro e w2 ⟨rfl, k2, rfl⟩
      rw [show nameB (ByteArray.mk f.name.toArray).data.toList = true from HFN.out]
      have HB2 := Lib.hid (below_drewN HB1.out k2)
      clear HB1
      go_wp2
      clear g0 g1 x0 x1
      obtain ⟨wo, hwo⟩ : ∃ wo : World, (wr.alloc (.cells #[sv f.name, .slice ba bn bc] 50)).drewN k2 = wo := ⟨_, rfl⟩
      rw [hwo] at HB2
      rw [show (wr.alloc (.cells #[sv f.name, .slice ba bn bc] 50)).drewN k2 = wo from hwo]
      clear hwo
      go_loopw [43] (fun x wi => ∃ k : Nat, k ≤ bn ∧ x = .int .i64 k ∧ Hid (Below w.heap.size w wi)) (fun x _ => bn - (intOf x).toNat)
      case atStart => exact ⟨0, Nat.zero_le _, rfl, HB2⟩
      case round =>
        obtain ⟨k, hk, rfl, HB⟩ := hrel
        clear HB2
        by_cases hlt2 : k < bn
        · obtain ⟨b, hb⟩ : ∃ b, f.blocks[k]? = some b := ⟨_, List.getElem?_eq_getElem (show k < f.blocks.length by have := HBL.out; omega)⟩
          obtain ⟨kb, koff, sv1, rfl, hkb, k0, k1, hsl⟩ := HBC.out k b hb
          obtain ⟨hbn2, hb1, hb32, hbss⟩ := blockB_parts (HFBS.out b (List.mem_of_getElem? hb))
          have k0 := (HB.out.cell (p := ⟨kb, koff + k * 2, none⟩) hkb).trans k0
          have k1 := (HB.out.cell (p := ⟨kb, koff + k * 2 + 1, none⟩) hkb).trans k1
          obtain ⟨sa, sc, rfl, hsn, _⟩ := hsl.cell
          have HBN := Lib.hid hbn2
          have HBS := Lib.hid hbss
          obtain ⟨sn, hsl2⟩ : ∃ n, b.stmts.length = n := ⟨_, rfl⟩
          rw [hsl2] at hsn k1 hb1 hb32 hsl
          unfold maxLen at hsn
          have hkw : kb < wr.heap.size := Nat.lt_of_lt_of_le hkb HB.out.size
          have hbx := heap_alloc_new wr (.cells #[sv b.name, .slice sa sn sc] 53)
          have x0 := (blk_cells hbx).1 0
          have x1 := (blk_cells hbx).1 1
          simp at x0 x1
          have HB1 := Lib.hid (HB.out.alloc HB.out.size (.cells #[sv b.name, .slice sa sn sc] 53))
          have CK := Lib.hid (fun k => contains2_any (B := B) (w := (wr.alloc (.cells #[sv b.name, .slice sa sn sc] 53)).drewN k) (KW.out.keep fun q hq => HB1.out.block q (by omega)) (by have := HB1.out.size; exact Nat.le_trans hB this) b.stmts HBS.out (.slice sa sn sc) (StmtsAt.keep (SameT.below HB1.out) (SameT.below HB1.out) hsl))
          clear hb hsl hsl2 hbx hbn2 hbss HB
          go_wp2_with fail
          refine (IZ.out _ b.name HB1.out).mono ?_
          rintro e w3 ⟨rfl, k3, rfl⟩
          rw [show nameB (ByteArray.mk b.name.toArray).data.toList = true from HBN.out]
          go_wp2_with fail
          refine (CK.out k3).mono ?_
          rintro e w4 ⟨rfl, b4⟩
          have HB4 := Lib.hid ((below_drewN HB1.out k3).trans (b4.mono HB1.out.size))
          clear b4 CK HB1 k0 k1 x0 x1
          go_wp2
          go_roundw
          case rel => exact ⟨k + 1, by omega, by go_num, HB4⟩
          case measure => simp [intOf]; omega
        · go_wp2
          go_roundw
          case rel => exact ⟨i + 1, by omega, by go_num, HB⟩
          case measure => simp [intOf]; omega
    · go_wp2
      go_ret
      exact ⟨rfl, HB.out⟩
end Go.Proofs.YtpnfdmajpkpjoaaDoor

/- The walk of the law on spoiled texts. -/
namespace Go.Proofs.YtpnfdmajpkpjoaaDoor
open Go.RowKit

theorem cells_at {w : World} {la : Option Addr} {m lc : Nat} {ls : List Str} (h : StrsAt w (.slice la m lc) ls) (hm : ls.length = m) (k : Nat) (s : Str) (hs : ls[k]? = some s) :
    ∃ b off, la = some ⟨b, off, none⟩ ∧ b < w.heap.size ∧ w.cell? ⟨b, off + k, none⟩ = some (sv s) := by
  obtain ⟨a', c', ea, _, hc⟩ := h.cell
  injection ea with ea _ _
  subst ea
  exact hc k s hs
set_option maxHeartbeats 2000000 in
theorem spoilsLaw_any (w0 : World) (a : Option Addr) (n c : Nat) (hn : n ≤ maxLen)
    (h : ∀ j : Nat, j < n → ∃ b off z, a = some ⟨b, off, none⟩ ∧ b < w0.heap.size ∧ w0.cell? ⟨b, off + j, none⟩ = some (.int .i64 z)) (KW : KwIn w0.heap.size w0) :
    Calls Tryd.prog 5 #[.slice a n c] w0 (BoolPost true w0) := by
  have H := Lib.hid h
  have K := Lib.hid KW
  clear h KW
  go_enter Tryd.func5, Tryd.ntmps5
  go_wp2_with fail
  refine (new_any rfl a n c hn H.out).mono ?_
  rintro e w1 ⟨rfl, ht, hb⟩
  have M : Hid (Mid w0 w1) := ⟨ht, hb⟩
  clear ht hb
  go_wp2_with fail
  refine (program_any M.out.tape).mono ?_
  rintro e w2 ⟨p, v, hgp, rfl, hf, t2, b2⟩
  have HV := gen_valid hgp
  obtain ⟨pa, pn, pc, rfl⟩ := valid_cells hf
  have M2 := Lib.hid (M.out.next t2 b2)
  have LNS := Lib.hid (lines_any p _ _ hf HV)
  have hp1 := (validB_parts HV).1
  have hln := linesT_len HV
  have EACH := Lib.hid (linesT_each HV)
  have hl1 : 1 ≤ (linesT p).length := by
    cases p with
    | nil => simp at hp1
    | cons f p => simp [linesT, funcLines]
  clear hgp hf t2 b2 M HV hp1
  go_wp2_with fail
  refine LNS.out.mono ?_
  rintro e w3 ⟨lv, rfl, hl, b3⟩
  have M3 := Lib.hid (M2.out.trans b3)
  obtain ⟨la, lc, rfl, hlm, _⟩ := hl.cell
  have HL := Lib.hid hl
  clear b3 M2 LNS hl hlm
  obtain ⟨ls, hls⟩ : ∃ x, linesT p = x := ⟨_, rfl⟩
  rw [hls] at HL EACH hln hl1 ⊢
  clear hls
  obtain ⟨m, hm⟩ : ∃ x, ls.length = x := ⟨_, rfl⟩
  rw [hm] at HL hln hl1 ⊢
  have HM := Lib.hid hm
  clear hm
  go_wp2
  go_loopw [5] (fun v wr => ∃ k : Nat, k ≤ 4 ∧ v = .int .i64 k ∧ Hid (Mid w0 wr) ∧ Hid (StrsAt wr (.slice la m lc) ls)) (fun v _ => 4 - (intOf v).toNat)
  case atStart => exact ⟨0, by omega, rfl, M3, HL⟩
  case round =>
    obtain ⟨k, hk, rfl, M, HL⟩ := hrel
    clear M3
    by_cases hlt : k < 4
    · go_wp2_with fail
      refine (next_any M.out.tape m (by omega)).mono ?_
      rintro e w4 ⟨r, r0, r1, rfl, t4, b4⟩
      have M4 := Lib.hid (M.out.next t4 b4)
      have HL4 := Lib.hid (SliceAt.same HL.out (SameT.but b4 (by rw [M.out.tape.ty]; decide)))
      clear t4 b4 M HL
      go_wp2_with fail
      refine (next_any M4.out.tape 2 (by omega)).mono ?_
      rintro e w5 ⟨q, q0, q1, rfl, t5, b5⟩
      have M5 := Lib.hid (M4.out.next t5 b5)
      have HL5 := Lib.hid (SliceAt.same HL4.out (SameT.but b5 (by rw [M4.out.tape.ty]; decide)))
      clear t5 b5 M4 HL4
      have hq : q = 0 ∨ q = 1 := by omega
      clear q0 q1
      rcases hq with rfl | rfl
      · skip
        go_wp2
        obtain ⟨wo, rfl⟩ : ∃ wo : World, wo = w5 := ⟨_, rfl⟩
        go_loopw [8, 9] (fun x v wi => ∃ (xs : ByteArray) (j : Nat), j ≤ m ∧ x = .string xs ∧ v = .int .i64 j ∧ xs.size ≤ 402 * j ∧ Hid (Mid w0 wi) ∧ Hid (StrsAt wi (.slice la m lc) ls)) (fun _ v _ => m - (intOf v).toNat)
        case atStart => exact ⟨_, 0, by omega, rfl, rfl, by decide, M5, HL5⟩
        case round =>
          obtain ⟨xs, j, hj, rfl, rfl, hx, M, HL⟩ := hrel
          clear M5 HL5
          by_cases hlt2 : j < m
          · obtain ⟨t, ht⟩ : ∃ t, ls[j]? = some t := ⟨_, List.getElem?_eq_getElem (show j < ls.length by have := HM.out; omega)⟩
            obtain ⟨b, off, eb, hb, g⟩ := cells_at HL.out HM.out j t ht
            subst eb
            have htl := EACH.out t (List.mem_of_getElem? ht)
            have hts : (ByteArray.mk t.toArray).size = t.length := by show t.toArray.size = _; simp
            clear ht
            by_cases hjr : (j : Int) = r
            · have e1 : ((j : Int) != r) = false := by rw [bne_eq_false_iff_eq]; exact hjr
              have e2 : ((j : Int) == r) = true := by rw [beq_iff_eq]; exact hjr
              clear hjr
              go_wp2
              go_roundw
              case rel => exact ⟨xs, j + 1, by omega, rfl, by go_num, by omega, M, HL⟩
              case measure => simp [intOf]; omega
            · have e1 : ((j : Int) != r) = true := by rw [bne_iff_ne]; exact hjr
              have e2 : ((j : Int) == r) = false := by rw [beq_eq_false_iff_ne]; exact hjr
              clear hjr
              go_wp2
              go_roundw
              case rel => exact ⟨_, j + 1, by omega, rfl, by go_num, by rw [append_size', append_size', show (ByteArray.mk #[59]).size = 1 from rfl]; omega, M, HL⟩
              case measure => simp [intOf]; omega
          · go_wp2_with fail
            refine (M.out.parses K.out xs).mono ?_
            rintro e w6 ⟨rfl, hb6⟩
            have M6 := Lib.hid (M.out.trans hb6)
            have HL6 := Lib.hid (SliceAt.same HL.out (SameT.below hb6))
            clear hb6 M HL
            go_wp2
            go_roundw
            case rel => exact ⟨k + 1, by omega, by go_num, M6, HL6⟩
            case measure => simp [intOf]; omega
      · skip
        go_wp2
        obtain ⟨wo, rfl⟩ : ∃ wo : World, wo = w5 := ⟨_, rfl⟩
        go_loopw [8, 9] (fun x v wi => ∃ (xs : ByteArray) (j : Nat), j ≤ m ∧ x = .string xs ∧ v = .int .i64 j ∧ xs.size ≤ 402 * j ∧ Hid (Mid w0 wi) ∧ Hid (StrsAt wi (.slice la m lc) ls)) (fun _ v _ => m - (intOf v).toNat)
        case atStart => exact ⟨_, 0, by omega, rfl, rfl, by decide, M5, HL5⟩
        case round =>
          obtain ⟨xs, j, hj, rfl, rfl, hx, M, HL⟩ := hrel
          clear M5 HL5
          by_cases hlt2 : j < m
          · obtain ⟨t, ht⟩ : ∃ t, ls[j]? = some t := ⟨_, List.getElem?_eq_getElem (show j < ls.length by have := HM.out; omega)⟩
            obtain ⟨b, off, eb, hb, g⟩ := cells_at HL.out HM.out j t ht
            subst eb
            have htl := EACH.out t (List.mem_of_getElem? ht)
            have hts : (ByteArray.mk t.toArray).size = t.length := by show t.toArray.size = _; simp
            clear ht
            by_cases hjr : (j : Int) = r
            · have e1 : ((j : Int) != r) = false := by rw [bne_eq_false_iff_eq]; exact hjr
              have e2 : ((j : Int) == r) = true := by rw [beq_iff_eq]; exact hjr
              clear hjr
              go_wp2_with fail
              refine (next_any M.out.tape m (by omega)).mono ?_
              rintro e w6 ⟨r2, s0, s1, rfl, t6, b6⟩
              have M6 := Lib.hid (M.out.next t6 b6)
              have HL6 := Lib.hid (SliceAt.same HL.out (SameT.but b6 (by rw [M.out.tape.ty]; decide)))
              obtain ⟨j2, rfl⟩ := Int.eq_ofNat_of_zero_le s0
              have hj2 : j2 < m := by omega
              obtain ⟨t2, ht2⟩ : ∃ t, ls[j2]? = some t := ⟨_, List.getElem?_eq_getElem (show j2 < ls.length by have := HM.out; omega)⟩
              obtain ⟨b', off', eb, hb', g2⟩ := cells_at HL6.out HM.out j2 t2 ht2
              injection eb with eb
              injection eb with eb1 eb2
              subst eb1 eb2
              have htl2 := EACH.out t2 (List.mem_of_getElem? ht2)
              have hts2 : (ByteArray.mk t2.toArray).size = t2.length := by show t2.toArray.size = _; simp
              clear ht2 t6 b6 M HL s0 s1
              go_wp2
              go_roundw
              case rel => exact ⟨_, j + 1, by omega, rfl, by go_num, by rw [append_size', append_size', append_size', append_size', show (ByteArray.mk #[10]).size = 1 from rfl, show (ByteArray.mk #[59]).size = 1 from rfl]; omega, M6, HL6⟩
              case measure => simp [intOf]; omega
            · have e1 : ((j : Int) != r) = true := by rw [bne_iff_ne]; exact hjr
              have e2 : ((j : Int) == r) = false := by rw [beq_eq_false_iff_ne]; exact hjr
              clear hjr
              go_wp2
              go_roundw
              case rel => exact ⟨_, j + 1, by omega, rfl, by go_num, by rw [append_size', append_size', show (ByteArray.mk #[59]).size = 1 from rfl]; omega, M, HL⟩
              case measure => simp [intOf]; omega
          · go_wp2_with fail
            refine (M.out.parses K.out xs).mono ?_
            rintro e w6 ⟨rfl, hb6⟩
            have M6 := Lib.hid (M.out.trans hb6)
            have HL6 := Lib.hid (SliceAt.same HL.out (SameT.below hb6))
            clear hb6 M HL
            go_wp2
            go_roundw
            case rel => exact ⟨k + 1, by omega, by go_num, M6, HL6⟩
            case measure => simp [intOf]; omega
    · go_wp2_with fail
      refine (M.out.sane K.out).mono ?_
      rintro e w8 ⟨rfl, hb8⟩
      have M8 := Lib.hid (M.out.trans hb8)
      clear hb8 M
      go_wp2
      go_ret
      exact ⟨rfl, M8.out.below⟩
end Go.Proofs.YtpnfdmajpkpjoaaDoor

/- Walks: the program's texts of a valid program; Inline and Print. -/
namespace Go.Proofs.YtpnfdmajpkpjoaaDoor
open Go.RowKit

theorem joinT_eq (l : List Str) : Lib.join l [59, 32] = joinT l := by
  cases l with
  | nil => rfl
  | cons x r => rw [Lib.join_cons]; rfl
set_option maxHeartbeats 400000 in
theorem texts_any {B : Nat} {w : World} (kw : KwIn B w) (hB : B ≤ w.heap.size) (p : List PFunc) (hv : validB p = true) (v : Value) (h : FuncsAt w v p) :
    Calls Tryd.prog 33 #[.agg #[v]] w (StrsQ (linesT p) w) := by
  obtain ⟨a, c, rfl, -, -⟩ := h.cell
  obtain ⟨n, hn⟩ : ∃ n, p.length = n := ⟨_, rfl⟩
  rw [hn] at h ⊢
  clear hn
  have B0 := Lib.hid ((Below.refl w.heap.size w).alloc (Nat.le_refl _) (.cells #[.slice a n c] 34))
  have b0 := heap_alloc_new w (.cells #[.slice a n c] 34)
  have F0 := Lib.hid (h.below B0.out)
  have K0 := Lib.hid (kw.keep fun k hk => B0.out.block k (by omega))
  obtain ⟨w0, hw0⟩ : ∃ x, w.alloc (.cells #[.slice a n c] 34) = x := ⟨_, rfl⟩
  have hz0 : w0.heap.size = w.heap.size + 1 := by rw [← hw0]; simp
  rw [hw0] at B0 b0 F0 K0
  have HW0 := Lib.hid hw0
  have HB0 := Lib.hid b0
  have HZ0 := Lib.hid hz0
  have bo := heap_alloc_new w0 (.cells #[.slice none 0 0] 39)
  have B1 := Lib.hid ((Below.refl w0.heap.size w0).alloc (Nat.le_refl _) (.cells #[.slice none 0 0] 39))
  rw [hz0] at bo
  have HBO := Lib.hid bo
  have PV := Lib.hid (pValid_any (w := w0.alloc (.cells #[.slice none 0 0] 39)) (K0.out.keep fun k hk => B1.out.block k (by omega)) (by simp; omega) p hv (.slice a n c) (F0.out.below B1.out))
  have hlt1 : w.heap.size + 1 < (w0.alloc (.cells #[.slice none 0 0] 39)).heap.size := lt_heap bo
  have HL1 := Lib.hid hlt1
  have c0 : (w0.alloc (.cells #[.slice none 0 0] 39)).cell? ⟨w.heap.size, 0, none⟩ = some (.slice a n c) := by
    have h1 := (blk_cells (alloc_blk (.cells #[.slice none 0 0] 39) b0)).1 0
    simpa using h1
  clear h kw hw0 b0 hz0 bo hlt1
  go_enter Tryd.func33, Tryd.ntmps33
  go_wp2_with fail
  rw [show w.alloc (.cells #[.slice a n c] 34) = w0 from HW0.out]
  refine PV.out.mono ?_
  rintro e w2 ⟨rfl, b2⟩
  have B2 := Lib.hid (B1.out.trans (b2.mono B1.out.size))
  have hz := HZ0.out
  have T : Hid (TxIn w0 (w.heap.size + 1) [] w2) := ⟨by rw [← hz]; exact B2.out, none, 0, (b2.block _ HL1.out).trans HBO.out, World.ownsRow_nil _ _ _ _⟩
  have c0 := (blk_cells ((b2.block _ (by have := HL1.out; omega)).trans (alloc_blk (.cells #[.slice none 0 0] 39) HB0.out))).1 0
  have PL := Lib.hid (plines_any p (.slice a n c) F0.out hv (by omega) T.out)
  simp at c0
  clear b2 hz PV T
  go_wp2_with fail
  refine PL.out.mono ?_
  rintro e w3 ⟨rfl, tx⟩
  obtain ⟨ta, tc, h1, h2⟩ := tx.out
  have c1 := (blk_cells h1).1 0
  have OW := Lib.hid h2
  have BL := Lib.hid tx.below
  obtain ⟨ls, hls⟩ : ∃ ls, linesT p = ls := ⟨_, rfl⟩
  rw [hls] at c1 OW
  have HLS := Lib.hid hls
  simp at c1
  clear h1 h2 tx c0 PL hls
  go_wp2
  go_ret
  exact ⟨ta, tc, by rw [HLS.out]; rfl, by rw [HLS.out]; exact SliceAt.of_owns OW.out, B0.out.trans (BL.out.mono (by omega))⟩
theorem pinline_any {B : Nat} {w : World} (kw : KwIn B w) (hB : B ≤ w.heap.size) (p : List PFunc) (hv : validB p = true) (v : Value) (h : FuncsAt w v p) :
    Calls Tryd.prog 18 #[.agg #[v]] w (StrQ (inlineT p) w) := by
  obtain ⟨a, c, rfl, -, -⟩ := h.cell
  obtain ⟨n, hn⟩ : ∃ n, p.length = n := ⟨_, rfl⟩
  rw [hn] at h ⊢
  have B0 := Lib.hid ((Below.refl w.heap.size w).alloc (Nat.le_refl _) (.cells #[.slice a n c] 34))
  have TX := Lib.hid (texts_any (w := w.alloc (.cells #[.slice a n c] 34)) (kw.keep fun k hk => B0.out.block k (by omega)) (by simp; omega) p hv (.slice a n c) (h.below B0.out))
  have E : Hid (Lib.join (linesT p) [59, 32] = inlineT p) := by unfold Hid inlineT; rw [joinT_eq, hv]; rfl
  have hm := inlineT_max p
  have hl := linesT_len hv
  clear h kw hn hv
  go_enter Tryd.func18, Tryd.ntmps18
  go_wp2_with fail
  refine TX.out.mono ?_
  rintro e w2 ⟨ta, tc, rfl, ts, b2⟩
  have B2 := Lib.hid (B0.out.trans (b2.mono B0.out.size))
  have J := Lib.hid (join_any (linesT p) [59, 32] ta _ tc w2 rfl (by omega) ts (by rw [E.out]; omega))
  rw [E.out] at J
  obtain ⟨ls, hls⟩ : ∃ ls, linesT p = ls := ⟨_, rfl⟩
  rw [hls] at J ⊢
  clear ts b2 TX
  go_wp2_with fail
  refine J.out.mono ?_
  rintro e w3 ⟨rfl, b3⟩
  have B3 := Lib.hid (B2.out.trans (b3.mono B2.out.size))
  clear b3 J E hls
  go_wp2
  go_ret
  exact ⟨rfl, B3.out⟩
theorem others_strs {w w' : World} {b : Nat} {v0 v1 : Value} (hb : w.heap[b]? = some (.cells #[v0, v1] 73 (0, 0))) (h : Lib.OthersKept 5 (some b) w w') : SameT 9 w w' := fun k c fr hk => by
  refine h k _ hk ?_ ?_
  · intro e
    injection e with e
    subst e
    rw [hb] at hk
    injection hk with hk
    injection hk with _ hk _
    exact absurd hk (by decide)
  · intro c' fz e
    injection e with _ e _
    exact absurd e (by decide)
theorem isBuilder_blk {B b : Nat} {bs : List Value} {w : World} (h : Lib.IsBuilderF 73 5 B b bs w) : ∃ v0 v1, w.heap[b]? = some (.cells #[v0, v1] 73 (0, 0)) := by
  rcases h with ⟨_, v, hb, _⟩ | ⟨_, v, hb, _⟩ <;> exact ⟨_, _, hb⟩
theorem cat_step (l : List Str) (k : Nat) (t : Str) (h : l[k]? = some t) : ((l.take (k + 1)).map fun x => x ++ [10]).flatten = ((l.take k).map fun x => x ++ [10]).flatten ++ (t ++ [10]) := by
  obtain ⟨h1, rfl⟩ := List.getElem?_eq_some_iff.1 h
  rw [List.take_succ_eq_append_getElem h1, List.map_append, List.flatten_append]
  simp
set_option maxHeartbeats 1000000 in
theorem pprint_any {B : Nat} {w : World} (kw : KwIn B w) (hB : B ≤ w.heap.size) (p : List PFunc) (hv : validB p = true) (v : Value) (h : FuncsAt w v p) :
    Calls Tryd.prog 17 #[.agg #[v]] w (StrQ (printT p) w) := by
  obtain ⟨a, c, rfl, -, -⟩ := h.cell
  obtain ⟨n, hn⟩ : ∃ n, p.length = n := ⟨_, rfl⟩
  rw [hn] at h ⊢
  have B0 := Lib.hid (((Below.refl w.heap.size w).alloc (Nat.le_refl _) (.cells #[.slice a n c] 34)).alloc (by simp) (.cells #[.pointer none, .slice none 0 0] 73))
  have TX := Lib.hid (texts_any (w := (w.alloc (.cells #[.slice a n c] 34)).alloc (.cells #[.pointer none, .slice none 0 0] 73)) (kw.keep fun k hk => B0.out.block k (by omega)) (by simp; omega) p hv (.slice a n c) (h.below B0.out))
  have bx : Hid (((w.alloc (.cells #[.slice a n c] 34)).alloc (.cells #[.pointer none, .slice none 0 0] 73)).heap[w.heap.size + 1]? = some (.cells #[.pointer none, .slice none 0 0] 73 (0, 0))) := by
    have h2 := heap_alloc_new (w.alloc (.cells #[.slice a n c] 34)) (.cells #[.pointer none, .slice none 0 0] 73)
    rw [World.size_alloc] at h2
    exact h2
  have E : Hid (printT p = ((linesT p).map fun x => x ++ [10]).flatten) := by unfold Hid printT; rw [hv]; rfl
  have EA := Lib.hid (linesT_each hv)
  have hl := linesT_len hv
  clear h kw hn hv
  go_enter Tryd.func17, Tryd.ntmps17
  go_wp2_with fail
  refine TX.out.mono ?_
  rintro e w2 ⟨ta, tc, rfl, ts, b2⟩
  have B2 := Lib.hid (B0.out.trans (b2.mono B0.out.size))
  have hb2 := (b2.block _ (lt_heap bx.out)).trans bx.out
  have hz2 : w.heap.size + 1 < w2.heap.size := lt_heap hb2
  have IB : Hid (Lib.IsBuilderF 73 5 (w.heap.size + 1) (w.heap.size + 1) [] w2) := Or.inl (Lib.BuilderAtF.of ⟨Nat.le_refl _, _, hb2, World.ownsRow_nil _ _ _ _, by simp [Value.ownBlock]⟩)
  obtain ⟨ls, hls⟩ : ∃ ls, linesT p = ls := ⟨_, rfl⟩
  rw [hls] at ts hl E EA ⊢
  obtain ⟨m, hm⟩ : ∃ m, ls.length = m := ⟨_, rfl⟩
  rw [hm] at ts hl ⊢
  have TS := Lib.hid ts
  have HM := Lib.hid hm
  clear ts b2 TX hls hm hb2 bx
  go_wp2
  go_loopw [9] (fun x wr => ∃ k : Nat, k ≤ m ∧ x = .int .i64 k ∧ Hid (Lib.IsBuilderF 73 5 (w.heap.size + 1) (w.heap.size + 1) (Lib.byteCells ((ls.take k).map fun x => x ++ [10]).flatten) wr) ∧ Hid (StrsAt wr (.slice ta m tc) ls) ∧ Hid (Below w.heap.size w wr) ∧ w.heap.size + 1 < wr.heap.size) (fun x _ => m - (intOf x).toNat)
  case atStart => exact ⟨0, Nat.zero_le _, rfl, IB, TS, B2, hz2⟩
  case round =>
    obtain ⟨k, hk, rfl, IB, TS, HB, hz⟩ := hrel
    clear B2 hz2
    have hcat : (((ls.take k).map fun x => x ++ [10]).flatten).length ≤ 4240 * 201 := by
      have h3 := flat_len (fun x : Str => x ++ [10]) 201 (ls.take k) (fun x hx => by have := EA.out x (List.mem_of_mem_take hx); simp; omega)
      have h4 : (ls.take k).length ≤ 4240 := by have := List.length_take_le k ls; omega
      exact Nat.le_trans h3 (Nat.mul_le_mul_right 201 h4)
    by_cases hlt : k < m
    · obtain ⟨t, ht⟩ : ∃ t, ls[k]? = some t := ⟨_, List.getElem?_eq_getElem (show k < ls.length by have := HM.out; omega)⟩
      obtain ⟨b1, o1, rfl, _, g1⟩ := cells_at TS.out HM.out k t ht
      have htl := EA.out t (List.mem_of_getElem? ht)
      have hts : (ByteArray.mk t.toArray ++ ⟨#[10]⟩).size = t.length + 1 := by rw [append_size']; show t.toArray.size + 1 = _; simp
      have ES := Lib.hid (cat_step ls k t ht)
      have WK := Lib.hid (Tryd.Builder_WriteString_k (w.heap.size + 1) (w.heap.size + 1) _ (ByteArray.mk t.toArray ++ ⟨#[10]⟩) wr IB.out (by rw [Lib.byteCells_length, hts]; omega) (by omega))
      clear ht
      go_wp2_with fail
      refine WK.out.mono ?_
      rintro e w3 ⟨rfl, bk, b3, ok⟩
      obtain ⟨v0, v1, hbb⟩ := isBuilder_blk IB.out
      have TS3 := Lib.hid (SliceAt.same TS.out (others_strs hbb ok))
      have HB3 := Lib.hid (HB.out.trans (b3.mono (Nat.le_succ _)))
      have hz3 : w.heap.size + 1 < w3.heap.size := Nat.lt_of_lt_of_le hz b3.size
      have IB3 : Hid (Lib.IsBuilderF 73 5 (w.heap.size + 1) (w.heap.size + 1) (Lib.byteCells ((ls.take (k + 1)).map fun x => x ++ [10]).flatten) w3) := by
        unfold Hid
        rw [ES.out]
        refine Or.inr ?_
        have e : Lib.byteCells (((ls.take k).map fun x => x ++ [10]).flatten ++ (t ++ [10])) = Lib.byteCells ((ls.take k).map fun x => x ++ [10]).flatten ++ Lib.strCells (ByteArray.mk t.toArray ++ ⟨#[10]⟩) := by
          simp [Lib.byteCells, Lib.strCells]
        rw [e]
        exact bk
      clear bk b3 ok hbb WK IB TS HB g1
      go_wp2
      go_roundw
      case rel => exact ⟨k + 1, by omega, by go_num, IB3, TS3, HB3, hz3⟩
      case measure => simp [intOf]; omega
    · have hkm : k = m := by omega
      have E2 : Hid (((ls.take k).map fun x => x ++ [10]).flatten = printT p) := by unfold Hid; rw [E.out, List.take_of_length_le (by have := HM.out; omega)]
      have IB2 := IB.out
      rw [E2.out] at IB2
      have SK := Lib.hid (Tryd.Builder_String_any_k (w.heap.size + 1) (w.heap.size + 1) (printT p) wr IB2 (by omega))
      clear IB2 IB TS hkm
      go_wp2_with fail
      refine SK.out.mono ?_
      rintro e w3 ⟨rfl, _, b3, _⟩
      have HB3 := Lib.hid (HB.out.trans (b3.mono (Nat.le_succ _)))
      clear b3 SK HB
      go_wp2
      go_ret
      exact ⟨rfl, HB3.out⟩
end Go.Proofs.YtpnfdmajpkpjoaaDoor

/- The walk of the law on round trips. -/
namespace Go.Proofs.YtpnfdmajpkpjoaaDoor
open Go.RowKit

theorem parse_back {B : Nat} {w : World} (kw : KwIn B w) (hB : B ≤ w.heap.size) (s : Str) {p : List PFunc} (h : parsed s = ⟨p, 0, 0, 0⟩) :
    Calls Tryd.prog 13 #[sv s] w (PaPost w ⟨p, 0, 0, 0⟩) := by
  have h2 := parse_any kw hB ⟨s.toArray⟩
  rw [show (ByteArray.mk s.toArray).data.toList = s from rfl, h] at h2
  exact h2
/-- A program in a box. -/
structure RtIn (w0 : World) (X : Nat) (pv : Value) (p : List PFunc) (w : World) : Prop where
  mid : Mid w0 w
  box : w.heap[X]? = some (.cells #[pv] 34 (0, 0))
  fn : FuncsAt w pv p
theorem RtIn.keep {w0 w w' : World} {X : Nat} {pv : Value} {p : List PFunc} (h : RtIn w0 X pv p w) (hb : Below w.heap.size w w') : RtIn w0 X pv p w' :=
  ⟨h.mid.trans hb, (hb.block X (lt_heap h.box)).trans h.box, h.fn.below hb⟩
theorem RtIn.cell {w0 w : World} {X : Nat} {pv : Value} {p : List PFunc} (h : RtIn w0 X pv p w) : w.cell? ⟨X, 0, none⟩ = some pv := by
  have := (blk_cells h.box).1 0
  simpa using this
theorem RtIn.new {w0 w : World} {pv : Value} {p : List PFunc} (h : Mid w0 w) (hf : FuncsAt w pv p) : RtIn w0 w.heap.size pv p (w.alloc (.cells #[pv] 34)) :=
  ⟨h.alloc _, heap_alloc_new _ _, hf.below ((Below.refl _ _).alloc (Nat.le_refl _) _)⟩
set_option maxHeartbeats 1000000 in
theorem roundTripLaw_any (w0 : World) (a : Option Addr) (n c : Nat) (hn : n ≤ maxLen)
    (h : ∀ j : Nat, j < n → ∃ b off z, a = some ⟨b, off, none⟩ ∧ b < w0.heap.size ∧ w0.cell? ⟨b, off + j, none⟩ = some (.int .i64 z)) (KW : KwIn w0.heap.size w0) :
    Calls Tryd.prog 6 #[.slice a n c] w0 (BoolPost true w0) := by
  have H := Lib.hid h
  have K := Lib.hid KW
  clear h KW
  go_enter Tryd.func6, Tryd.ntmps6
  go_wp2_with fail
  refine (new_any rfl a n c hn H.out).mono ?_
  rintro e w1 ⟨rfl, ht, hb⟩
  have M : Hid (Mid w0 w1) := ⟨ht, hb⟩
  clear ht hb
  go_wp2_with fail
  refine (program_any M.out.tape).mono ?_
  rintro e w2 ⟨p, v, hgp, rfl, hf, t2, b2⟩
  have HV := Lib.hid (gen_valid hgp)
  have PP := Lib.hid (parsed_print hgp)
  have PI := Lib.hid (parsed_inline hgp)
  obtain ⟨pa, pc, rfl, -, -⟩ := hf.cell
  obtain ⟨pn, hpn⟩ : ∃ k, p.length = k := ⟨_, rfl⟩
  rw [hpn] at hf ⊢
  have HPN := Lib.hid hpn
  have R3 := Lib.hid (RtIn.new (M.out.next t2 b2) hf)
  have KIN := Lib.hid (fun (w : World) (h : Mid w0 w) => K.out.keep fun k hk => h.below.block k hk)
  obtain ⟨X3, hX3⟩ : ∃ X, w2.heap.size = X := ⟨_, rfl⟩
  have hX0 : w0.heap.size ≤ X3 := by rw [← hX3]; exact (M.out.next t2 b2).below.size
  rw [hX3] at R3
  have q3 := R3.out.cell
  have PR := Lib.hid (pprint_any (KIN.out _ R3.out.mid) R3.out.mid.below.size p HV.out _ R3.out.fn)
  clear hgp hf t2 b2 M hpn
  go_wp2_with fail
  clear hX3
  refine PR.out.mono ?_
  rintro e w4 ⟨rfl, b4⟩
  have R4 := Lib.hid (R3.out.keep b4)
  have PA := Lib.hid (parse_back (KIN.out _ R4.out.mid) R4.out.mid.below.size _ PP.out)
  clear b4 R3 PR q3
  go_wp2_with fail
  refine PA.out.mono ?_
  rintro e w5 ⟨va, rfl, fa, b5⟩
  obtain ⟨aa, ac, rfl, -, -⟩ := fa.cell
  rw [HPN.out] at fa ⊢
  have R5 := Lib.hid ((R4.out.keep b5).keep ((Below.refl _ _).alloc (Nat.le_refl _) (.cells #[.slice aa pn ac] 34)))
  have A5 := Lib.hid (RtIn.new (R4.out.keep b5).mid fa)
  obtain ⟨X5, hX5⟩ : ∃ X, w5.heap.size = X := ⟨_, rfl⟩
  rw [hX5] at A5
  have q3 := R5.out.cell
  have PN := Lib.hid (pinline_any (KIN.out _ R5.out.mid) R5.out.mid.below.size p HV.out _ R5.out.fn)
  clear fa b5 R4 PA
  go_wp2_with fail
  clear hX5
  refine PN.out.mono ?_
  rintro e w6 ⟨rfl, b6⟩
  have R6 := Lib.hid (R5.out.keep b6)
  have A6 := Lib.hid (A5.out.keep b6)
  have PB := Lib.hid (parse_back (KIN.out _ R6.out.mid) R6.out.mid.below.size _ PI.out)
  clear b6 R5 A5 PN q3
  go_wp2_with fail
  refine PB.out.mono ?_
  rintro e w7 ⟨vb, rfl, fb, b7⟩
  obtain ⟨ba, bc, rfl, -, -⟩ := fb.cell
  rw [HPN.out] at fb ⊢
  have R7 := Lib.hid ((R6.out.keep b7).keep ((Below.refl _ _).alloc (Nat.le_refl _) (.cells #[.slice ba pn bc] 34)))
  have A7 := Lib.hid ((A6.out.keep b7).keep ((Below.refl _ _).alloc (Nat.le_refl _) (.cells #[.slice ba pn bc] 34)))
  have C7 := Lib.hid (RtIn.new (R6.out.keep b7).mid fb)
  obtain ⟨X7, hX7⟩ : ∃ X, w7.heap.size = X := ⟨_, rfl⟩
  rw [hX7] at C7
  have q3 := R7.out.cell
  have q5 := A7.out.cell
  have E1 := Lib.hid (equal_same p _ _ _ A7.out.fn R7.out.fn)
  clear fb b7 R6 A6 PB
  go_wp2_with fail
  refine E1.out.mono ?_
  rintro e w8 ⟨rfl, b8⟩
  have R8 := Lib.hid (R7.out.keep b8)
  have C8 := Lib.hid (C7.out.keep b8)
  clear hX7
  have E2 := Lib.hid (equal_same p _ _ _ C8.out.fn R8.out.fn)
  clear b8 R7 A7 C7 E1 q3 q5
  have q3 := R8.out.cell
  have q7 := C8.out.cell
  go_wp2_with fail
  refine E2.out.mono ?_
  rintro e w9 ⟨rfl, b9⟩
  have R9 := Lib.hid (R8.out.keep b9)
  clear b9 R8 C8 E2 q3 q7
  go_wp2_with fail
  refine (R9.out.mid.sane K.out).mono ?_
  rintro e w10 ⟨rfl, b10⟩
  have M10 := Lib.hid (R9.out.mid.trans b10)
  clear b10 R9
  go_wp2
  go_ret
  exact ⟨rfl, M10.out.below⟩
end Go.Proofs.YtpnfdmajpkpjoaaDoor

