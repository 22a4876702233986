/- Walks: a drawn source text, drawn pieces, the comparison of the scanners. -/
import Derived.Test.YtahdmekakbagnaaTxtQ
import Derived.Test.YtahdmekakbagnaaGenP3
import Derived.Test.YtahdmekakbagnaaRScan2
import Derived.Test.YtahdmekakbagnaaSane
import Derived.Test.YtahdmekakbagnaaGenV
namespace Go.Proofs.Ytahdmekakbagnaa
open Go.RowKit

theorem fun1 {w : World} {v : Value} {p : List PFunc} (h : FuncsAt w v p) (o : Obj) : FuncsAt (w.alloc o) v p := h.keep SameT.alloc SameT.alloc SameT.alloc SameT.alloc

def SrcPost (B bt : Nat) (w : World) (e : Ending) (w' : World) : Prop := ∃ s : ByteArray, e = .returned (.string s) ∧ s.size ≤ 1000000 ∧ TapeOk B w' bt ∧ But bt w w'

/-- .. and it is not empty. -/
def SrcPost1 (B bt : Nat) (w : World) (e : Ending) (w' : World) : Prop := ∃ s : ByteArray, e = .returned (.string s) ∧ 1 ≤ s.size ∧ s.size ≤ 1000000 ∧ TapeOk B w' bt ∧ But bt w w'

theorem catT_max (l : List Str) (h : ∀ x ∈ l, x.length ≤ 200) (hn : l.length ≤ 4240) : (catT l).length ≤ 1000000 := by
  have h1 := catT_len l h
  have h2 := Nat.mul_le_mul_right 201 hn
  omega
theorem joinT_max (l : List Str) (h : ∀ x ∈ l, x.length ≤ 200) (hn : l.length ≤ 4240) : (joinT l).length ≤ 1000000 := by
  have h1 := joinT_len l h
  have h2 := Nat.mul_le_mul_right 202 hn
  omega
theorem printT_max (p : List PFunc) : (printT p).length ≤ 1000000 := by
  cases h : validB p
  · unfold printT; rw [h]; simp
  · have e : printT p = catT (linesT p) := by unfold printT; rw [h]; rfl
    rw [e]; exact catT_max _ (linesT_each h) (linesT_len h)
theorem inlineT_max (p : List PFunc) : (inlineT p).length ≤ 1000000 := by
  cases h : validB p
  · unfold inlineT; rw [h]; simp
  · have e : inlineT p = joinT (linesT p) := by unfold inlineT; rw [h]; rfl
    rw [e]; exact joinT_max _ (linesT_each h) (linesT_len h)

theorem source_any {B bt : Nat} {w : World} (ht : TapeOk B w bt) :
    Calls Try.prog 9 #[.pointer (some ⟨bt, 0, none⟩)] w (SrcPost1 B bt w) := by
  have hlt := ht.lt
  have Ht := Lib.hid ht
  clear ht
  go_enter Try.func9, Try.ntmps9
  go_wp2_with fail
  refine (program_any Ht.out).mono ?_
  rintro e w1 ⟨p, v, hgp, rfl, hf, ht1, hb1⟩
  have HV := Lib.hid (gen_valid hgp)
  clear hgp
  obtain ⟨a, n, c, rfl⟩ := valid_cells hf
  have T1 := Lib.hid (ht1.alloc (.cells #[.slice a n c] 41))
  have B1 := Lib.hid (hb1.alloc (.cells #[.slice a n c] 41))
  have hz := hb1.size
  have F1 := Lib.hid (fun1 hf (.cells #[.slice a n c] 41))
  clear hf ht1 hb1
  go_wp2_with fail
  refine (next_any T1.out 2 (by omega)).mono ?_
  rintro e w2 ⟨r, r0, r1, rfl, t2, b2⟩
  have hx : w2.cell? ⟨w1.heap.size, 0, none⟩ = some (.slice a n c) := (b2.cell w1.heap.size 0 (by simp) (by omega)).trans (World.cell?_alloc_new _ _ _ _)
  have T2 := Lib.hid t2
  have B2 := Lib.hid (B1.out.trans b2)
  have F2 : Hid (FuncsAt w2 (.slice a n c) p) := F1.out.keep (SameT.but b2 (by rw [T1.out.ty]; decide)) (SameT.but b2 (by rw [T1.out.ty]; decide)) (SameT.but b2 (by rw [T1.out.ty]; decide)) (SameT.but b2 (by rw [T1.out.ty]; decide))
  have hP := Lib.hid (print_any p _ _ F2.out)
  have hI := Lib.hid (inline_any p _ _ F2.out)
  clear t2 b2 T1 B1 F1
  have hr : r = 0 ∨ r = 1 := by omega
  rcases hr with rfl | rfl
  · go_wp2_with fail
    refine hI.out.mono ?_
    rintro e w3 ⟨rfl, hb3⟩
    have T3 := Lib.hid (T2.out.below hb3)
    have B3 := Lib.hid (B2.out.below hb3)
    clear hb3
    go_wp2
    go_ret
    exact ⟨⟨(inlineT p).toArray⟩, rfl, by show _ ≤ (inlineT p).toArray.size; simpa using inline_pos HV.out, by show (inlineT p).toArray.size ≤ _; simpa using inlineT_max p, T3.out, B3.out⟩
  · go_wp2_with fail
    refine hP.out.mono ?_
    rintro e w3 ⟨rfl, hb3⟩
    have T3 := Lib.hid (T2.out.below hb3)
    have B3 := Lib.hid (B2.out.below hb3)
    clear hb3
    go_wp2
    go_ret
    exact ⟨⟨(printT p).toArray⟩, rfl, by show _ ≤ (printT p).toArray.size; simpa using print_pos HV.out, by show (printT p).toArray.size ≤ _; simpa using printT_max p, T3.out, B3.out⟩
end Go.Proofs.Ytahdmekakbagnaa
