/- The scanner of the program: its two closures. -/
import Derived.Test.YtahdmekakbagnaaRows
import Derived.Test.YtahdmekakbagnaaLexP
import Derived.Test.YtahdmekakbagnaaLexW
import Derived.Test.YtahdmekakbagnaaMem
import Derived.Test.YtahdmekakbagnaaSame
import Derived.WalkKit
import Derived.WalkSpells
import Derived.WalkLawsBesides
import Derived.Deep.QuietTactic
import Derived.BigQuiet
import Derived.Lib.Hide
namespace Go.Proofs.Ytahdmekakbagnaa
open Go.RowKit

theorem infoTok : (Try.prog.info? 46).map (fun i => (i.zero, i.size, i.bytes)) = some (some (.agg #[.int .i64 0, .string ⟨#[]⟩, .int .i64 0, .int .i64 0]), 4, 40) := by kernel_rfl

/-- What the scanner's variables hold: block B the tokens, B+1 the place, B+2 the line, B+3 its start, B+4 whether it has a token, B+5 the closure 'token'. -/
structure Sc (w0 w : World) (B : Nat) (toks : List Tok) (i line start : Int) (op : Bool) : Prop where
  out : ∃ v n, w.heap[B]? = some (.cells #[v] 33 (0, 0)) ∧ w.ownsRow (B + 6) 46 4 v n (toks.map tokCells).flatten
  at_ : w.heap[B + 1]? = some (.cells #[.int .i64 i] 3 (0, 0))
  line : w.heap[B + 2]? = some (.cells #[.int .i64 line] 3 (0, 0))
  start : w.heap[B + 3]? = some (.cells #[.int .i64 start] 3 (0, 0))
  open_ : w.heap[B + 4]? = some (.cells #[.bool op] 4 (0, 0))
  clos : w.heap[B + 5]? = some (.cells #[.func (.func 19) #[] #[.pointer (some ⟨B, 0, none⟩), .pointer (some ⟨B + 2, 0, none⟩), .pointer (some ⟨B + 1, 0, none⟩), .pointer (some ⟨B + 3, 0, none⟩), .pointer (some ⟨B + 4, 0, none⟩)]] 51 (0, 0))
  below : Below B w0 w

/-- What 'token' leaves. -/
def TokenPost (w : World) (B n : Nat) (xs : List Value) (kind line col : Int) (s : ByteArray) (e : Ending) (w' : World) : Prop :=
  e = .returned (.tuple #[]) ∧ ∃ v' w1, w1.ownsRow (B + 6) 46 4 v' (n + 1) (xs ++ [.int .i64 kind, .string s, .int .i64 line, .int .i64 col]) ∧ Below (B + 6) w w1 ∧
    w' = (w1.setCell ⟨B, 0, none⟩ v').setCell ⟨B + 4, 0, none⟩ (.bool (kind != 3))

theorem four_new (w : World) (a b c d : Value) (t : TypeId) : ∀ (j : Nat) (u : Value), [a, b, c, d][j]? = some u → (w.alloc (.cells #[a, b, c, d] t)).cell? ((⟨w.heap.size, 0, none⟩ : Addr).add j) = some u := by
  intro j u hj
  match j, hj with
  | 0, hj => simp at hj; subst hj; simp [Addr.add]
  | 1, hj => simp at hj; subst hj; simp [Addr.add]
  | 2, hj => simp at hj; subst hj; simp [Addr.add]
  | 3, hj => simp at hj; subst hj; simp [Addr.add]
  | j + 4, hj => simp at hj

set_option maxHeartbeats 400000 in
theorem token_walk {w : World} {B : Nat} {v : Value} {n : Nat} {xs : List Value} {kind i line start : Int} {op : Bool} (s : ByteArray)
    (hown : w.ownsRow (B + 6) 46 4 v n xs) (hn : n ≤ 1000000) (hB : B + 6 ≤ w.heap.size)
    (c0 : w.cell? ⟨B, 0, none⟩ = some v) (c1 : w.cell? ⟨B + 1, 0, none⟩ = some (.int .i64 i)) (c2 : w.cell? ⟨B + 2, 0, none⟩ = some (.int .i64 line))
    (c3 : w.cell? ⟨B + 3, 0, none⟩ = some (.int .i64 start)) (c4 : w.cell? ⟨B + 4, 0, none⟩ = some (.bool op))
    (f0 : w.frozen? ⟨B, 0, none⟩ = false) (f4 : w.frozen? ⟨B + 4, 0, none⟩ = false) (h1 : 0 ≤ i - start) (h2 : i - start ≤ 1000000) :
    Calls Try.prog 19 #[.int .i64 kind, .string s, .pointer (some ⟨B, 0, none⟩), .pointer (some ⟨B + 2, 0, none⟩), .pointer (some ⟨B + 1, 0, none⟩), .pointer (some ⟨B + 3, 0, none⟩), .pointer (some ⟨B + 4, 0, none⟩)] w
      (TokenPost w B n xs kind line (i - start + 1) s) := by
  go_enter Try.func19, Try.ntmps19
  go_wp2_with (at_builtin; refine wpList_push [.int .i64 kind, .string s, .int .i64 line, .int .i64 (i - start + 1)] rfl _ _ 33 rfl (B + 6) 46 _ 4 40 Try.underlying33 infoTok rfl (by omega) _ _ _ hown rfl rfl rfl rfl ?c3 ?c4 hB ?_)
  case c3 => unfold maxLen; omega
  case c4 => omega
  intro g cap w1 hown' hgrow hg1 hg2
  have hb1 : Below (B + 6) w w1 := Below.of_grown hgrow hown hB
  have d0 : w1.cell? ⟨B, 0, none⟩ = some v := (hb1.cell (by show B < B + 6; omega)).trans c0
  have d4 : w1.cell? ⟨B + 4, 0, none⟩ = some (.bool op) := (hb1.cell (by show B + 4 < B + 6; omega)).trans c4
  have g0 : w1.frozen? ⟨B, 0, none⟩ = false := (hb1.frozen (by show B < B + 6; omega)).trans f0
  have g4 : w1.frozen? ⟨B + 4, 0, none⟩ = false := (hb1.frozen (by show B + 4 < B + 6; omega)).trans f4
  clear c0 c1 c2 c3 c4 f0 f4 hown hgrow
  have HO := Lib.hid hown'
  have HB := Lib.hid hb1
  clear hown' hb1
  go_wp2
  go_end0
  exact ⟨rfl, _, w1, HO.out, HB.out, rfl⟩

theorem cell_blk {w : World} {b : Nat} {v : Value} {t : TypeId} {fr : Nat × Nat} (h : w.heap[b]? = some (.cells #[v] t fr)) : w.cell? ⟨b, 0, none⟩ = some v := by simp [World.cell?, h]
theorem free_blk {w : World} {b : Nat} {c : Array Value} {t : TypeId} {o : Nat} (h : w.heap[b]? = some (.cells c t (0, 0))) : w.frozen? ⟨b, o, none⟩ = false := by simp [World.frozen?, h]
theorem set_blk {w : World} {b : Nat} {v u : Value} {t : TypeId} {fr : Nat × Nat} (h : w.heap[b]? = some (.cells #[v] t fr)) : (w.setCell ⟨b, 0, none⟩ u).heap[b]? = some (.cells #[u] t fr) := by
  simp [World.setCell, Array.getElem?_modify, h]

def ScPost (w0 : World) (B : Nat) (toks : List Tok) (i line start : Int) (op : Bool) (e : Ending) (w' : World) : Prop :=
  e = .returned (.tuple #[]) ∧ Sc w0 w' B toks i line start op

theorem rowcells (toks : List Tok) (t : Tok) : ((toks ++ [t]).map tokCells).flatten = (toks.map tokCells).flatten ++ tokCells t := by simp

theorem Sc.lt {w0 w : World} {B : Nat} {toks : List Tok} {i line start : Int} {op : Bool} (h : Sc w0 w B toks i line start op) : B + 6 ≤ w.heap.size := lt_heap h.clos

theorem token_any {w0 w : World} {B : Nat} {toks : List Tok} {i line start : Int} {op : Bool} (h : Sc w0 w B toks i line start op) (kind : Int) (text : List UInt8)
    (hn : toks.length ≤ 1000000) (h1 : 0 ≤ i - start) (h2 : i - start ≤ 1000000) :
    Calls Try.prog 19 #[.int .i64 kind, .string ⟨text.toArray⟩, .pointer (some ⟨B, 0, none⟩), .pointer (some ⟨B + 2, 0, none⟩), .pointer (some ⟨B + 1, 0, none⟩), .pointer (some ⟨B + 3, 0, none⟩), .pointer (some ⟨B + 4, 0, none⟩)] w
      (ScPost w0 B (toks ++ [⟨kind, text, line, i - start + 1⟩]) i line start (kind != 3)) := by
  obtain ⟨v, n, ho, hown⟩ := h.out
  have hlen : n = toks.length := by have := hown.1; rw [toks_len] at this; omega
  refine (token_walk (op := op) ⟨text.toArray⟩ hown (by omega) h.lt (cell_blk ho) (cell_blk h.at_) (cell_blk h.line) (cell_blk h.start) (cell_blk h.open_) (free_blk ho) (free_blk h.open_) h1 h2).mono ?_
  rintro e w' ⟨rfl, v', w1, ho1, hb1, rfl⟩
  refine ⟨rfl, ?_⟩
  have hs (k : Nat) (hk : k < B + 6) (h0 : k ≠ B) (h4 : k ≠ B + 4) : ((w1.setCell ⟨B, 0, none⟩ v').setCell ⟨B + 4, 0, none⟩ (.bool (kind != 3))).heap[k]? = w.heap[k]? := by
    rw [Below.heap_setCell _ _ _ _ (by show k ≠ B + 4; omega), Below.heap_setCell _ _ _ _ (by show k ≠ B; omega)]
    exact hb1.block k hk
  constructor
  · refine ⟨v', n + 1, ?_, ?_⟩
    · rw [Below.heap_setCell _ _ _ _ (by show B ≠ B + 4; omega)]
      exact set_blk ((hb1.block B (by omega)).trans ho)
    · rw [rowcells]
      exact ownsRow_setCell_below (ownsRow_setCell_below ho1 (by show B < B + 6; omega) _) (by show B + 4 < B + 6; omega) _
  · exact (hs _ (by omega) (by omega) (by omega)).trans h.at_
  · exact (hs _ (by omega) (by omega) (by omega)).trans h.line
  · exact (hs _ (by omega) (by omega) (by omega)).trans h.start
  · refine set_blk (v := .bool op) ?_
    rw [Below.heap_setCell _ _ _ _ (by show B + 4 ≠ B; omega)]
    exact (hb1.block (B + 4) (by omega)).trans h.open_
  · exact (hs _ (by omega) (by omega) (by omega)).trans h.clos
  · exact (((h.below.trans (hb1.mono (by omega))).setCell (by show B ≤ B; omega) _).setCell (by show B ≤ B + 4; omega) _)

theorem finish_any {w0 w : World} {B : Nat} {toks : List Tok} {i line start : Int} {op : Bool} (h : Sc w0 w B toks i line start op)
    (hn : toks.length ≤ 1000000) (h1 : 0 ≤ i - start) (h2 : i - start ≤ 1000000) :
    Calls Try.prog 20 #[.pointer (some ⟨B + 4, 0, none⟩), .pointer (some ⟨B + 5, 0, none⟩)] w (ScPost w0 B (fin op line (i - start + 1) toks) i line start false) := by
  have c4 := cell_blk h.open_
  have c5 := cell_blk h.clos
  cases op
  · go_enter Try.func20, Try.ntmps20
    go_wp2
    go_end0
    exact ⟨rfl, h⟩
  · have H := Lib.hid h
    clear h
    go_enter Try.func20, Try.ntmps20
    go_wp2_with (go_at_call 19; refine (token_any H.out 3 [] hn h1 h2).mono ?_; rintro e w' ⟨rfl, hsc⟩)
    go_end0
    exact ⟨rfl, hsc⟩
end Go.Proofs.Ytahdmekakbagnaa
