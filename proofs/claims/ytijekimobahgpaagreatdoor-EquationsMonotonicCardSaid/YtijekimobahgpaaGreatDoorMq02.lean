/- A part of the proof. -/
import Derived.Test.YtijekimobahgpaaGreatDoorMq01
import Derived.Deep.RegionHeld3
import Derived.Deep.DrawnRows
import Derived.Lib.SliceRun
import Derived.Deep.RegionLaw
import Derived.Deep.CutRange
import Derived.RegionTactic
import Derived.BigRegion
set_option linter.unusedVariables false
set_option linter.unusedSimpArgs false
set_option linter.unusedSectionVars false
set_option maxRecDepth 100000
set_option maxHeartbeats 16000000
namespace Go.Proofs.YtijekimobahgpaaGreatDoor
section
open Go.RowKit
variable [Base]
def hasZ (s:QSet) (b:Int):Bool:=setB s&&(decide (0≤b)&&(decide (b<s.width)&&QE s.words b.toNat))
theorem QMp {s:QSet} (h:setB s=false) (b:Int):hasZ s b=false:=by unfold hasZ;rw [h];rfl
theorem QMm {s:QSet} {b:Int} (h:b<0):hasZ s b=false:=by unfold hasZ;rw [show decide (0≤b)=false by simpa using h];simp
theorem QNm {s:QSet} {b:Int} (h:s.width≤b):hasZ s b=false:=by unfold hasZ;rw [show decide (b<s.width)=false by simpa using h];simp
theorem QNp {s:QSet} {k:Nat} (h:setB s=true) (hk:(k:Int)<s.width):hasZ s k=QE s.words k:=by unfold hasZ;rw [h,show decide ((k:Int)<s.width)=true by simpa using hk];simp
theorem QT {s:QSet} {b:Bool} (hb:setB s=b) (u:Value) (w:World) (h:Qi w u s.words):Calls Tryz.prog 90 #[setV s u] w (Qia b w):=hb▸QOj s u w h
theorem Qpf {s:QSet} {b:Bool} (hb:setB s=b) (u:Value) (w:World) (h:Qi w u s.words):Calls Tryz.prog 80 #[setV s u] w (Qia b w):=hb▸Qem s u w h
theorem QUe {s:QSet} {k:Int} {b:Bool} (hb:(decide (0≤k)&&decide (k<s.width))=b) (a:Option Addr) (n c:Nat) (w:World):Calls Tryz.prog 180 #[.agg #[.int .i64 s.width,.slice a n c],.int .i64 k] w (Qia b w):=by
 subst hb;by_cases h1:0≤k
 ·by_cases h2:k<s.width
  ·have d1:decide (0≤k)=true:=by simpa using h1
   have d2:decide (k<s.width)=true:=by simpa using h2
   rw [d1,d2];go_enter Tryz.func180,Tryz.ntmps180;go_wp2;go_ret;exact⟨rfl,Zb⟩
  ·have d1:decide (0≤k)=true:=by simpa using h1
   have d2:decide (k<s.width)=false:=by simpa using h2
   rw [d1,d2];go_enter Tryz.func180,Tryz.ntmps180;go_wp2;go_ret;exact⟨rfl,Zb⟩
 ·have d1:decide (0≤k)=false:=by simpa using h1
  rw [d1];go_enter Tryz.func180,Tryz.ntmps180;go_wp2;go_ret;exact⟨rfl,Zb⟩
theorem rhas_any (s:QSet) (b:Int) (u:Value) (w:World) (h:Qi w u s.words):Calls Tryz.prog 216 #[setV s u,.int .i64 b] w (Qia (hasZ s b) w):=by
 obtain⟨a,c,rfl,hm,hc,hcm,hk⟩:=h.cell;obtain⟨n,hn⟩:=Ze s.words.length;obtain⟨W,hW⟩:=Ze (w.alloc (.cells #[.int .i64 s.width,.slice a n c] 52));have B0:Below w.heap.size w W:=by rw [←hW];exact Zb
 have HB0:W.heap[w.heap.size]? = some (.cells #[.int .i64 s.width,.slice a n c] 52 (0,0)):=by rw [←hW];exact heap_alloc_new _ _
 have x0:=(Qa HB0).1 0;have x1:=(Qa HB0).1 1;simp at x0 x1;rw [hn] at hm hc ⊢;have H0:=Zh HB0;have HW:=Zh hW;have BB:=Zh B0;have HN:=Zh hn;have HR:=Zh (show Qi W (.slice a n c) s.words by rw [←hn] at *;exact h.below B0);have HK:=Zh hk;have HOK:=Zh h.2;have hud:∀b:Bool,(undef=Value.bool b)=False:=fun b=>by simp [undef]
 unfold maxLen at hm;clear hW HB0 B0 hk hn;rcases Bool.eq_false_or_eq_true (setB s) with hv|hv
 rotate_left
 ·have HV:=Zh hv;rw [QMp hv b];clear hv;go_enter Tryz.func216,Tryz.ntmps216;go_wp2_with fail;rw [show w.alloc (.cells #[.int .i64 s.width,.slice a n c] 52)=W from HW.o];refine(Qpf HV.o _ _ HR.o).mono ?_;rintro e w1 ⟨rfl,b1⟩;have B1:=Zh (BB.o.trans (b1.mono BB.o.size));clear x0 x1 b1;go_wp2;go_ret;exact⟨rfl,B1.o⟩
 have HV:=Zh hv;have hf:=Zh (Qka (QBa hv h.2));by_cases h1:0≤b;rotate_left
 ·rw [QMm (by omega:b<0)];have d1:decide (0≤b)=false:=by simpa using h1
  clear hv h;go_enter Tryz.func216,Tryz.ntmps216;go_wp2_with fail;rw [show w.alloc (.cells #[.int .i64 s.width,.slice a n c] 52)=W from HW.o];refine(Qpf HV.o _ _ HR.o).mono ?_;rintro e w1 ⟨rfl,b1⟩;have B1:=Zh (BB.o.trans (b1.mono BB.o.size));have L1:=Zh (Qc H0.o b1 (Qb H0.o));clear x0 x1 b1;have x0:=(Qa L1.o).1 0;have x1:=(Qa L1.o).1 1;simp only [Zx,Zy,Zz] at x0 x1;go_wp2;go_ret;exact⟨rfl,B1.o⟩
 by_cases h2:b<s.width;rotate_left
 ·rw [QNm (by omega:s.width≤b)];have d1:decide (0≤b)=true:=by simpa using h1
  have d2:decide (b<s.width)=false:=by simpa using h2
  clear hv h;go_enter Tryz.func216,Tryz.ntmps216;go_wp2_with fail;rw [show w.alloc (.cells #[.int .i64 s.width,.slice a n c] 52)=W from HW.o];refine(Qpf HV.o _ _ HR.o).mono ?_;rintro e w1 ⟨rfl,b1⟩;have B1:=Zh (BB.o.trans (b1.mono BB.o.size));have L1:=Zh (Qc H0.o b1 (Qb H0.o));clear x0 x1 b1;have x0:=(Qa L1.o).1 0;have x1:=(Qa L1.o).1 1;simp only [Zx,Zy,Zz] at x0 x1;go_wp2;go_ret;exact⟨rfl,B1.o⟩
 obtain⟨k,rfl⟩:=Int.eq_ofNat_of_zero_le h1;have d1:decide (0≤(k:Int))=true:=by simp
 have d2:decide ((k:Int)<s.width)=true:=by simpa using h2
 rw [QNp hv h2];obtain⟨m,f1,f2,f3⟩:=hf.o;have hkn:k / 64<n:=by have:=HN.o;unfold Qj at f3;omega
 have hn5:n≤5:=by have:=HN.o;unfold Qj at f3;omega
 have hk256:k<256:=by omega
 obtain⟨x,hx⟩:∃x,s.words[k / 64]? = some x:=⟨_,List.getElem?_eq_getElem (show k / 64<s.words.length by have:=HN.o;omega)⟩;obtain⟨xb,off,rfl,hxb,-,hcell⟩:=HK.o (k / 64) x hx;have hxl:x<18446744073709551616:=HOK.o x (List.mem_of_getElem? hx);have hbit:QE s.words k=x.testBit (k % 64):=by unfold QE;rw [List.getD_eq_getElem?_getD,hx];rfl
 have sh:=Qbj x (k % 64) hxl;have e1:0≤(k:Int) / 64:=by omega
 have e2:(k:Int) / 64<n:=by omega
 have e3:((k:Int) / 64).toNat=k / 64:=by omega
 have e4:0≤(k:Int) % 64:=by omega
 have e5:IntKind.u64.wrap ((k:Int) % 64)=(k:Int) % 64:=by rw [IntKind.wrap_u64];omega
 have e7:IntKind.u64.wrap (k:Int)=(k:Int):=by rw [IntKind.wrap_u64];omega
 have e6:((k:Int) % 64).toNat=k % 64:=by omega
 rw [hbit];have HX:=Zh hbit;have HCE:=Zh (show ∀w9,Below w.heap.size w w9→w9.cell? ⟨xb,off+k / 64,none⟩=some (uv x) from fun w9 hb=>(hb.cell (p:=⟨xb,off+k / 64,none⟩) hxb).trans hcell);clear hx hxl hbit hcell HK hv h f1 f2 f3 hf hxb;go_enter Tryz.func216,Tryz.ntmps216;go_wp2_with fail;rw [show w.alloc (.cells #[.int .i64 s.width,.slice (some ⟨xb,off,none⟩) n c] 52)=W from HW.o];refine(Qpf HV.o _ _ HR.o).mono ?_;rintro e w1 ⟨rfl,b1⟩;have B1:=Zh (BB.o.trans (b1.mono BB.o.size));have L1:=Zh (Qc H0.o b1 (Qb H0.o));clear x0 x1 b1;have x0:=(Qa L1.o).1 0;have x1:=(Qa L1.o).1 1;simp only [Zx,Zy,Zz] at x0 x1;have gc:=HCE.o _ B1.o
 cases hb:x.testBit (k % 64)
 all_goals
  rw [hb] at sh;have HB:=Zh hb;clear hb;go_wp2;go_ret;exact⟨Qyb HB.o.symm,B1.o⟩
theorem QPj (s:QSet) (b:Int) (u:Value) (w:World) (h:Qi w u s.words):Calls Tryz.prog 139 #[setV s u,.int .i64 b] w (Qia (hasZ s b) w):=by
 obtain⟨a,c,rfl,hm,hc,hcm,hk⟩:=h.cell;obtain⟨n,hn⟩:=Ze s.words.length;obtain⟨W,hW⟩:=Ze (w.alloc (.cells #[.int .i64 s.width,.slice a n c] 52));have B0:Below w.heap.size w W:=by rw [←hW];exact Zb
 have HB0:W.heap[w.heap.size]? = some (.cells #[.int .i64 s.width,.slice a n c] 52 (0,0)):=by rw [←hW];exact heap_alloc_new _ _
 have x0:=(Qa HB0).1 0;have x1:=(Qa HB0).1 1;simp at x0 x1;rw [hn] at hm hc ⊢;have H0:=Zh HB0;have HW:=Zh hW;have BB:=Zh B0;have HN:=Zh hn;have HR:=Zh (show Qi W (.slice a n c) s.words by rw [←hn] at *;exact h.below B0);have HK:=Zh hk;have HOK:=Zh h.2;have hud:∀b:Bool,(undef=Value.bool b)=False:=fun b=>by simp [undef]
 unfold maxLen at hm;clear hW HB0 B0 hk hn;rcases Bool.eq_false_or_eq_true (setB s) with hv|hv
 rotate_left
 ·have HV:=Zh hv;rw [QMp hv b];clear hv;go_enter Tryz.func139,Tryz.ntmps139;go_wp2_with fail;rw [show w.alloc (.cells #[.int .i64 s.width,.slice a n c] 52)=W from HW.o];refine(QT HV.o _ _ HR.o).mono ?_;rintro e w1 ⟨rfl,b1⟩;have B1:=Zh (BB.o.trans (b1.mono BB.o.size));clear x0 x1 b1;go_wp2;go_ret;exact⟨rfl,B1.o⟩
 have HV:=Zh hv;have hf:=Zh (Qka (QBa hv h.2));by_cases h1:0≤b;rotate_left
 ·rw [QMm (by omega:b<0)];have d1:decide (0≤b)=false:=by simpa using h1
  clear hv h;go_enter Tryz.func139,Tryz.ntmps139;go_wp2_with fail;rw [show w.alloc (.cells #[.int .i64 s.width,.slice a n c] 52)=W from HW.o];refine(QT HV.o _ _ HR.o).mono ?_;rintro e w1 ⟨rfl,b1⟩;have B1:=Zh (BB.o.trans (b1.mono BB.o.size));have L1:=Zh (Qc H0.o b1 (Qb H0.o));clear x0 x1 b1;have x0:=(Qa L1.o).1 0;have x1:=(Qa L1.o).1 1;simp only [Zx,Zy,Zz] at x0 x1;go_wp2_with fail;refine(QUe (s:=s) (b:=false) (by rw [d1];rfl) a n c _).mono ?_;rintro e w2 ⟨rfl,b2⟩;have B2:=Zh (B1.o.trans (b2.mono B1.o.size));have L2:=Zh (Qc L1.o b2 (Qb L1.o));clear x0 x1 b2;have x0:=(Qa L2.o).1 0;have x1:=(Qa L2.o).1 1;simp only [Zx,Zy,Zz] at x0 x1;go_wp2;go_ret;exact⟨rfl,B2.o⟩
 by_cases h2:b<s.width;rotate_left
 ·rw [QNm (by omega:s.width≤b)];have d1:decide (0≤b)=true:=by simpa using h1
  have d2:decide (b<s.width)=false:=by simpa using h2
  clear hv h;go_enter Tryz.func139,Tryz.ntmps139;go_wp2_with fail;rw [show w.alloc (.cells #[.int .i64 s.width,.slice a n c] 52)=W from HW.o];refine(QT HV.o _ _ HR.o).mono ?_;rintro e w1 ⟨rfl,b1⟩;have B1:=Zh (BB.o.trans (b1.mono BB.o.size));have L1:=Zh (Qc H0.o b1 (Qb H0.o));clear x0 x1 b1;have x0:=(Qa L1.o).1 0;have x1:=(Qa L1.o).1 1;simp only [Zx,Zy,Zz] at x0 x1;go_wp2_with fail;refine(QUe (s:=s) (b:=false) (by rw [d1,d2];rfl) a n c _).mono ?_;rintro e w2 ⟨rfl,b2⟩;have B2:=Zh (B1.o.trans (b2.mono B1.o.size));have L2:=Zh (Qc L1.o b2 (Qb L1.o));clear x0 x1 b2;have x0:=(Qa L2.o).1 0;have x1:=(Qa L2.o).1 1;simp only [Zx,Zy,Zz] at x0 x1;go_wp2;go_ret;exact⟨rfl,B2.o⟩
 obtain⟨k,rfl⟩:=Int.eq_ofNat_of_zero_le h1;have d1:decide (0≤(k:Int))=true:=by simp
 have d2:decide ((k:Int)<s.width)=true:=by simpa using h2
 rw [QNp hv h2];obtain⟨m,f1,f2,f3⟩:=hf.o;have hkn:k / 64<n:=by have:=HN.o;unfold Qj at f3;omega
 have hn5:n≤5:=by have:=HN.o;unfold Qj at f3;omega
 have hk256:k<256:=by omega
 obtain⟨x,hx⟩:∃x,s.words[k / 64]? = some x:=⟨_,List.getElem?_eq_getElem (show k / 64<s.words.length by have:=HN.o;omega)⟩;obtain⟨xb,off,rfl,hxb,-,hcell⟩:=HK.o (k / 64) x hx;have hxl:x<18446744073709551616:=HOK.o x (List.mem_of_getElem? hx);have hbit:QE s.words k=x.testBit (k % 64):=by unfold QE;rw [List.getD_eq_getElem?_getD,hx];rfl
 have sh:=Qbj x (k % 64) hxl;have e1:0≤(k:Int) / 64:=by omega
 have e2:(k:Int) / 64<n:=by omega
 have e3:((k:Int) / 64).toNat=k / 64:=by omega
 have e4:0≤(k:Int) % 64:=by omega
 have e5:IntKind.u64.wrap ((k:Int) % 64)=(k:Int) % 64:=by rw [IntKind.wrap_u64];omega
 have e7:IntKind.u64.wrap (k:Int)=(k:Int):=by rw [IntKind.wrap_u64];omega
 have e6:((k:Int) % 64).toNat=k % 64:=by omega
 rw [hbit];have HX:=Zh hbit;have HCE:=Zh (show ∀w9,Below w.heap.size w w9→w9.cell? ⟨xb,off+k / 64,none⟩=some (uv x) from fun w9 hb=>(hb.cell (p:=⟨xb,off+k / 64,none⟩) hxb).trans hcell);clear hx hxl hbit hcell HK hv h f1 f2 f3 hf hxb;go_enter Tryz.func139,Tryz.ntmps139;go_wp2_with fail;rw [show w.alloc (.cells #[.int .i64 s.width,.slice (some ⟨xb,off,none⟩) n c] 52)=W from HW.o];refine(QT HV.o _ _ HR.o).mono ?_;rintro e w1 ⟨rfl,b1⟩;have B1:=Zh (BB.o.trans (b1.mono BB.o.size));have L1:=Zh (Qc H0.o b1 (Qb H0.o));clear x0 x1 b1;have x0:=(Qa L1.o).1 0;have x1:=(Qa L1.o).1 1;simp only [Zx,Zy,Zz] at x0 x1;go_wp2_with fail;refine(QUe (s:=s) (b:=true) (by rw [d1,d2];rfl) (some ⟨xb,off,none⟩) n c _).mono ?_;rintro e w2 ⟨rfl,b2⟩;have B2:=Zh (B1.o.trans (b2.mono B1.o.size));have L2:=Zh (Qc L1.o b2 (Qb L1.o));clear x0 x1 b2;have x0:=(Qa L2.o).1 0;have x1:=(Qa L2.o).1 1;simp only [Zx,Zy,Zz] at x0 x1;have gc:=HCE.o _ B2.o
 cases hb:x.testBit (k % 64)
 all_goals
  rw [hb] at sh;have HB:=Zh hb;clear hb;go_wp2;go_ret;exact⟨Qyb HB.o.symm,B2.o⟩
end
section
open Go.RowKit
variable [Base]
structure QJc (w wr:World) (r c g m:Nat) (s:QSet):Prop where
 below:Below w.heap.size w wr
 res:wr.heap[r]? = some (.cells #[.int .i64 0,.slice none 0 0] 52 (0,0))
 cur:wr.heap[c]? = some (.cells #[.int .i64 (m:Int),.slice (some ⟨g,0,none⟩) (Qj m) (Qj m)] 52 (0,0))
 own:wr.heap[g]? = some (.cells (s.words.map uv).toArray 139 (0,0))
 form:QUb s
 width:s.width=(m:Int)
 old:w.heap.size≤r∧w.heap.size≤c∧w.heap.size≤g∧r≠c∧r≠g∧c≠g
theorem QJc.len {w wr:World} {r c g m:Nat} {s:QSet} (h:QJc w wr r c g m s):s.words.length=Qj m:=by
 obtain⟨k,e,_,h2⟩:=Qka h.form;have:=h.width;rw [h2,show k=m by omega]
theorem QJc.put {w wr w2:World} {r c g m b:Nat} {s:QSet} (h:QJc w wr r c g m s) (hg:w2.heap[g]? = some (.cells ((putS s b).words.map uv).toArray 139 (0,0))) (hb:ButB g wr w2):QJc w w2 r c g m (putS s b):=by
 obtain⟨o1,o2,o3,o4,o5,o6⟩:=h.old;exact⟨h.below.trans (hb.toBelow o3 h.below.size),(hb.block r (Qb h.res) o5).trans h.res,(hb.block c (Qb h.cur) o6).trans h.cur,hg,Qnd h.form b,h.width,h.old⟩
theorem QJc.fin {w wr:World} {r c g m:Nat} {s:QSet} (h:QJc w wr r c g m s) (x y:Value):NewS w.heap.size ((wr.setCell ⟨r,0,none⟩ x).setCell ⟨r,1,none⟩ y) (.slice (some ⟨g,0,none⟩) (Qj m) (Qj m)) s∧Below w.heap.size w ((wr.setCell ⟨r,0,none⟩ x).setCell ⟨r,1,none⟩ y):=by
 obtain⟨o1,o2,o3,o4,o5,o6⟩:=h.old;refine⟨?_,(h.below.setCell (p:=⟨r,0,none⟩) o1 _).setCell (p:=⟨r,1,none⟩) o1 _⟩;have hg:((wr.setCell ⟨r,0,none⟩ x).setCell ⟨r,1,none⟩ y).heap[g]? = some (.cells (s.words.map uv).toArray 139 (0,0)):=by
  rw [Below.heap_setCell _ _ _ _ (by show g≠r;omega),Below.heap_setCell _ _ _ _ (by show g≠r;omega)];exact h.own
 exact .inr ⟨g,by rw [h.len],o3,hg,h.form⟩
theorem QWp {w wr:World} {r c g m b:Nat} {s:QSet} (h:QJc w wr r c g m s) (hb:b<m):
  Calls Tryz.prog 118 #[.agg #[.int .i64 (m:Int),.slice (some ⟨g,0,none⟩) (Qj m) (Qj m)],.int .i64 b] wr (PutQ g (putS s b) wr):=by
 have k:=QRs s b g wr h.form (by rw [h.width];omega) h.own;rw [h.len,show setV s (.slice (some ⟨g,0,none⟩) (Qj m) (Qj m))=.agg #[.int .i64 (m:Int),.slice (some ⟨g,0,none⟩) (Qj m) (Qj m)] from by unfold setV;rw [h.width]] at k;exact k
theorem QHj (m:Nat):(Qy m).words.length=Qj m:=by unfold Qy;simp
theorem Qur (m:Nat) (hm:m≤256) (w:World):Calls Tryz.prog 50 #[.int .i64 m] w (SetE (QMb m m,0) w):=by
 have HM:=Zh hm;go_enter Tryz.func50,Tryz.ntmps50;go_wp2_with fail;refine(Qxe m hm _).mono ?_;rintro e v ⟨u,rfl,⟨g,rfl,o1,o2,o3⟩,b1⟩;simp only [World.size_alloc] at o1 b1;have hz:w.heap.size<v.heap.size:=by have:=b1.size;simp only [World.size_alloc] at this;omega
 rw [show setV (Qy m) (.slice (some ⟨g,0,none⟩) (Qy m).words.length (Qy m).words.length)=.agg #[.int .i64 (m:Int),.slice (some ⟨g,0,none⟩) (Qj m) (Qj m)] from by rw [QHj];rfl];have hgv:=Qb o2;have I0:=Zh (show QJc w (v.alloc (.cells #[.int .i64 (m:Int),.slice (some ⟨g,0,none⟩) (Qj m) (Qj m)] 52)) w.heap.size v.heap.size g m (QMb m 0) from
  ⟨((Zb).trans (b1.mono (by omega))).alloc (by omega) _,Qz _ ((b1.block w.heap.size (by omega)).trans (heap_alloc_new w _)),heap_alloc_new _ _,Qz _ o2,QZb hm,rfl,by omega,by omega,by omega,by omega,by omega,by omega⟩)
 obtain⟨V,hV⟩:=Ze (v.alloc (.cells #[.int .i64 (m:Int),.slice (some ⟨g,0,none⟩) (Qj m) (Qj m)] 52));rw [hV] at I0;have HV:=Zh hV;have hne:w.heap.size≠v.heap.size:=by omega
 clear hV o1 o2 o3 b1;go_wp2_with fail;rw [show v.alloc (.cells #[.int .i64 (m:Int),.slice (some ⟨g,0,none⟩) (Qj m) (Qj m)] 52)=V from HV.o];have J0:=Zh (Qa I0.o.cur);have x0:=J0.o.1 0;have x1:=J0.o.1 1;simp only [Zx,Zy,Zz] at x0 x1;go_loopw [14] (fun y wr=>∃i:Nat,i≤m∧y=.int .i64 i∧Hid (QJc w wr w.heap.size v.heap.size g m (QMb m i))) (fun y _=>m-(intOf y).toNat)
 case atStart=>exact⟨0,Nat.zero_le _,rfl,I0⟩
 case round=>
  clear x0 x1 J0 I0;obtain⟨i,hi,rfl,I⟩:=hrel;have J0:=Zh (Qa I.o.cur);have x0:=J0.o.1 0;have x1:=J0.o.1 1;have J1:=Zh (Qa I.o.res);have y0:=J1.o.1 0;have y1:=J1.o.1 1;have f0:=J1.o.2 0;have f1:=J1.o.2 1;simp only [Zx,Zy,Zz] at x0 x1 y0 y1;by_cases hlt:i<m
  ·go_wp2_with fail;refine(QWp I.o hlt).mono ?_;rintro e w2 ⟨rfl,p1,p2⟩;have I2:=Zh (show QJc w w2 w.heap.size v.heap.size g m (QMb m (i+1)) by rw [QFf];exact I.o.put p1 p2);clear p1 p2 x0 x1 y0 y1 f0 f1;go_wp2;go_roundw
   case rel=>exact⟨i+1,by omega,by go_num,I2⟩
   case measure=>simp [intOf];omega
  ·obtain rfl:i=m:=by omega
   have HF:=Zh (I.o.fin (.int .i64 (i:Int)) (.slice (some ⟨g,0,none⟩) (Qj i) (Qj i)));go_wp2;refine bodyPost_ret (v:=.tuple #[setV (QMb i i) (.slice (some ⟨g,0,none⟩) (Qj i) (Qj i)),.int .i64 0]) (by rw [show setV (QMb i i) (.slice (some ⟨g,0,none⟩) (Qj i) (Qj i))=.agg #[.int .i64 (i:Int),.slice (some ⟨g,0,none⟩) (Qj i) (Qj i)] from by unfold setV;rw [I.o.width]];simp [results,Tryz.results50,go_sem,y0,y1]) rfl ⟨_,rfl,HF.o.1,HF.o.2⟩
end
section
abbrev iv (z:Int):Value:=.int .i64 z
end
section
open Go.RowKit
variable [Base]
def QJa (w:World) (v:Value) (l:List Int):Prop:=Qg w 3 1 v (l.map iv)
theorem QJa.nil {w:World}:QJa w (.slice none 0 0) []:=Qg.nil
theorem QJa.cell {w:World} {v:Value} {l:List Int} (h:QJa w v l):∃a c,v=.slice a l.length c∧l.length≤maxLen∧l.length≤c∧c≤maxLen∧∀k x,l[k]? = some x→∃b off,a=some ⟨b,off,none⟩∧b<w.heap.size∧w.cell? ⟨b,off+k,none⟩=some (iv x):=by
 obtain⟨a,n,c,rfl,h1,h2,h3,h4,h5⟩:=Qg.form h;simp at h1;subst h1;refine⟨a,c,rfl,h2,h3,h4,fun k x hk=>?_⟩;obtain⟨hk2,rfl⟩:=List.getElem?_eq_some_iff.1 hk;obtain⟨b,off,rfl,hb,_,hc⟩:=h5 (by omega);refine⟨b,off,rfl,hb,?_⟩;rw [hc _ (by simpa using hk2)];simp [hk2]
theorem Qcs (m:Nat) (s:QSet):ofGo m [] s=(s,0):=rfl
theorem QOh (m:Nat) (b:Int) (l:List Int) (s:QSet):ofGo m (b::l) s=if b<0∨(m:Int)≤b then (⟨0,[]⟩,3) else ofGo m l (putS s b.toNat):=rfl
theorem Qru {n:Int} (h:QEa n=false) (l:List Int):ofS n l=(Qrd,3):=by
 unfold ofS Qrd;rw [if_neg];intro h2;unfold QEa at h;simp only [Bool.and_eq_false_iff,decide_eq_false_iff_not] at h;omega
theorem QAt {m:Nat} (h:m≤256) (l:List Int):ofS m l=ofGo m l (Qy m):=by
 unfold ofS;rw [if_pos (by omega)];simp
theorem QJc.stop {w wr:World} {r c g m:Nat} {s:QSet} (h:QJc w wr r c g m s) (x y:Value):Below w.heap.size w ((wr.setCell ⟨r,0,none⟩ x).setCell ⟨r,1,none⟩ y):=(h.fin x y).2
theorem QLt (m:Nat) (hm:m≤256) (l:List Int) (v0:Value) (w:World) (hl:QJa w v0 l):Calls Tryz.prog 115 #[.int .i64 m,v0] w (SetE (ofS m l) w):=by
 rw [QAt hm];have HM:=Zh hm;obtain⟨la,lc,rfl,hlm,-,-,hcell⟩:=hl.cell;obtain⟨n,hn⟩:=Ze l.length;rw [hn] at hlm ⊢;have HN:=Zh hn;have HC:=Zh hcell;unfold maxLen at hlm;clear hl hcell hn;go_enter Tryz.func115,Tryz.ntmps115;go_wp2_with fail;refine(Qxe m hm _).mono ?_;rintro e v ⟨u,rfl,⟨g,rfl,o1,o2,o3⟩,b1⟩;simp only [World.size_alloc] at o1 b1;have hz:w.heap.size<v.heap.size:=by have:=b1.size;simp only [World.size_alloc] at this;omega
 rw [show setV (Qy m) (.slice (some ⟨g,0,none⟩) (Qy m).words.length (Qy m).words.length)=.agg #[.int .i64 (m:Int),.slice (some ⟨g,0,none⟩) (Qj m) (Qj m)] from by rw [QHj];rfl];have hgv:=Qb o2;have I0:=Zh (show QJc w (v.alloc (.cells #[.int .i64 (m:Int),.slice (some ⟨g,0,none⟩) (Qj m) (Qj m)] 52)) w.heap.size v.heap.size g m (Qy m) from
  ⟨((Zb).trans (b1.mono (by omega))).alloc (by omega) _,Qz _ ((b1.block w.heap.size (by omega)).trans (heap_alloc_new w _)),heap_alloc_new _ _,Qz _ o2,QZb hm,rfl,by omega,by omega,by omega,by omega,by omega,by omega⟩)
 obtain⟨V,hV⟩:=Ze (v.alloc (.cells #[.int .i64 (m:Int),.slice (some ⟨g,0,none⟩) (Qj m) (Qj m)] 52));rw [hV] at I0;have HV:=Zh hV;have hne:w.heap.size≠v.heap.size:=by omega
 clear hV o1 o2 o3 b1;go_wp2_with fail;rw [show v.alloc (.cells #[.int .i64 (m:Int),.slice (some ⟨g,0,none⟩) (Qj m) (Qj m)] 52)=V from HV.o];go_loopw [17] (fun y wr=>∃i:Nat,i≤n∧y=.int .i64 i∧Hid (∃s,QJc w wr w.heap.size v.heap.size g m s∧ofGo m (l.drop i) s=ofGo m l (Qy m))) (fun y _=>n-(intOf y).toNat)
 case atStart=>exact⟨0,Nat.zero_le _,rfl,⟨_,I0.o,rfl⟩⟩
 case round=>
  clear I0;obtain⟨i,hi,rfl,II⟩:=hrel;obtain⟨s,I,hR⟩:=II.o;have I:=Zh I;have HR:=Zh hR;clear II hR;have J0:=Zh (Qa I.o.cur);have x0:=J0.o.1 0;have x1:=J0.o.1 1;have J1:=Zh (Qa I.o.res);have y0:=J1.o.1 0;have y1:=J1.o.1 1;have f0:=J1.o.2 0;have f1:=J1.o.2 1;simp only [Zx,Zy,Zz] at x0 x1 y0 y1;by_cases hlt:i<n
  ·obtain⟨b,hb⟩:∃b,l[i]? = some b:=⟨_,List.getElem?_eq_getElem (show i<l.length by have:=HN.o;omega)⟩;obtain⟨lb,lo,rfl,hlb,hlc⟩:=HC.o i b hb;have g0:=(I.o.below.cell (p:=⟨lb,lo+i,none⟩) hlb).trans hlc;have HD:=Zh (show l.drop i=b::l.drop (i+1) by rw [List.drop_eq_getElem_cons (show i<l.length by have:=HN.o;omega)];congr 1;exact(List.getElem?_eq_some_iff.1 hb).2);clear hb hlc;by_cases hb0:b<0
   ·have d1:decide (b<0)=true:=by simpa using hb0
    have HE:=Zh (show ofGo m l (Qy m)=(Qrd,3) by rw [←HR.o,HD.o,QOh,if_pos (Or.inl hb0)];rfl);have HS:=Zh (I.o.stop (.int .i64 0) (.slice none 0 0));go_wp2;refine bodyPost_ret (v:=.tuple #[QPd,.int .i64 3]) (by simp [results,Tryz.results115,go_sem,y0,y1]) rfl ?_;rw [HE.o];exact QJd.set ⟨rfl,HS.o⟩
   ·have d1:decide (b<0)=false:=by simpa using hb0
    by_cases hbm:(m:Int)≤b
    ·have d2:decide ((m:Int)≤b)=true:=by simpa using hbm
     have HE:=Zh (show ofGo m l (Qy m)=(Qrd,3) by rw [←HR.o,HD.o,QOh,if_pos (Or.inr hbm)];rfl);have HS:=Zh (I.o.stop (.int .i64 0) (.slice none 0 0));go_wp2;refine bodyPost_ret (v:=.tuple #[QPd,.int .i64 3]) (by simp [results,Tryz.results115,go_sem,y0,y1]) rfl ?_;rw [HE.o];exact QJd.set ⟨rfl,HS.o⟩
    ·have d2:decide ((m:Int)≤b)=false:=by simpa using hbm
     obtain⟨q,rfl⟩:=Int.eq_ofNat_of_zero_le (show 0≤b by omega);go_wp2_with fail;refine(QWp I.o (show q<m by omega)).mono ?_;rintro e w2 ⟨rfl,p1,p2⟩;have I2:Hid (∃s,QJc w w2 w.heap.size v.heap.size g m s∧ofGo m (l.drop (i+1)) s=ofGo m l (Qy m)):=⟨putS s q,I.o.put p1 p2,by rw [←HR.o,HD.o,QOh,if_neg (by omega)];rfl⟩;clear p1 p2 x0 x1 y0 y1 f0 f1 g0;go_wp2;go_roundw
     case rel=>exact⟨i+1,by omega,by go_num,I2⟩
     case measure=>simp [intOf];omega
  ·have HE:=Zh (show ofGo m l (Qy m)=(s,0) by rw [←HR.o,List.drop_eq_nil_of_le (by have:=HN.o;omega),Qcs]);have HF:=Zh (I.o.fin (.int .i64 (m:Int)) (.slice (some ⟨g,0,none⟩) (Qj m) (Qj m)));go_wp2;refine bodyPost_ret (v:=.tuple #[setV s (.slice (some ⟨g,0,none⟩) (Qj m) (Qj m)),.int .i64 0]) (by rw [show setV s (.slice (some ⟨g,0,none⟩) (Qj m) (Qj m))=.agg #[.int .i64 (m:Int),.slice (some ⟨g,0,none⟩) (Qj m) (Qj m)] from by unfold setV;rw [I.o.width]];simp [results,Tryz.results115,go_sem,y0,y1]) rfl ?_;rw [HE.o];exact⟨_,rfl,HF.o.1,HF.o.2⟩
end
section
open Go.RowKit
variable [Base]
theorem Qcb {P:Program} {ops:Array Oper} {rest:List Oper} {o:Oper} {a:Act} {Q:Exit→Act→World→Prop} {w:World} (news:List Value) (hgd:o.guard=none) (s x:Operand) (t:TypeId)
  (ho:o.op=.call { callee:=.builtin .append,args:=#[s,x],argTypes:=#[t,t] })
  (base:Nat) (e:TypeId) (z:Value) (size bytes:Nat) (ht:P.underlying t=some (.slice e)) (hi:(P.info? e).map (fun i=>(i.zero,i.size,i.bytes))=some (some z,size,bytes))
  (hzs:z.cells.size=size) (hsz:0<size) (v:Value) (n:Nat) (xs:List Value) (hown:w.ownsRow base e size v n xs) (hs:a.eval s=v) (H:Nat)
  (hx:a.eval x=.slice (some ⟨H,0,none⟩) 1 1) (hH:w.heap.size=H) (hl:news.length=size) (h1:news.all Value.oneCell'=true)
  (h63:n+1≤maxLen) (hbytes:(n+1)*bytes≤140737488355328) (hbase:base≤w.heap.size)
  (h:∀g cap w',w'.ownsRow base e size (.slice (some ⟨g,0,none⟩) (n+1) cap) (n+1) (xs++news)→w.grownBy w' v.ownBlock→base≤g→g<w'.heap.size →
   wpList P ops Q rest (a.put o.dst (.slice (some ⟨g,0,none⟩) (n+1) cap)) w'):
  wpList P ops Q (o::rest) a (w.alloc (.cells news.toArray e)):=
 QL news hgd s x t ho base e z size bytes ht hi hzs hsz v n xs hown hs (by rw [hH];exact hx) hl h1 h63 hbytes hbase h
end
section
open Go.RowKit
variable [Base]
abbrev miv (l:List Nat):List Value:=l.map fun n:Nat=>iv (n:Int)
theorem QRa:(Tryz.prog.info? 3).map (fun i=>(i.zero,i.size,i.bytes))=some (some (Value.int .i64 0),1,8):=by kernel_rfl
theorem Qep (s:QSet) (u:Value) (w:World) (h:Qi w u s.words):Calls Tryz.prog 94 #[setV s u] w (IntQ ((memS s).length:Nat) w):=by
 obtain⟨a,c,rfl,hm,hc,hcm,hk⟩:=h.cell;obtain⟨n,hn⟩:=Ze s.words.length;obtain⟨W,hW⟩:=Ze (w.alloc (.cells #[.int .i64 s.width,.slice a n c] 52));have B0:Below w.heap.size w W:=by rw [←hW];exact Zb
 have HB0:W.heap[w.heap.size]? = some (.cells #[.int .i64 s.width,.slice a n c] 52 (0,0)):=by rw [←hW];exact heap_alloc_new _ _
 have x0:=(Qa HB0).1 0;have x1:=(Qa HB0).1 1;simp at x0 x1;rw [hn] at hm hc ⊢;have H0:=Zh HB0;have HW:=Zh hW;have BB:=Zh B0;have HN:=Zh hn;have HR:=Zh (show Qi W (.slice a n c) s.words by rw [←hn] at *;exact h.below B0);have HK:=Zh hk;have HOK:=Zh h.2;unfold maxLen at hm;clear hW HB0 B0 hk hn h;rcases Bool.eq_false_or_eq_true (setB s) with hv|hv
 rotate_left
 ·have HV:=Zh hv;rw [QGp hv];clear hv;go_enter Tryz.func94,Tryz.ntmps94;go_wp2_with fail;rw [show w.alloc (.cells #[.int .i64 s.width,.slice a n c] 52)=W from HW.o];refine(QT HV.o _ _ HR.o).mono ?_;rintro e w1 ⟨rfl,b1⟩;have B1:=Zh (BB.o.trans (b1.mono BB.o.size));have L1:=Zh (Qc H0.o b1 (Qb H0.o));clear x0 x1 b1;have x0:=(Qa L1.o).1 0;have x1:=(Qa L1.o).1 1;simp only [Zx,Zy,Zz] at x0 x1;go_wp2;go_ret;exact⟨rfl,B1.o⟩
 have HV:=Zh hv;have HE:=Zh (Qyk hv HOK.o);obtain⟨m,f1,f2,f3⟩:=Qka (QBa hv HOK.o);have hn4:n≤4:=by have:=HN.o;unfold Qj at f3;omega
 clear hv f1 f2 f3;go_enter Tryz.func94,Tryz.ntmps94;go_wp2_with fail;rw [show w.alloc (.cells #[.int .i64 s.width,.slice a n c] 52)=W from HW.o];refine(QT HV.o _ _ HR.o).mono ?_;rintro e w1 ⟨rfl,b1⟩;have B1:=Zh (BB.o.trans (b1.mono BB.o.size));have L1:=Zh (Qc H0.o b1 (Qb H0.o));clear x0 x1 b1;have x0:=(Qa L1.o).1 0;have x1:=(Qa L1.o).1 1;simp only [Zx,Zy,Zz] at x0 x1;go_wp2_with fail;go_loop [3,11] (fun z y=>∃i:Nat,i≤n∧y=.int .i64 i∧z=.int .i64 ((Qcd s.words i).length:Nat)) (fun _ y=>n-(intOf y).toNat)
 case atStart=>exact⟨0,Nat.zero_le _,rfl,rfl⟩
 case round=>
  obtain⟨i,hi,rfl,rfl⟩:=hrel;have ml:=QQf s.words i;by_cases hlt:i<n
  ·obtain⟨x,hx⟩:∃x,s.words[i]? = some x:=⟨_,List.getElem?_eq_getElem (show i<s.words.length by have:=HN.o;omega)⟩;obtain⟨xb,off,rfl,hxb,-,hcell⟩:=HK.o i x hx;have hxl:x<18446744073709551616:=HOK.o x (List.mem_of_getElem? hx);have gc:=(B1.o.cell (p:=⟨xb,off+i,none⟩) hxb).trans hcell;have HS:=Zh (show(Qcd s.words (i+1)).length=(Qcd s.words i).length+pop 64 x by rw [Qwj hx,List.length_append,List.length_map,QRk]);have hp:pop 64 x≤64:=by rw [←QRk];exact QUs x
   obtain⟨a0,ha0⟩:=Ze ((Qcd s.words i).length);obtain⟨p0,hp0⟩:=Ze (pop 64 x);have HP:=Zh hp0;have HA:=Zh ha0;rw [ha0] at ml ⊢;rw [hp0] at hp;clear hx hcell hp0 ha0;go_wp2_with (go_at_call 153;refine(QYr x hxl _).mono ?_;rw [HP.o];rintro e w' ⟨rfl,rfl⟩);go_round
   case rel=>exact⟨i+1,by omega,by go_num,by rw [HS.o,HA.o,HP.o];go_num⟩
   case measure=>simp [intOf];omega
  ·obtain rfl:i=n:=by omega
   have HF:=Zh (show((Qcd s.words i).length:Nat)=(memS s).length by rw [←HE.o,HN.o]);go_wp2;go_ret;exact⟨Qob (by rw [HF.o]),B1.o⟩
theorem Qpr (a:Option Addr) (n c:Nat) (h:n≤c) (hc:c≤9223372036854775807) (w:World):Calls Tryz.prog 183 #[.slice a n c] w fun e w'=>e=.returned (.slice a n n)∧w=w':=by
 have i1:(0:Int)≤(n:Int):=by omega
 have i2:(n:Int)≤(c:Int):=by omega
 have i3:(n:Int)≤(n:Int):=by omega
 go_enter Tryz.func183,Tryz.ntmps183;go_wp2;go_ret;exact⟨rfl,rfl⟩
theorem QJa.clip {w:World} {a:Option Addr} {n c:Nat} {l:List Int} (h:QJa w (.slice a n c) l):QJa w (.slice a n n) l:=by
 obtain⟨n',cap,h1,h2,h3,h4⟩:=h;rcases h4 with⟨⟨a',h4⟩,h0⟩|⟨b,off,c',fr,e4,e5,e6⟩
 ·injection h4 with _ h6 _
  subst h0 h6;exact⟨0,0,h1,Nat.le_refl _,Nat.zero_le _,.inl ⟨⟨a,rfl⟩,rfl⟩⟩
 ·injection e4 with e4 e7 e8
  subst e4 e7 e8;exact⟨n,n,h1,Nat.le_refl _,by omega,.inr ⟨b,off,c',fr,rfl,e5,e6⟩⟩
def QWk (l:List Int) (w:World) (e:Ending) (w':World):Prop:=∃v,e=.returned v∧QJa w' v l∧Below w.heap.size w w'
structure MIn (w0 wr:World) (v:Value) (l:List Nat):Prop where
 below:Below w0.heap.size w0 wr
 own:wr.ownsRow w0.heap.size 3 1 v l.length (miv l)
theorem MIn.push {w0 wr w2:World} {v v2:Value} {l:List Nat} {x:Nat} (h:MIn w0 wr v l) (ho:w2.ownsRow w0.heap.size 3 1 v2 (l.length+1) (miv l++[iv (x:Int)])) (hg:wr.grownBy w2 v.ownBlock):MIn w0 w2 v2 (l++[x]):=
 ⟨h.below.trans (Below.of_grown hg h.own h.below.size),by rw [List.length_append];simpa [miv] using ho⟩
theorem MIn.shape {w0 wr:World} {v:Value} {l:List Nat} (h:MIn w0 wr v l):∃a c,v=.slice a l.length c∧l.length≤c∧c≤maxLen:=QXa h.own
theorem MIn.ints {w0 wr:World} {v:Value} {l:List Nat} (h:MIn w0 wr v l):QJa wr v (l.map fun n:Nat=>(n:Int)):=by
 unfold QJa;rw [List.map_map];exact Qg.of_owns h.own
theorem Qxl {B:Nat} (s:QSet) (u:Value) (w:World) (h:Qi w u s.words) (hT:TabAt 1 Lib.deBruijn64tab w) (hg:1<w.heap.size):Calls Tryz.prog 141 #[setV s u] w (QWk ((memS s).map fun n:Nat=>(n:Int)) w):=by
 obtain⟨a,c,rfl,hm,hc,hcm,hk⟩:=h.cell;obtain⟨n,hn⟩:=Ze s.words.length;obtain⟨W,hW⟩:=Ze (w.alloc (.cells #[.int .i64 s.width,.slice a n c] 52));have B0:Below w.heap.size w W:=by rw [←hW];exact Zb
 have HB0:W.heap[w.heap.size]? = some (.cells #[.int .i64 s.width,.slice a n c] 52 (0,0)):=by rw [←hW];exact heap_alloc_new _ _
 have x0:=(Qa HB0).1 0;have x1:=(Qa HB0).1 1;simp at x0 x1;rw [hn] at hm hc ⊢;have H0:=Zh HB0;have HW:=Zh hW;have BB:=Zh B0;have HN:=Zh hn;have HR:=Zh (show Qi W (.slice a n c) s.words by rw [←hn] at *;exact h.below B0);have HK:=Zh hk;have HOK:=Zh h.2;unfold maxLen at hm;clear hW HB0 B0 hk hn h;have HT:=Zh (show ∀w9,Below w.heap.size w w9→TabAt 1 Lib.deBruijn64tab w9 from fun w9 hb j hj=>(hb.cell (p:=⟨1,j,none⟩) hg).trans (hT j hj));clear hT hg;rcases Bool.eq_false_or_eq_true (setB s) with hv|hv
 rotate_left
 ·have HV:=Zh hv;rw [QGp hv];clear hv;go_enter Tryz.func141,Tryz.ntmps141;go_wp2_with fail;rw [show w.alloc (.cells #[.int .i64 s.width,.slice a n c] 52)=W from HW.o];refine(QT HV.o _ _ HR.o).mono ?_;rintro e w1 ⟨rfl,b1⟩;have B1:=Zh (BB.o.trans (b1.mono BB.o.size));have L1:=Zh (Qc H0.o b1 (Qb H0.o));clear x0 x1 b1;have x0:=(Qa L1.o).1 0;have x1:=(Qa L1.o).1 1;simp only [Zx,Zy,Zz] at x0 x1;go_wp2;go_ret;exact⟨_,rfl,QJa.nil,B1.o⟩
 have HV:=Zh hv;have HE:=Zh (Qyk hv HOK.o);obtain⟨m,f1,f2,f3⟩:=Qka (QBa hv HOK.o);have hn4:n≤4:=by have:=HN.o;unfold Qj at f3;omega
 clear hv f1 f2 f3;go_enter Tryz.func141,Tryz.ntmps141;go_wp2_with fail;rw [show w.alloc (.cells #[.int .i64 s.width,.slice a n c] 52)=W from HW.o];refine(QT HV.o _ _ HR.o).mono ?_;rintro e w1 ⟨rfl,b1⟩;have B1:=Zh (BB.o.trans (b1.mono BB.o.size));have L1:=Zh (Qc H0.o b1 (Qb H0.o));clear x0 x1 b1;have x0:=(Qa L1.o).1 0;have x1:=(Qa L1.o).1 1;simp only [Zx,Zy,Zz] at x0 x1;go_wp2_with fail;have I0:=Zh (show MIn w w1 (.slice none 0 0) (Qcd s.words 0) from⟨B1.o,World.ownsRow_nil _ _ _ _⟩);go_loopw [3,12] (fun z y wr=>∃i:Nat,i≤n∧y=.int .i64 i∧Hid (MIn w wr z (Qcd s.words i))) (fun _ y _=>n-(intOf y).toNat)
 case atStart=>exact⟨0,Nat.zero_le _,rfl,I0⟩
 case round=>
  clear I0;obtain⟨i,hi,rfl,I⟩:=hrel;by_cases hlt:i<n
  ·obtain⟨x,hx⟩:∃x,s.words[i]? = some x:=⟨_,List.getElem?_eq_getElem (show i<s.words.length by have:=HN.o;omega)⟩;obtain⟨xb,off,rfl,hxb,-,hcell⟩:=HK.o i x hx;have hxl:x<18446744073709551616:=HOK.o x (List.mem_of_getElem? hx);have gc:=(I.o.below.cell (p:=⟨xb,off+i,none⟩) hxb).trans hcell;have HS:=Zh (Qwj hx);clear hx hcell;go_wp2_with fail;go_loopw [3,5] (fun z q wr=>∃(y:Nat) (acc:List Nat),q=uv y∧y<18446744073709551616∧acc.length≤64*(i+1)∧Hid (MIn w wr z acc∧acc++(Qjg y).map (64*i + ·)=Qcd s.words (i+1))) (fun _ q _=>(intOf q).toNat)
   case atStart=>exact⟨x,Qcd s.words i,rfl,hxl,by have:=QQf s.words i;omega,I.o,HS.o.symm⟩
   case round=>
    clear I gc;obtain⟨y,acc,rfl,hyl,hal,II⟩:=hrel;by_cases hy:y=0
    ·subst hy;have HI:Hid (MIn w wr u3 (Qcd s.words (i+1))):=Zh (by have h2:=II.o.2;rw [Qap,List.map_nil,List.append_nil] at h2;rw [←h2];exact II.o.1);go_wp2;go_roundw
     case rel=>exact⟨i+1,by omega,by go_num,HI⟩
     case measure=>simp [intOf];omega
    ·have hy1:((y:Int) != 0)=true:=by simpa using hy
     obtain⟨st1,st2⟩:=Qbp hy hyl;obtain⟨k,hk⟩:=Ze (Lib.ctz 64 y);rw [hk] at st1;have ST:=Zh st2;have HKK:=Zh hk;have hcl:=QNs hy;have hand:bits BinOp.and IntKind.u64 (y:Int) ((y:Int)-1)=((y &&& (y-1):Nat):Int):=by
      rw [show((y:Int)-1)=((y-1:Nat):Int) by omega];exact QBl y (y-1) hyl (by omega)
     obtain⟨q,hq⟩:=Ze (y &&& (y-1));rw [hq] at hand hcl;have HQ:=Zh hq;have OWN:=Zh II.o.1.own;have LE:=Zh II.o.1.below.size;have HTW:=Zh (HT.o _ II.o.1.below);clear st2 hk hq;go_wp2_with first|(go_at_call 182;refine(Qeu y hy hyl _ HTW.o).mono ?_;rw [HKK.o];rintro e w' ⟨rfl,rfl⟩)|(at_builtin;refine Qcb [iv ((i:Int)*64+(k:Int))] rfl _ _ 22 rfl w.heap.size 3 _ 1 8 Tryz.underlying22 QRa rfl (by decide) _ acc.length _ OWN.o rfl _ rfl rfl rfl rfl (by unfold maxLen;omega) (by omega) LE.o ?_;intro g cap w6 own2 gr2 q1 q2;have OW2:=Zh own2;have GR2:=Zh gr2;clear own2 gr2 q1 q2)
     have HCA:Hid ((acc++[64*i+k])++(Qjg q).map (64*i + ·)=Qcd s.words (i+1)):=Zh (by rw [←II.o.2,ST.o,HKK.o,HQ.o,List.map_cons,List.append_assoc];rfl);have HLA:(acc++[64*i+k]).length≤64*(i+1):=by
      have h1:=congrArg List.length HCA.o;rw [List.length_append] at h1;have:=QQf s.words (i+1);omega
     have HMI:=Zh (II.o.1.push (x:=64*i+k) (by rw [show iv ((64*i+k:Nat):Int)=iv ((i:Int)*64+(k:Int)) from by congr 1;omega];exact OW2.o) GR2.o);go_roundw
     case rel=>exact⟨q,_,rfl,by omega,HLA,HMI.o,HCA.o⟩
     case measure=>simp [intOf];omega
  ·obtain rfl:i=n:=by omega
   have HF:=Zh (show Qcd s.words i=memS s by rw [←HE.o,HN.o]);obtain⟨za,zc,rfl,zl,zm⟩:=I.o.shape;obtain⟨ln,hln⟩:=Ze ((Qcd s.words i).length);have HLN:=Zh hln;have hl4:=QQf s.words i;rw [hln] at zl hl4 I ⊢;clear hln;go_wp2_with (go_at_call 183;refine(Qpr za ln zc zl (by unfold maxLen at zm;omega) _).mono ?_;rintro e w' ⟨rfl,rfl⟩);go_ret;refine⟨_,rfl,?_,I.o.below⟩;have k:=I.o.ints;rw [HF.o] at k;exact k.clip
end
section
open Go.RowKit
variable [Base]
theorem Qyn (v n:Int) (hn:1≤n) (hn':n≤9223372036854775807):
  0≤wrap64 ((IntKind.u64.wrap v).tmod n)∧wrap64 ((IntKind.u64.wrap v).tmod n)<n:=by
 have h0:0≤IntKind.u64.wrap v:=by rw [IntKind.wrap_u64];omega
 have h1:(IntKind.u64.wrap v).tmod n=(IntKind.u64.wrap v) % n:=Int.tmod_eq_emod_of_nonneg h0;have h2:=Int.emod_nonneg (IntKind.u64.wrap v) (show n≠0 by omega);have h3:=Int.emod_lt_of_pos (IntKind.u64.wrap v) (show 0<n by omega);rw [h1];generalize IntKind.u64.wrap v % n=m at *;rw [IntWalk.wrap64_in m (by omega)];exact⟨h2,h3⟩
def QSt (n:Int) (e:Ending):Prop:=∃r:Int,0≤r∧r<n∧e=.returned (.int .i64 r)
theorem QEt (v n:Int) (w:World) (hn:1≤n) (hn':n≤9223372036854775807):
  Calls Tryz.prog 61 #[.int .i64 v,.int .i64 n] w fun e w'=>e=.returned (.int .i64 (wrap64 ((IntKind.u64.wrap v).tmod n)))∧w'=w:=by
 go_enter Tryz.func61,Tryz.ntmps61;go_wp2;go_ret;exact⟨rfl,rfl⟩
structure QZ (B:Nat) (w:World) (bt:Nat):Prop where
 base:Base.b≤B
 ge:B≤bt
 lt:bt<w.heap.size
 get:∃(a:Option Addr) (n c:Nat) (i:Int),w.heap[bt]? = some (.cells #[.slice a n c,.int .i64 i] 85 (0,0))∧0≤i∧n≤maxLen∧i≤maxLen ∧
  ∀j:Nat,j<n→∃b off z,a=some ⟨b,off,none⟩∧b<B∧w.cell? ⟨b,off+j,none⟩=some (.int .i64 z)
theorem QZ.bs {B bt:Nat} {w:World} (h:QZ B w bt):Base.b≤bt:=Nat.le_trans h.base h.ge
structure But (bt:Nat) (w w':World):Prop where
 os:w'.os=w.os
 tape:w'.tape=w.tape
 output:w'.output=w.output
 size:w.heap.size≤w'.heap.size
 block:∀k,k<w.heap.size→k≠bt→w'.heap[k]? = w.heap[k]?
theorem But.refl (bt:Nat) (w:World):But bt w w:=⟨rfl,rfl,rfl,Nat.le_refl _,fun _ _ _=>rfl⟩
theorem But.trans {bt:Nat} {a b c:World} (h:But bt a b) (k:But bt b c):But bt a c:=
 ⟨k.os.trans h.os,k.tape.trans h.tape,k.output.trans h.output,Nat.le_trans h.size k.size,
  fun i hi hn=>(k.block i (Nat.lt_of_lt_of_le hi h.size) hn).trans (h.block i hi hn)⟩
theorem But.drewN {bt:Nat} {a w:World} (h:But bt a w) (n:Nat):But bt a (w.drewN n):=⟨h.os,h.tape,h.output,h.size,h.block⟩
theorem But.alloc {bt:Nat} {a w:World} (h:But bt a w) (o:Obj):But bt a (w.alloc o):=
 h.trans ⟨rfl,rfl,rfl,by simp,fun k hk _=>Below.heap_alloc _ _ _ hk⟩
theorem But.setCell {bt:Nat} {a w:World} (h:But bt a w) (p:Addr) (hp:p.block=bt∨a.heap.size≤p.block) (u:Value):But bt a (w.setCell p u):=
 ⟨h.os,h.tape,h.output,by simpa using h.size,fun k hk hn=>by
  rw [Below.heap_setCell _ _ _ _ (by omega)];exact h.block k hk hn⟩
theorem But.below {bt:Nat} {a w w':World} (h:But bt a w) (k:Below w.heap.size w w'):But bt a w':=
 h.trans ⟨k.os,k.tape,k.output,k.size,fun i hi _=>k.block i hi⟩
theorem But.cell {bt:Nat} {w w':World} (h:But bt w w'):∀b o,b<w.heap.size→b≠bt→w'.cell? ⟨b,o,none⟩=w.cell? ⟨b,o,none⟩:=
 fun b o hb hn=>World.cell?_of_block (h.block b hb hn)
theorem But.toBelow {B bt:Nat} {w w':World} (h:But bt w w') (hB:B≤bt) (hw:B≤w.heap.size):Below B w w':=
 ⟨h.os,h.tape,h.output,h.size,fun k hk=>h.block k (by omega) (by omega)⟩
theorem QZ.keep {B bt:Nat} {w w':World} (h:QZ B w bt) (hb:w'.heap[bt]? = w.heap[bt]?) (hB:∀k,k<B→w'.heap[k]? = w.heap[k]?) (hs:w.heap.size≤w'.heap.size):QZ B w' bt:=by
 obtain⟨a,n,c,i,h1,h2,h3,h4,h5⟩:=h.get;refine⟨h.base,h.ge,Nat.lt_of_lt_of_le h.lt hs,a,n,c,i,hb.trans h1,h2,h3,h4,fun j hj=>?_⟩;obtain⟨b,off,z,e1,e2,e3⟩:=h5 j hj;exact⟨b,off,z,e1,e2,(World.cell?_of_block (hB b e2)).trans e3⟩
theorem QZ.drewN {B bt:Nat} {w:World} (h:QZ B w bt) (n:Nat):QZ B (w.drewN n) bt:=h.keep rfl (fun _ _=>rfl) (Nat.le_refl _)
theorem QZ.alloc {B bt:Nat} {w:World} (h:QZ B w bt) (o:Obj):QZ B (w.alloc o) bt:=
 h.keep (Below.heap_alloc _ _ _ h.lt) (fun k hk=>Below.heap_alloc _ _ _ (by have:=h.lt;have:=h.ge;omega)) (by simp)
theorem QZ.setCell {B bt:Nat} {w:World} (h:QZ B w bt) {p:Addr} (h1:p.block≠bt) (h2:B≤p.block) (u:Value):QZ B (w.setCell p u) bt:=
 h.keep (Below.heap_setCell _ _ _ _ (by omega)) (fun k hk=>Below.heap_setCell _ _ _ _ (by omega)) (by simp)
theorem QZ.below {B bt:Nat} {w w':World} (h:QZ B w bt) (k:Below w.heap.size w w'):QZ B w' bt:=
 h.keep (k.block _ h.lt) (fun i hi=>k.block i (by have:=h.lt;have:=h.ge;omega)) k.size
theorem Qio (a:Option Addr) (l c bt:Nat) (i n:Int) (w:World) (hn:n≤1)
  (h0:w.cell? ⟨bt,0,none⟩=some (.slice a l c)) (h1:w.cell? ⟨bt,1,none⟩=some (.int .i64 i)):
  Calls Tryz.prog 16 #[.pointer (some ⟨bt,0,none⟩),.int .i64 n] w fun e w'=>e=.returned (.int .i64 0)∧∃k,w'=w.drewN k:=by
 go_enter Tryz.func16,Tryz.ntmps16;go_wp2;go_quiet (fail);go_wp2;go_ret;exact⟨rfl,_,rfl⟩
theorem Qjs (a:Option Addr) (l c bt:Nat) (i n:Int) (w:World) (hn:1<n) (hl:(l:Int)≤i)
  (h0:w.cell? ⟨bt,0,none⟩=some (.slice a l c)) (h1:w.cell? ⟨bt,1,none⟩=some (.int .i64 i)):
  Calls Tryz.prog 16 #[.pointer (some ⟨bt,0,none⟩),.int .i64 n] w fun e w'=>e=.returned (.int .i64 0)∧∃k,w'=w.drewN k:=by
 have hn2:decide (n≤1)=false:=by simp;omega
 go_enter Tryz.func16,Tryz.ntmps16;go_wp2;go_quiet (fail);go_wp2;go_ret;exact⟨rfl,_,rfl⟩
theorem QMq (b off l c bt:Nat) (i n z:Int) (w:World) (hn:1<n) (hn':n≤9223372036854775807) (hi:0≤i) (hl:i<(l:Int)) (hm:(l:Int)≤9223372036854775807) (hbt:b≠bt)
  (h0:w.cell? ⟨bt,0,none⟩=some (.slice (some ⟨b,off,none⟩) l c)) (h1:w.cell? ⟨bt,1,none⟩=some (.int .i64 i)) (hf:w.frozen? ⟨bt,1,none⟩=false)
  (hz:w.cell? ⟨b,off+i.toNat,none⟩=some (.int .i64 z)):
  Calls Tryz.prog 16 #[.pointer (some ⟨bt,0,none⟩),.int .i64 n] w fun e w'=>QSt n e∧∃k,w'=(w.setCell ⟨bt,1,none⟩ (.int .i64 (i+1))).drewN k:=by
 have hn2:decide (n≤1)=false:=by simp;omega
 have hl2:decide ((l:Int)≤i)=false:=by simp;omega
 have hb:=Zh (Qyn z n (by omega) hn');go_enter Tryz.func16,Tryz.ntmps16;go_wp2;go_quiet (fail);go_wp2;have e1:IntKind.i64.wrap (i+1-1)=i:=IntWalk.i64_in _ (by omega) |>.trans (by omega)
 go_quiet ((go_at_call 61;exact Calls.quiet_of_same (QEt _ _ _ (by omega) (by omega))));go_wp2;go_ret;exact⟨⟨_,hb.o.1,hb.o.2,rfl⟩,_,World.drewN_drewN (w.setCell ⟨bt,1,none⟩ (.int .i64 (i+1))) _ _⟩
def Qft (B bt:Nat) (n:Int) (w:World) (e:Ending) (w':World):Prop:=
 ∃r:Int,0≤r∧(r<n∨r=0)∧e=.returned (.int .i64 r)∧QZ B w' bt∧But bt w w'
theorem QMc {B bt:Nat} {w:World} (ht:QZ B w bt) (n:Int) (hn':n≤9223372036854775807):
  Calls Tryz.prog 16 #[.pointer (some ⟨bt,0,none⟩),.int .i64 n] w (Qft B bt n w):=by
 obtain⟨a,l,c,i,h1,h2,h3,h4,h5⟩:=ht.get;have c0:w.cell? ⟨bt,0,none⟩=some (.slice a l c):=by simp [World.cell?,h1]
 have c1:w.cell? ⟨bt,1,none⟩=some (.int .i64 i):=by simp [World.cell?,h1]
 have cf:w.frozen? ⟨bt,1,none⟩=false:=by simp [World.frozen?,h1]
 by_cases hn:n≤1
 ·refine(Qio a l c bt i n w hn c0 c1).mono ?_;rintro e w' ⟨rfl,k,rfl⟩;exact⟨0,by omega,by omega,rfl,ht.drewN _,(But.refl _ _).drewN _⟩
 by_cases hl:(l:Int)≤i
 ·refine(Qjs a l c bt i n w (by omega) hl c0 c1).mono ?_;rintro e w' ⟨rfl,k,rfl⟩;exact⟨0,by omega,by omega,rfl,ht.drewN _,(But.refl _ _).drewN _⟩
 obtain⟨b,off,z,rfl,hb,hz⟩:=h5 i.toNat (by omega);have hge:=ht.ge;unfold maxLen at h3 h4;refine(QMq b off l c bt i n z w (by omega) hn' h2 (by omega) (by omega) (by omega) c0 c1 cf hz).mono ?_;rintro e w' ⟨⟨r,r1,r2,rfl⟩,k,rfl⟩;refine⟨r,r1,.inl r2,rfl,?_,((But.refl bt w).setCell ⟨bt,1,none⟩ (.inl rfl) _).drewN _⟩;refine⟨ht.base,ht.ge,by simpa using ht.lt,some ⟨b,off,none⟩,l,c,i+1,?_,by omega,by unfold maxLen;omega,by unfold maxLen;omega,fun j hj=>?_⟩
 ·simp [World.setCell,Array.getElem?_modify,h1]
 ·obtain⟨b',off',z',e1,e2,e3⟩:=h5 j hj;refine⟨b',off',z',e1,e2,?_⟩;exact(World.cell?_of_block (w:=w) (Below.heap_setCell _ _ _ _ (by show b'≠bt;omega))).trans e3
theorem QDt {B:Nat} {w:World} (hB:B=w.heap.size) (a:Option Addr) (n c:Nat) (hn:n≤maxLen)
  (h:∀j:Nat,j<n→∃b off z,a=some ⟨b,off,none⟩∧b<B∧w.cell? ⟨b,off+j,none⟩=some (.int .i64 z)) (hbs:Base.b≤B:=by omega):
  Calls Tryz.prog 8 #[.slice a n c] w fun e w'=>e=.returned (.pointer (some ⟨B,0,none⟩))∧QZ B w' B∧Below B w w':=by
 have h':=Zh h;clear h;go_enter Tryz.func8,Tryz.ntmps8;go_wp2;go_ret;subst hB;refine⟨rfl,⟨hbs,Nat.le_refl _,by simp,a,n,c,0,heap_alloc_new w _,by omega,hn,by unfold maxLen;omega,fun j hj=>?_⟩,Zb⟩;obtain⟨b,off,z,e1,e2,e3⟩:=h'.o j hj;exact⟨b,off,z,e1,e2,(World.cell?_of_block (w:=w) (Below.heap_alloc _ _ _ e2)).trans e3⟩
end
section
open Go.RowKit
variable [Base]
theorem But.sameT {B bt:Nat} {w w':World} (ht:QZ B w bt) (h:But bt w w') {T:TypeId} (hne:T≠85):Qf T w w':=fun b c fr V hV e=>by
 rw [h.block b (Qb e) ?_]
 ·exact e
 ·rintro rfl
  obtain⟨a,n,c',i,h1,-⟩:=ht.get
  rw [h1] at e
  injection e with e
  injection e with _ e2 _
  rcases hV with hV|hV
  ·exact hne (hV.symm.trans e2.symm)
  ·have:=ht.bs;omega
theorem Qi.shape {w:World} {u:Value} {l:List Nat} (h:Qi w u l):∃a n c,u=.slice a n c:=by
 obtain⟨a,c,rfl,-⟩:=h.cell;exact⟨_,_,_,rfl⟩
theorem Qfl {s:QSet} {m:Nat} (hm:s.width=(m:Int)) (b:Nat) (u:Value) (w:World) (hf:QUb s) (hb:b<m) (hu:Qi w u s.words):Calls Tryz.prog 58 #[.agg #[.int .i64 (m:Int),u],.int .i64 b] w (Qht (putS s b) w):=by
 have h:=Qvp s b u w hf (by omega) hu;unfold setV at h;rw [hm] at h;exact h
end
section
open Go.RowKit
variable [Base]
theorem Qts:(Tryz.prog.info? 139).map (fun i=>(i.zero,i.size,i.bytes))=some (some (Value.int .u64 0),1,8):=by kernel_rfl
def Qzu (w:World) (n:Nat) (xs:List Value) (e:Ending) (w':World):Prop:=
 ∃a c,e=.returned (.slice a n c)∧w'.ownsRow w.heap.size 139 1 (.slice a n c) n xs∧Below w.heap.size w w'
theorem Qkr (w:World):(w.alloc (.cells #[] 139)).ownsRow w.heap.size 139 1 (.slice (some ⟨w.heap.size,0,none⟩) 0 0) 0 []:=
 ⟨rfl,.inr ⟨w.heap.size,0,#[],rfl,Nat.le_refl _,heap_alloc_new w _,Nat.le_refl _,Nat.zero_le _,rfl,rfl⟩⟩
theorem QXh (v:Value) (n:Nat) (xs:List Value) (w:World) (h:Qg w 139 1 v xs) (hl:xs.length=n*1) (ho:xs.all Value.oneCell'=true) (hn:n≤1000000):
  Calls Tryz.prog 91 #[v] w (Qzu w n xs):=by
 have H:=Zh h;have L:=Zh hl;have O:=Zh ho;obtain⟨m,cap,e1,e2,e3,h4⟩:=h;have hm:m=n:=by omega
 subst hm;obtain⟨oa,oc,rfl,hoc,hnil⟩:∃oa oc,v=.slice oa m oc∧oc≤maxLen∧(oa=none→m=0∧oc=0):=by
  rcases h4 with⟨⟨a,rfl⟩,rfl⟩|⟨b,off,c,fr,rfl,hb,hc⟩
  ·exact⟨a,0,rfl,Nat.zero_le _,fun _=>⟨rfl,rfl⟩⟩
  ·exact⟨_,cap,rfl,e3,fun h=>by cases h⟩
 clear h4;rcases oa with _|oa
 ·obtain⟨rfl,rfl⟩:=hnil rfl;have hx:xs=[]:=List.length_eq_zero_iff.1 (by omega);subst hx;clear hl ho e1 H L O;have q:=fun (w:World) (a:Option Addr) (n c n' c':Nat)=>Lib.run_eql_slice_nil (P:=Tryz.prog) w 50 139 a n c n' c' Tryz.underlying50
  go_enter Tryz.func91,Tryz.ntmps91;go_wp2;go_ret;exact⟨none,0,rfl,World.ownsRow_nil _ _ _ _,Below.refl _ _⟩
 ·unfold maxLen at e3 hoc;have OW:=Zh (Qkr w);clear hl ho e1 hnil;have q:=fun (w:World) (a:Option Addr) (n c n' c':Nat)=>Lib.run_eql_slice_nil (P:=Tryz.prog) w 50 139 a n c n' c' Tryz.underlying50
  go_enter Tryz.func91,Tryz.ntmps91;go_wp2_with (at_builtin;refine wpList_append_sl rfl _ _ 50 rfl w.heap.size 139 _ 1 8 Tryz.underlying50 Qts rfl (by decide) _ _ _ OW.o rfl _ m _ rfl (Qg.same H.o Qf.alloc) L.o O.o (by unfold maxLen;omega) (by omega) (by simp) ?_;intro g d w1 own1 gr1;simp only [Nat.zero_add,List.nil_append] at own1;have OW1:=Zh own1;have B1:=Zh (((Below.refl w.heap.size w).alloc (Nat.le_refl _) _).trans (Below.of_grown gr1 OW.o (by simp)));clear own1 gr1);go_ret;exact⟨_,_,by simp,OW1.o,B1.o⟩
end
section
open Go.RowKit
variable [Base]
theorem QWd {w:World} {base:Nat} {T:TypeId} {sz n c:Nat} {a:Option Addr} {xs:List Value} (h:w.ownsRow base T sz (.slice a n c) n xs) (hn:0<n) (hbs:Base.b≤base:=by omega):
  ∃g,a=some ⟨g,0,none⟩∧base≤g∧g<w.heap.size∧tyAt w g=some T∧(∀j,j<xs.length→w.cell? ⟨g,j,none⟩=xs[j]?)∧∀j,w.frozen? ⟨g,j,none⟩=false:=by
 obtain⟨h1,h2⟩:=h;rcases h2 with⟨h3,_⟩|⟨g,cap,cur,e,hb,hg,hn',hc,hs,ht⟩
 ·injection h3 with _ h3;omega
 ·injection e with e _ _
  subst e;refine⟨g,rfl,hb,Qb hg,Qv hg,fun j hj=>?_,fun j=>by simp [World.frozen?,hg]⟩;have h5:w.cell? ⟨g,j,none⟩=cur[j]?:=by simp [World.cell?,hg]
  rw [h5,←ht,List.getElem?_take_of_lt (by omega)];simp
theorem Qnu {base sz n:Nat} {e:TypeId} {v:Value} {xs:List Value} {w w':World} (h:w.ownsRow base e sz v n xs) (hb:Below w.heap.size w w'):w'.ownsRow base e sz v n xs:=by
 refine⟨h.1,?_⟩;rcases h.2 with hn|⟨g,cap,cur,rfl,hg,hh,rest⟩
 ·exact .inl hn
 ·exact .inr ⟨g,cap,cur,rfl,hg,(hb.block g (Qb hh)).trans hh,rest⟩
theorem Qza {w:World} {base sz n g j:Nat} {T U:TypeId} {v x:Value} {xs:List Value} (h:w.ownsRow base T sz v n xs) (hg:tyAt w g=some U) (hne:T≠U):(w.setCell ⟨g,j,none⟩ x).ownsRow base T sz v n xs:=by
 refine⟨h.1,?_⟩;rcases h.2 with hn|⟨b,cap,cur,rfl,hb,hh,rest⟩
 ·exact .inl hn
 ·exact .inr ⟨b,cap,cur,rfl,hb,(Qf.setCell (U:=U) hg hne).own hh,rest⟩
theorem Qao {w:World} {b b' sz n:Nat} {e:TypeId} {v:Value} {xs:List Value} (h:w.ownsRow b e sz v n xs) (hb:b'≤b):w.ownsRow b' e sz v n xs:=by
 refine⟨h.1,?_⟩;rcases h.2 with hn|⟨g,cap,cur,rfl,hg,rest⟩
 ·exact .inl hn
 ·exact .inr ⟨g,cap,cur,rfl,Nat.le_trans hb hg,rest⟩
theorem QDh (l:List Nat):(l.map uv).all Value.oneCell'=true:=by
 rw [List.all_eq_true];intro x hx;obtain⟨y,_,rfl⟩:=List.mem_map.1 hx;rfl
theorem Qvd {w:World} {base sz g n c:Nat} {T:TypeId} {xs:List Value} (h:w.ownsRow base T sz (.slice (some ⟨g,0,none⟩) n c) n xs) (j:Nat) (v:Value):(w.setCell ⟨g,j,none⟩ v).ownsRow base T sz (.slice (some ⟨g,0,none⟩) n c) n (xs.set j v):=by
 refine⟨by rw [List.length_set];exact h.1,?_⟩;rcases h.2 with⟨h1,_⟩|⟨g',cap,cur,e,hg,hh,h1,h2,h3,h4⟩
 ·cases h1
 ·injection e with e1 _ e2
  injection e1 with e1
  injection e1 with e1
  subst e1 e2;refine .inr ⟨g,c,cur.setIfInBounds j v,rfl,hg,by simp [World.setCell,Array.getElem?_modify,hh],h1,h2,by rw [Array.size_setIfInBounds];exact h3,?_⟩;rw [Array.toList_setIfInBounds,List.take_set,h4]
end
section
open Go.RowKit
variable [Base]
def Qdt (B bt:Nat) (m:Nat) (w:World) (e:Ending) (w':World):Prop:=
 ∃s u,e=.returned (setV s u)∧QUb s∧s.width=(m:Int)∧setB s=true∧Qi w' u s.words∧QZ B w' bt∧But bt w w'
structure QJf (B bt r c m:Nat) (w wr:World) (s:QSet) (u:Value):Prop where
 tape:QZ B wr bt
 but:But bt w wr
 res:wr.heap[r]? = some (.cells #[.int .i64 0,.slice none 0 0] 52 (0,0))
 cur:wr.heap[c]? = some (.cells #[.int .i64 (m:Int),u] 52 (0,0))
 form:QUb s
 width:s.width=(m:Int)
 words:Qi wr u s.words
 ok:setB s=true
 old:w.heap.size≤r∧w.heap.size≤c∧r≠c∧bt<w.heap.size
theorem QJf.next {B bt r c m:Nat} {w wr w2:World} {s:QSet} {u:Value} (h:QJf B bt r c m w wr s u) (ht:QZ B w2 bt) (hb:But bt wr w2):QJf B bt r c m w w2 s u:=by
 obtain⟨o1,o2,o3,o4⟩:=h.old;exact⟨ht,h.but.trans hb,(hb.block r (Qb h.res) (by omega)).trans h.res,(hb.block c (Qb h.cur) (by omega)).trans h.cur,h.form,h.width,h.words.keep (hb.sameT h.tape (by decide)),h.ok,h.old⟩
theorem QJf.put {B bt r c m b:Nat} {w wr w3:World} {s:QSet} {u u2:Value} (h:QJf B bt r c m w wr s u) (ho:OwnS wr.heap.size w3 u2 (putS s b)) (hb:Below wr.heap.size wr w3) (hbm:b<m):
  QJf B bt r c m w ((w3.setCell ⟨c,0,none⟩ (.int .i64 (m:Int))).setCell ⟨c,1,none⟩ u2) (putS s b) u2:=by
 obtain⟨o1,o2,o3,o4⟩:=h.old;have hc:=(hb.block c (Qb h.cur)).trans h.cur;have hr:=(hb.block r (Qb h.res)).trans h.res;have hbs:=h.tape.bs;have hty:tyAt w3 c=some 52:=Qv hc;have hbt:=h.tape.below hb;refine⟨(hbt.setCell (by show c≠bt;omega) (by show B≤c;have:=h.tape.ge;omega) _).setCell (by show c≠bt;omega) (by show B≤c;have:=h.tape.ge;omega) _,
  ((h.but.below hb).setCell ⟨c,0,none⟩ (.inr o2) _).setCell ⟨c,1,none⟩ (.inr o2) _,?_,?_,Qnd h.form b,h.width,?_,QPr h.ok h.words.2 (by rw [h.width];omega),h.old⟩
 ·rw [Below.heap_setCell _ _ _ _ (by show r≠c;omega),Below.heap_setCell _ _ _ _ (by show r≠c;omega)];exact hr
 ·simp [World.setCell,Array.getElem?_modify,hc]
 ·exact ho.words.keep (Qf.trans (Qf.setCell (U:=52) hty (by decide)) (Qf.setCell (U:=52) ((QS c).trans hty) (by decide)))
theorem Qfb {B bt:Nat} (m:Nat) (hm:m≤256) (w:World) (ht:QZ B w bt):Calls Tryz.prog 34 #[.pointer (some ⟨bt,0,none⟩),.int .i64 m] w (Qdt B bt m w):=by
 have hlt:=ht.lt;have HT:=Zh ht;clear ht;go_enter Tryz.func34,Tryz.ntmps34;go_wp2_with fail;refine(Qjc m hm _).mono ?_;rintro e v ⟨u,rfl,ho,b1⟩;obtain⟨ua,un,uc,rfl⟩:=ho.words.shape;have I0:Hid (QJf B bt w.heap.size v.heap.size m w (v.alloc (.cells #[.int .i64 (m:Int),.slice ua un uc] 52)) (Qy m) (.slice ua un uc)):=by
  have h1:=(Qc (heap_alloc_new w (.cells #[.int .i64 0,.slice none 0 0] 52)) b1 (by simp));have hs:=b1.size;simp only [World.size_alloc] at hs;exact⟨((HT.o.alloc _).below b1).alloc _,(((But.refl bt w).alloc _).below b1).alloc _,Qz _ h1,heap_alloc_new _ _,QZb hm,rfl,ho.words.keep Qf.alloc,QUm hm,by omega,by omega,by omega,hlt⟩
 obtain⟨V,hV⟩:=Ze (v.alloc (.cells #[.int .i64 (m:Int),.slice ua un uc] 52));rw [hV] at I0;have HV:=Zh hV;rw [show setV (Qy m) (.slice ua un uc)=.agg #[.int .i64 (m:Int),.slice ua un uc] from rfl];clear ho b1 hV;go_wp2_with fail;rw [show v.alloc (.cells #[.int .i64 (m:Int),.slice ua un uc] 52)=V from HV.o];go_loopw [6] (fun y wr=>∃i:Nat,i≤m∧y=.int .i64 i∧Hid (∃s u,QJf B bt w.heap.size v.heap.size m w wr s u)) (fun y _=>m-(intOf y).toNat)
 case atStart=>exact⟨0,Nat.zero_le _,rfl,_,_,I0.o⟩
 case round=>
  clear I0;obtain⟨i,hi,rfl,I⟩:=hrel;obtain⟨s,u',I⟩:=I;obtain⟨va,vn,vc,rfl⟩:=I.words.shape;have HI:=Zh I;clear I;by_cases hi2:i<m
  ·go_wp2_with fail;refine(QMc HI.o.tape 3 (by omega)).mono ?_;rintro e w2 ⟨z,z1,z2,rfl,ht2,hb2⟩;have J:=Zh (HI.o.next ht2 hb2);have L0:=(Qa J.o.cur).1 0;have L1:=(Qa J.o.cur).1 1;have L2:=(Qa J.o.cur).2 0;have L3:=(Qa J.o.cur).2 1;simp only [Zx,Zy,Zz] at L0 L1;clear ht2 hb2;by_cases hz:z=1
   ·subst hz;go_wp2_with fail;refine(Qfl J.o.width i (.slice va vn vc) _ J.o.form hi2 J.o.words).mono ?_;rintro e w3 ⟨u3,rfl,ho,b3⟩;obtain⟨ta,tn,tc,rfl⟩:=ho.words.shape;have J3:=Zh (J.o.put ho b3 hi2);have L0:=(b3.cell (p:=⟨v.heap.size,0,none⟩) (Qb J.o.cur)).trans L0;have L1:=(b3.cell (p:=⟨v.heap.size,1,none⟩) (Qb J.o.cur)).trans L1;have L2:=(b3.frozen (p:=⟨v.heap.size,0,none⟩) (Qb J.o.cur)).trans L2;have L3:=(b3.frozen (p:=⟨v.heap.size,1,none⟩) (Qb J.o.cur)).trans L3;rw [show setV (putS s i) (.slice ta tn tc)=.agg #[.int .i64 (m:Int),.slice ta tn tc] by unfold setV;rw [show(putS s i).width=s.width from rfl,J.o.width]];clear ho b3;go_wp2;go_roundw
    case rel=>exact⟨i+1,by omega,by go_num,_,_,J3.o⟩
    case measure=>simp [intOf];omega
   ·have hzb:(z==1)=false:=by simpa using hz
    clear hz;go_wp2;go_roundw
    case rel=>exact⟨i+1,by omega,by go_num,_,_,J.o⟩
    case measure=>simp [intOf];omega
  ·have K0:=(Qa HI.o.cur).1 0;have K1:=(Qa HI.o.cur).1 1;have R0:=(Qa HI.o.res).1 0;have R1:=(Qa HI.o.res).1 1;have R2:=(Qa HI.o.res).2 0;have R3:=(Qa HI.o.res).2 1;simp only [Zx,Zy,Zz] at K0 K1 R0 R1;have hrc:=HI.o.old.2.2.1;go_wp2;refine bodyPost_ret (v:=setV s (.slice va vn vc)) (by rw [show setV s (.slice va vn vc)=.agg #[.int .i64 (m:Int),.slice va vn vc] by unfold setV;rw [HI.o.width]];simp [results,Tryz.results34,go_sem,R0,R1]) rfl ⟨s,_,rfl,HI.o.form,HI.o.width,HI.o.ok,?_,?_,?_⟩
   ·exact HI.o.words.keep (Qf.trans (Qf.setCell (U:=52) (Qv HI.o.res (by have:=HI.o.tape.bs;show Base.b≤w.heap.size;omega)) (by decide)) (Qf.setCell (U:=52) ((QS _).trans (Qv HI.o.res (by have:=HI.o.tape.bs;show Base.b≤w.heap.size;omega))) (by decide)))
   ·exact(HI.o.tape.setCell (by show w.heap.size≠bt;omega) (by show B≤w.heap.size;have:=HI.o.tape.ge;omega) _).setCell (by show w.heap.size≠bt;omega) (by show B≤w.heap.size;have:=HI.o.tape.ge;omega) _
   ·exact(HI.o.but.setCell ⟨w.heap.size,0,none⟩ (.inr (Nat.le_refl _)) _).setCell ⟨w.heap.size,1,none⟩ (.inr (Nat.le_refl _)) _
end
section
open Go.RowKit
variable [Base]
theorem Qg.front {w:World} {T:TypeId} {sz b off n c:Nat} {xs:List Value} (h:Qg w T sz (.slice (some ⟨b,off,none⟩) n c) xs) (k:Nat) (hk:k≤n):Qg w T sz (.slice (some ⟨b,off,none⟩) k c) (xs.take (k*sz)):=by
 obtain⟨n',cap,h1,h2,h3,h4⟩:=h;rcases h4 with⟨⟨a',h4⟩,h0⟩|⟨b',off',cs,fr,e1,e2,e3⟩
 ·injection h4 with h4 h6 h7
  subst h0 h6 h7;obtain rfl:k=0:=by omega
  have hx:xs=[]:=List.length_eq_zero_iff.1 (by omega);exact⟨0,0,by simp [hx],Nat.le_refl _,Nat.zero_le _,.inl ⟨⟨_,rfl⟩,rfl⟩⟩
 ·injection e1 with e1 e4 e5
  injection e1 with e1
  injection e1 with e6 e7
  subst e4 e5 e6 e7;have hm:=Nat.mul_le_mul_right sz hk;refine⟨k,c,by rw [List.length_take,h1];omega,by omega,h3,.inr ⟨b,off,cs,fr,rfl,e2,fun j hj=>?_⟩⟩;rw [List.length_take] at hj;rw [e3 j (by omega),List.getElem?_take_of_lt (by omega)]
theorem Qg.back {w:World} {T:TypeId} {sz b off n c:Nat} {xs:List Value} (h:Qg w T sz (.slice (some ⟨b,off,none⟩) n c) xs) (k:Nat) (hk:k≤n):Qg w T sz (.slice (some ⟨b,off+k*sz,none⟩) (n-k) (c-k)) (xs.drop (k*sz)):=by
 obtain⟨n',cap,h1,h2,h3,h4⟩:=h;rcases h4 with⟨⟨a',h4⟩,h0⟩|⟨b',off',cs,fr,e1,e2,e3⟩
 ·injection h4 with h4 h6 h7
  subst h0 h6 h7;obtain rfl:k=0:=by omega
  have hx:xs=[]:=List.length_eq_zero_iff.1 (by omega);exact⟨0,0,by simp [hx],Nat.le_refl _,Nat.zero_le _,.inl ⟨⟨_,rfl⟩,rfl⟩⟩
 ·injection e1 with e1 e4 e5
  injection e1 with e1
  injection e1 with e6 e7
  subst e4 e5 e6 e7;refine⟨n-k,c-k,by rw [List.length_drop,h1,Nat.sub_mul],by omega,by omega,.inr ⟨b,off+k*sz,cs,fr,rfl,e2,fun j hj=>?_⟩⟩;rw [List.length_drop] at hj;rw [Nat.add_assoc,e3 (k*sz+j) (by omega),List.getElem?_drop]
theorem Qg.backEnd {w:World} {T:TypeId} {sz b off n c o:Nat} {xs:List Value} (h:Qg w T sz (.slice (some ⟨b,off,none⟩) n c) xs) (k:Nat) (hk:n=k):Qg w T sz (.slice (some ⟨b,o,none⟩) (n-k) (c-k)) (xs.drop (k*sz)):=by
 obtain⟨n',cap,h1,h2,h3,h4⟩:=h;rcases h4 with⟨⟨a',h4⟩,h0⟩|⟨b',off',cs,fr,e1,e2,e3⟩
 ·injection h4 with h4 h6 h7
  subst h0 h6 h7;obtain rfl:k=0:=by omega
  have hx:xs=[]:=List.length_eq_zero_iff.1 (by omega);exact⟨0,0,by simp [hx],Nat.le_refl _,Nat.zero_le _,.inl ⟨⟨_,rfl⟩,rfl⟩⟩
 ·injection e1 with e1 e4 e5
  injection e1 with e1
  injection e1 with e6 e7
  subst e4 e5 e6 e7;subst hk;have hx:xs.drop (n*sz)=[]:=by rw [←h1];exact List.drop_length
  rw [hx];refine⟨n-n,c-n,by simp,by omega,by omega,.inr ⟨b,o,cs,fr,rfl,e2,fun j hj=>?_⟩⟩;simp at hj
theorem Qil {xs:List Value} (h:xs.all Value.oneCell'=true) (k:Nat):(xs.take k).all Value.oneCell'=true:=by
 rw [List.all_eq_true] at h ⊢;exact fun x hx=>h x (List.mem_of_mem_take hx)
theorem QBt {xs:List Value} (h:xs.all Value.oneCell'=true) (k:Nat):(xs.drop k).all Value.oneCell'=true:=by
 rw [List.all_eq_true] at h ⊢;exact fun x hx=>h x (List.mem_of_mem_drop hx)
theorem QVr {w w':World} {base:Nat} {e:TypeId} {size:Nat} {v:Value} {n:Nat} {xs:List Value} (h:w.ownsRow base e size v n xs) (hb:∀q,q<w.heap.size→base≤q→w'.heap[q]? = w.heap[q]?):w'.ownsRow base e size v n xs:=by
 obtain⟨h1,h2⟩:=h;refine⟨h1,?_⟩;rcases h2 with h2|⟨g,cap,cur,e1,e2,e3,e4⟩
 ·exact .inl h2
 ·exact .inr ⟨g,cap,cur,e1,e2,(hb g (Qb e3) e2).trans e3,e4⟩
theorem QZd {w w':World} {base:Nat} {e:TypeId} {size:Nat} {v:Value} {n:Nat} {xs:List Value} (h:w.ownsRow base e size v n xs) (hb:Below w.heap.size w w'):w'.ownsRow base e size v n xs:=QVr h fun q hq _=>hb.block q hq
theorem Qjm {w:World} {base base':Nat} {e:TypeId} {size:Nat} {v:Value} {n:Nat} {xs:List Value} (h:w.ownsRow base e size v n xs) (hb:base'≤base):w.ownsRow base' e size v n xs:=by
 obtain⟨h1,h2⟩:=h;refine⟨h1,?_⟩;rcases h2 with h2|⟨g,cap,cur,e1,e2,e3⟩
 ·exact .inl h2
 ·exact .inr ⟨g,cap,cur,e1,Nat.le_trans hb e2,e3⟩
end
section
open Go.RowKit
variable [Base]
theorem QJp {l:List Int} {n:Int} {i:Nat} (hA:Asc l) (hi:i≤l.length) (h1:∀j x,j<i→l[j]? = some x→x<n) (h2:∀x,l[i]? = some x→n<x):insI l n=l.take i++n::l.drop i:=by
 have hgt:∀j x,i≤j→l[j]? = some x→n<x:=fun j x hj hx=>by
  have hjl:=(List.getElem?_eq_some_iff.1 hx).1;have hil:i<l.length:=by omega
  have h3:=h2 _ (List.getElem?_eq_getElem hil);rcases Nat.eq_or_lt_of_le hj with rfl|hlt
  ·rw [List.getElem?_eq_getElem hil] at hx;injection hx with hx;omega
  ·have:=(List.pairwise_iff_getElem.1 hA) i j hil hjl hlt;rw [List.getElem?_eq_getElem hjl] at hx;injection hx with hx
   omega
 have hn:n∉l:=fun h=>by
  obtain⟨j,hj⟩:=List.mem_iff_getElem?.1 h;rcases Nat.lt_or_ge j i with h3|h3
  ·have:=h1 j n h3 hj;omega
  ·have:=hgt j n h3 hj;omega
 unfold insI;rw [if_neg hn];have hT:∀(l:List Int) (i:Nat),i≤l.length→(∀j x,j<i→l[j]? = some x→x<n)→(∀x,l[i]? = some x→¬x<n)→l.takeWhile (decide <| · < n)=l.take i∧l.dropWhile (decide <| · < n)=l.drop i:=fun l=>by
  induction l with
 |nil=>intro i hi _ _;simp
 |cons y r ih=>
   intro i hi h1 h2
   cases i with
  |zero=>
    have:=h2 y rfl;simp [this]
  |succ i=>
    have h3:=h1 0 y (by omega) rfl;obtain⟨k1,k2⟩:=ih i (by simpa using hi) (fun j x hj hx=>h1 (j+1) x (by omega) (by simpa using hx)) (fun x hx=>h2 x (by simpa using hx));simp [h3,k1,k2]
 obtain⟨k1,k2⟩:=hT l i hi h1 (fun x hx=>by have:=h2 x hx;omega);rw [k1,k2]
theorem Qwc {w:World} {k:Nat} (h:w.heap.size=k):(w.alloc (.cells #[] 3)).ownsRow k 3 1 (.slice (some ⟨k,0,none⟩) 0 0) 0 []:=by
 subst h;exact⟨rfl,.inr ⟨w.heap.size,0,#[],rfl,Nat.le_refl _,heap_alloc_new w _,Nat.le_refl _,Nat.zero_le _,rfl,rfl⟩⟩
def QAh (w:World) (v:Value) (l:List Int):Prop:=QJa w v l∧((v=.slice none 0 0∧l=[])∨∃b o c,v=.slice (some ⟨b,o,none⟩) l.length c)
def QCu (l:List Int) (w:World) (e:Ending) (w':World):Prop:=∃v,e=.returned v∧QAh w' v l∧Below w.heap.size w w'
theorem Qyo (l:List Int) (x:Int) (u:Value) (w:World) (hu:QAh w u l) (hA:Asc l) (hn:l.length≤1000) (hbs:Base.b≤w.heap.size):Calls Tryz.prog 65 #[u,iv x] w (QCu (insI l x) w):=by
 have FINB:=Zh (show ∀(v:Value) (w':World) (L:List Int) (n:Nat),L.length=n→0<n→w'.ownsRow w.heap.size 3 1 v n (L.map iv)→QAh w' v L from fun v w' L n hl h0 ho=>by
  subst hl;obtain⟨a,c,rfl,-,-⟩:=QXa ho;obtain⟨g,rfl,-⟩:=QWd ho h0 hbs;exact⟨Qg.of_owns ho,.inr ⟨_,_,_,rfl⟩⟩)
 rcases hu.2 with⟨rfl,rfl⟩|⟨b,o,c,rfl⟩
 ·have HE:=Zh (show insI [] x=[x] from rfl);clear hu hA hn;go_enter Tryz.func65,Tryz.ntmps65;go_wp2;refine wp_loop_rounds 1 ?_;rw [rounds_succ];go_wp2_with (first
  |(at_builtin;refine wpList_append_sl rfl _ _ 22 rfl w.heap.size 3 _ 1 8 Tryz.underlying22 QRa rfl (by decide) _ _ _ (Qwc rfl) rfl _ 0 ([]:List Value) rfl Qg.nil (by simp;try omega) (by simp [Value.oneCell']) (by unfold maxLen;omega) (by omega) (by simp) ?_
    intro g c1 w1 ho hg;rw [Nat.zero_add] at ho ⊢;rw [List.nil_append] at ho;have BA:=((Below.refl w.heap.size w).alloc (Nat.le_refl _) (.cells #[] 3)).trans (Below.of_grown hg (Qwc rfl) (by simp));have B1:=Zh (BA:Below w.heap.size w w1);have HO1:=Zh ho;have hw1:w.heap.size≤w1.heap.size:=BA.size;clear ho hg BA)
  |(at_builtin;refine QL [iv x] rfl _ _ _ rfl w.heap.size 3 _ 1 8 Tryz.underlying22 QRa rfl (by omega) _ _ _ HO1.o rfl rfl rfl rfl (by unfold maxLen;omega) (by omega) hw1 ?_
    intro g2 c2 w2 ho hg hgz hgw;have B2:=Zh (B1.o.trans (Below.of_grown hg HO1.o hw1):Below w.heap.size w w2);have HO2:=Zh ho;have hw2:w.heap.size≤w2.heap.size:=B2.o.size;clear ho hg hgz hgw)
  |(at_builtin;refine wpList_append_sl rfl _ _ 22 rfl w.heap.size 3 _ 1 8 Tryz.underlying22 QRa rfl (by decide) _ _ _ HO2.o rfl _ 0 ([]:List Value) rfl ((Qg.nil:Qg w2 3 1 (.slice none 0 0) [])) (by simp;try omega) (by simp [Value.oneCell']) (by unfold maxLen;omega) (by omega) hw2 ?_
    intro g3 c3 w3 ho hg;have B3:=Zh (B2.o.trans (Below.of_grown hg HO2.o hw2):Below w.heap.size w w3);have HO3:=Zh ho;clear ho hg))
  go_ret;exact⟨_,rfl,by rw [HE.o];exact FINB.o _ _ [x] 1 rfl (by omega) (by simpa using HO3.o),B3.o⟩
 ·have HU:=Zh hu.1;obtain⟨a',c',e,hm,hlc,-,hc⟩:=hu.1.cell;injection e with e1 e2 e3
  subst e1 e3;have HC:=Zh hc;have HAS:=Zh hA;obtain⟨n,hln⟩:=Ze l.length;rw [hln] at HU hn hm hlc ⊢;have HL:=Zh hln;clear hu hA hc hln;go_enter Tryz.func65,Tryz.ntmps65;go_wp2;go_loopw [5] (fun y wr=>∃i:Nat,i≤n∧y=.int .i64 i∧w=wr∧Hid (∀j y,j<i→l[j]? = some y→y<x)) (fun y _=>n-(intOf y).toNat)
  case atStart=>exact⟨0,Nat.zero_le _,rfl,rfl,fun j y hj=>by omega⟩
  case round=>
   obtain⟨i,hi,rfl,rfl,HI⟩:=hrel;by_cases hlt:i<n
   ·obtain⟨y,hy⟩:∃y,l[i]? = some y:=⟨_,List.getElem?_eq_getElem (by rw [HL.o];exact hlt)⟩;obtain⟨jb,jo,e,hjb,g0⟩:=HC.o i y hy;injection e with e
    injection e with e1 e2
    subst e1 e2;by_cases h1:y<x
    ·have t1:decide (y<x)=true:=by simpa using h1
     have HI2:=Zh (show ∀j y,j<i+1→l[j]? = some y→y<x from fun j y' hj h=>by
      rcases Nat.lt_or_eq_of_le (Nat.le_of_lt_succ hj) with h2|h2
      ·exact HI.o j y' h2 h
      ·subst h2;rw [hy] at h;injection h with h;omega)
     clear hy h1;go_wp2;go_roundw
     case rel=>exact⟨i+1,by omega,by go_num,(by first|rfl|trivial),HI2⟩
     case measure=>simp [intOf];omega
    ·have t1:decide (y<x)=false:=by simpa using h1
     by_cases h2:y=x
     ·have t2:(y==x)=true:=by simpa using h2
      have HE:=Zh (show insI l x=l by unfold insI;rw [if_pos (h2▸List.mem_of_getElem? hy)]);clear hy h1 h2;go_wp2;go_ret;exact⟨.slice (some ⟨b,o,none⟩) n c,rfl,by rw [HE.o];exact⟨HU.o,.inr ⟨_,_,_,by rw [HL.o]⟩⟩,Below.refl _ _⟩
     ·have t2:(y==x)=false:=by simpa using h2
      have HE:=Zh (show insI l x=l.take i++x::l.drop i from QJp HAS.o (by rw [HL.o];exact hi) HI.o (fun y' h=>by rw [hy] at h;injection h with h;omega));clear hy h1 h2;go_wp2_with (first
      |(at_builtin;refine wpList_append_sl rfl _ _ 22 rfl w.heap.size 3 _ 1 8 Tryz.underlying22 QRa rfl (by decide) _ _ _ (Qwc rfl) rfl _ i (l.map iv |>.take (i*1)) rfl (Qg.same (Qg.front HU.o i hi) Qf.alloc) (by simp [HL.o];try omega) (Qil (by simp [Value.oneCell']) _) (by unfold maxLen;omega) (by omega) (by simp) ?_
        intro g c1 w1 ho hg;rw [Nat.zero_add] at ho ⊢;rw [List.nil_append] at ho;have BA:=((Below.refl w.heap.size w).alloc (Nat.le_refl _) (.cells #[] 3)).trans (Below.of_grown hg (Qwc rfl) (by simp));have B1:=Zh (BA:Below w.heap.size w w1);have HO1:=Zh ho;have hw1:w.heap.size≤w1.heap.size:=BA.size;clear ho hg BA)
      |(at_builtin;refine QL [iv x] rfl _ _ _ rfl w.heap.size 3 _ 1 8 Tryz.underlying22 QRa rfl (by omega) _ _ _ HO1.o rfl rfl rfl rfl (by unfold maxLen;omega) (by omega) hw1 ?_
        intro g2 c2 w2 ho hg hgz hgw;have B2:=Zh (B1.o.trans (Below.of_grown hg HO1.o hw1):Below w.heap.size w w2);have HO2:=Zh ho;have hw2:w.heap.size≤w2.heap.size:=B2.o.size;clear ho hg hgz hgw)
      |(at_builtin;refine wpList_append_sl rfl _ _ 22 rfl w.heap.size 3 _ 1 8 Tryz.underlying22 QRa rfl (by decide) _ _ _ HO2.o rfl _ (n-i) (l.map iv |>.drop i) rfl (by have h:=Qg.same (Qg.back HU.o i hi) (Qf.below B2.o);rw [Nat.mul_one] at h;exact h) (by simp [HL.o];try omega) (QBt (by simp [Value.oneCell']) _) (by unfold maxLen;omega) (by omega) hw2 ?_
        intro g3 c3 w3 ho hg;have B3:=Zh (B2.o.trans (Below.of_grown hg HO2.o hw2):Below w.heap.size w w3);have HO3:=Zh ho;clear ho hg))
      go_ret;exact⟨_,rfl,by
       rw [HE.o];refine FINB.o _ _ _ (i+1+(n-i)) (by simp [HL.o];omega) (by omega) ?_;have h:=HO3.o;rw [Nat.mul_one,←List.map_take,←List.map_drop] at h
       simpa using h,B3.o⟩
   ·obtain rfl:i=n:=by omega
    have HE:=Zh (show insI l x=l.take i++x::l.drop i from QJp HAS.o (by rw [HL.o];exact Nat.le_refl _) HI.o (fun y' h=>by
     have:=(List.getElem?_eq_some_iff.1 h).1;rw [HL.o] at this;omega))
    have HDR:=Zh (show(l.map iv).drop (i*1)=[] from List.drop_eq_nil_of_le (by rw [List.length_map,HL.o];omega));by_cases hcap:c=i
    ·subst hcap;go_wp2_with (first
     |(at_builtin;refine wpList_append_sl rfl _ _ 22 rfl w.heap.size 3 _ 1 8 Tryz.underlying22 QRa rfl (by decide) _ _ _ (Qwc rfl) rfl _ c (l.map iv |>.take (c*1)) rfl (Qg.same (Qg.front HU.o c hi) Qf.alloc) (by simp [HL.o];try omega) (Qil (by simp [Value.oneCell']) _) (by unfold maxLen;omega) (by omega) (by simp) ?_
       intro g c1 w1 ho hg;rw [Nat.zero_add] at ho ⊢;rw [List.nil_append] at ho;have BA:=((Below.refl w.heap.size w).alloc (Nat.le_refl _) (.cells #[] 3)).trans (Below.of_grown hg (Qwc rfl) (by simp));have B1:=Zh (BA:Below w.heap.size w w1);have HO1:=Zh ho;have hw1:w.heap.size≤w1.heap.size:=BA.size;clear ho hg BA)
     |(at_builtin;refine QL [iv x] rfl _ _ _ rfl w.heap.size 3 _ 1 8 Tryz.underlying22 QRa rfl (by omega) _ _ _ HO1.o rfl rfl rfl rfl (by unfold maxLen;omega) (by omega) hw1 ?_
       intro g2 c2 w2 ho hg hgz hgw;have B2:=Zh (B1.o.trans (Below.of_grown hg HO1.o hw1):Below w.heap.size w w2);have HO2:=Zh ho;have hw2:w.heap.size≤w2.heap.size:=B2.o.size;clear ho hg hgz hgw)
     |(at_builtin;refine wpList_append_sl rfl _ _ 22 rfl w.heap.size 3 _ 1 8 Tryz.underlying22 QRa rfl (by decide) _ _ _ HO2.o rfl _ 0 [] rfl (by
        have h:=fun o'=>Qg.same (Qg.backEnd (o:=o') HU.o c rfl) (Qf.below B2.o)
        simp only [Nat.sub_self,HDR.o] at h;exact h _) (by simp) rfl (by unfold maxLen;omega) (by omega) hw2 ?_
       intro g3 c3 w3 ho hg;have B3:=Zh (B2.o.trans (Below.of_grown hg HO2.o hw2):Below w.heap.size w w3);have HO3:=Zh ho;clear ho hg))
     go_ret;exact⟨_,rfl,by
      rw [HE.o];refine FINB.o _ _ _ (c+1+0) (by simp [HL.o]) (by omega) ?_;have h:=HO3.o;have e:l.drop c=[]:=List.drop_eq_nil_of_le (by rw [HL.o];exact Nat.le_refl _);rw [Nat.mul_one,←List.map_take] at h;rw [e]
      simpa using h,B3.o⟩
    ·have hcap2:¬i=c:=fun h=>hcap h.symm
     go_wp2_with (first
     |(at_builtin;refine wpList_append_sl rfl _ _ 22 rfl w.heap.size 3 _ 1 8 Tryz.underlying22 QRa rfl (by decide) _ _ _ (Qwc rfl) rfl _ i (l.map iv |>.take (i*1)) rfl (Qg.same (Qg.front HU.o i hi) Qf.alloc) (by simp [HL.o];try omega) (Qil (by simp [Value.oneCell']) _) (by unfold maxLen;omega) (by omega) (by simp) ?_
       intro g c1 w1 ho hg;rw [Nat.zero_add] at ho ⊢;rw [List.nil_append] at ho;have BA:=((Below.refl w.heap.size w).alloc (Nat.le_refl _) (.cells #[] 3)).trans (Below.of_grown hg (Qwc rfl) (by simp));have B1:=Zh (BA:Below w.heap.size w w1);have HO1:=Zh ho;have hw1:w.heap.size≤w1.heap.size:=BA.size;clear ho hg BA)
     |(at_builtin;refine QL [iv x] rfl _ _ _ rfl w.heap.size 3 _ 1 8 Tryz.underlying22 QRa rfl (by omega) _ _ _ HO1.o rfl rfl rfl rfl (by unfold maxLen;omega) (by omega) hw1 ?_
       intro g2 c2 w2 ho hg hgz hgw;have B2:=Zh (B1.o.trans (Below.of_grown hg HO1.o hw1):Below w.heap.size w w2);have HO2:=Zh ho;have hw2:w.heap.size≤w2.heap.size:=B2.o.size;clear ho hg hgz hgw)
     |(at_builtin;refine wpList_append_sl rfl _ _ 22 rfl w.heap.size 3 _ 1 8 Tryz.underlying22 QRa rfl (by decide) _ _ _ HO2.o rfl _ 0 [] rfl (by
        have h:=fun o'=>Qg.same (Qg.backEnd (o:=o') HU.o i rfl) (Qf.below B2.o)
        simp only [Nat.sub_self,HDR.o] at h;exact h _) (by simp) rfl (by unfold maxLen;omega) (by omega) hw2 ?_
       intro g3 c3 w3 ho hg;have B3:=Zh (B2.o.trans (Below.of_grown hg HO2.o hw2):Below w.heap.size w w3);have HO3:=Zh ho;clear ho hg))
     go_ret;exact⟨_,rfl,by
      rw [HE.o];refine FINB.o _ _ _ (i+1+0) (by simp [HL.o]) (by omega) ?_;have h:=HO3.o;have e:l.drop i=[]:=List.drop_eq_nil_of_le (by rw [HL.o];exact Nat.le_refl _);rw [Nat.mul_one,←List.map_take] at h;rw [e]
      simpa using h,B3.o⟩
def Qxu (B bt:Nat) (w:World) (e:Ending) (w':World):Prop:=∃r:Nat,r≤8∧e=.returned (iv r)∧QZ B w' bt∧But bt w w'
theorem Qfq {B bt:Nat} (w:World) (ht:QZ B w bt):Calls Tryz.prog 77 #[.pointer (some ⟨bt,0,none⟩)] w (Qxu B bt w):=by
 obtain⟨W,hW⟩:=Ze (w.alloc (.cells #[iv 3,iv 1,iv 4,iv 2,iv 6,iv 0,iv 8] 3));obtain⟨q,hq⟩:=Ze w.heap.size;have HT:=Zh (show QZ B W bt by rw [←hW];exact ht.alloc _);have HB:=Zh (show But bt w W by rw [←hW];exact(But.refl bt w).alloc _);have HQ:=Zh (show W.heap[q]? = some (.cells #[iv 3,iv 1,iv 4,iv 2,iv 6,iv 0,iv 8] 3 (0,0)) by rw [←hW,←hq];exact heap_alloc_new _ _);have hbq:bt<q:=by rw [←hq];exact ht.lt
 have HW:=Zh hW;clear hW ht;go_enter Tryz.func77,Tryz.ntmps77;go_wp2_with fail
 try rw [hq]
 rw [show w.alloc (.cells #[iv 3,iv 1,iv 4,iv 2,iv 6,iv 0,iv 8] 3)=W from HW.o];refine(QMc HT.o 7 (by omega)).mono ?_;rintro e w1 ⟨r,h0,h7,rfl,ht1,hb1⟩;obtain⟨rn,rfl⟩:=Int.eq_ofNat_of_zero_le h0;have hr7:rn<7:=by omega
 have HT1:=Zh ht1;have HB1:=Zh (HB.o.trans hb1);have HQ1:=Zh ((hb1.block q (Qb HQ.o) (by omega)).trans HQ.o);clear h0 h7 ht1 hb1;obtain⟨v,hv8,hc⟩:∃v:Nat,v≤8∧w1.cell? ⟨q,rn,none⟩=some (iv v):=by
  have h:=(Qa HQ1.o).1 rn;have:rn=0∨rn=1∨rn=2∨rn=3∨rn=4∨rn=5∨rn=6:=by omega
  rcases this with rfl|rfl|rfl|rfl|rfl|rfl|rfl
  ·exact⟨3,by omega,h⟩
  ·exact⟨1,by omega,h⟩
  ·exact⟨4,by omega,h⟩
  ·exact⟨2,by omega,h⟩
  ·exact⟨6,by omega,h⟩
  ·exact⟨0,by omega,h⟩
  ·exact⟨8,by omega,h⟩
 go_wp2;go_ret;exact⟨v,hv8,rfl,HT1.o,HB1.o⟩
end
section
open Go.RowKit
variable [Base]
theorem Qbl (l:List UInt8):(⟨l.toArray⟩:ByteArray).size=l.length:=by show l.toArray.size=_;simp
theorem Qgb {a b:Bool} (h:a=b):Ending.returned (.bool a)=.returned (.bool b):=by rw [h]
def Qvn (w:World) (a:Option Addr) (ls:List (List UInt8)):Prop:=∀(k:Nat) s,ls[k]? = some s→∃b off,a=some ⟨b,off,none⟩∧w.cell? ⟨b,off+k,none⟩=some (.string ⟨s.toArray⟩)
theorem Qig (ls:List (List UInt8)) (k:Nat) (s l:List UInt8) (h:ls[k]? = some s):hasB (ls.drop k) l=(l==s||hasB (ls.drop (k+1)) l):=by
 obtain⟨h1,rfl⟩:=List.getElem?_eq_some_iff.1 h;unfold hasB;rw [List.drop_eq_getElem_cons h1,List.contains_cons]
end
section
open Go.RowKit
theorem Qtp {k:IntKind} {a b:Int} (h:a=b):Ending.returned (.int k a)=.returned (.int k b):=by rw [h]
theorem QIk (c:Int) (w:World):
  Calls Tryz.prog 256 #[.int .u8 c] w fun e w'=>e=.returned (.bool (QAc c))∧w'=w:=by
 unfold QAc;by_cases h1:48≤c
 ·go_enter Tryz.func256,Tryz.ntmps256;go_wp2;go_ret;exact⟨by simp [h1],rfl⟩
 ·have h1':decide (48≤c)=false:=by simp;omega
  go_enter Tryz.func256,Tryz.ntmps256;go_wp2;go_ret;exact⟨by simp [h1'],rfl⟩
theorem QQa (c:Int) (w:World):
  Calls Tryz.prog 219 #[.int .u8 c] w fun e w'=>e=.returned (.bool (QAc c))∧w'=w:=by
 unfold QAc;by_cases h1:48≤c
 ·go_enter Tryz.func219,Tryz.ntmps219;go_wp2;go_ret;exact⟨by simp [h1],rfl⟩
 ·have h1':decide (48≤c)=false:=by simp;omega
  go_enter Tryz.func219,Tryz.ntmps219;go_wp2;go_ret;exact⟨by simp [h1'],rfl⟩
theorem Qqe (c:Int) (w:World):
  Calls Tryz.prog 228 #[.int .u8 c] w fun e w'=>e=.returned (.bool (Qjb c))∧w'=w:=by
 have hl:∀b,Qjb c=b→Qjb c=b:=fun _ h=>h
 by_cases h1:97≤c
 ·by_cases h2:c≤122
  ·have hv:Qjb c=true:=by simp [Qjb,h1,h2]
   rw [hv];clear hl hv;go_enter Tryz.func228,Tryz.ntmps228;go_wp2;go_ret;exact⟨rfl,rfl⟩
  ·have hv:Qjb c=false:=by simp [Qjb];omega
   have h3:65≤c:=by omega
   have h2':decide (c≤122)=false:=by simp;omega
   have h4':decide (c≤90)=false:=by simp;omega
   rw [hv];clear hl hv;go_enter Tryz.func228,Tryz.ntmps228;go_wp2;go_ret;exact⟨rfl,rfl⟩
 ·have h1':decide (97≤c)=false:=by simp;omega
  by_cases h3:65≤c
  ·by_cases h4:c≤90
   ·have hv:Qjb c=true:=by simp [Qjb];omega
    rw [hv];clear hl hv;go_enter Tryz.func228,Tryz.ntmps228;go_wp2;go_ret;exact⟨rfl,rfl⟩
   ·have hv:Qjb c=false:=by simp [Qjb];omega
    have h4':decide (c≤90)=false:=by simp;omega
    rw [hv];clear hl hv;go_enter Tryz.func228,Tryz.ntmps228;go_wp2;go_ret;exact⟨rfl,rfl⟩
  ·have hv:Qjb c=false:=by simp [Qjb];omega
   have h3':decide (65≤c)=false:=by simp;omega
   rw [hv];clear hl hv;go_enter Tryz.func228,Tryz.ntmps228;go_wp2;go_ret;exact⟨rfl,rfl⟩
def QOa (c:Int):Bool:=Qjb c||c==95
theorem Qim (c:Int) (w:World):
  Calls Tryz.prog 250 #[.int .u8 c] w fun e w'=>e=.returned (.bool (Qsb c))∧w'=w:=by
 unfold Qsb
 cases hl:Qjb c
 ·cases hd:QAc c
  all_goals
   go_enter Tryz.func250,Tryz.ntmps250;go_wp2_with (first|(go_at_call 228;refine(Qqe _ _).mono ?_;rintro e w' ⟨rfl,rfl⟩)|(go_at_call 256;refine(QIk _ _).mono ?_;rintro e w' ⟨rfl,rfl⟩));go_ret;exact⟨rfl,rfl⟩
 ·go_enter Tryz.func250,Tryz.ntmps250;go_wp2_with (first|(go_at_call 228;refine(Qqe _ _).mono ?_;rintro e w' ⟨rfl,rfl⟩)|(go_at_call 256;refine(QIk _ _).mono ?_;rintro e w' ⟨rfl,rfl⟩));go_ret;exact⟨rfl,rfl⟩
theorem QDa (c:Int) (w:World):
  Calls Tryz.prog 218 #[.int .u8 c] w fun e w'=>e=.returned (.bool (QOa c))∧w'=w:=by
 by_cases h1:97≤c
 ·by_cases h2:c≤122
  ·have hv:QOa c=true:=by simp [QOa,Qjb,h1,h2]
   rw [hv];clear hv;go_enter Tryz.func218,Tryz.ntmps218;go_wp2;go_ret;exact⟨rfl,rfl⟩
  ·have hv:QOa c=false:=by simp [QOa,Qjb];omega
   have h3:65≤c:=by omega
   have h2':decide (c≤122)=false:=by simp;omega
   have h4':decide (c≤90)=false:=by simp;omega
   have h5':(c==95)=false:=by simp;omega
   rw [hv];clear hv;go_enter Tryz.func218,Tryz.ntmps218;go_wp2;go_ret;exact⟨rfl,rfl⟩
 ·have h1':decide (97≤c)=false:=by simp;omega
  by_cases h3:65≤c
  ·by_cases h4:c≤90
   ·have hv:QOa c=true:=by simp [QOa,Qjb];omega
    rw [hv];clear hv;go_enter Tryz.func218,Tryz.ntmps218;go_wp2;go_ret;exact⟨rfl,rfl⟩
   ·have hv:QOa c=(c==95):=by simp [QOa,Qjb];omega
    have h4':decide (c≤90)=false:=by simp;omega
    rw [hv];clear hv;go_enter Tryz.func218,Tryz.ntmps218;go_wp2;go_ret;exact⟨rfl,rfl⟩
  ·have hv:QOa c=(c==95):=by simp [QOa,Qjb];omega
   have h3':decide (65≤c)=false:=by simp;omega
   rw [hv];clear hv;go_enter Tryz.func218,Tryz.ntmps218;go_wp2;go_ret;exact⟨rfl,rfl⟩
theorem QYa (s:ByteArray) (k:Nat) (h:k<s.size):s.data.toList.drop k=s[k]::s.data.toList.drop (k+1):=by
 rw [List.drop_eq_getElem_cons (by simpa using h)];rfl
theorem Qef (s:ByteArray) (k:Nat) (h:s.size≤k):s.data.toList.drop k=[]:=by
 rw [List.drop_eq_nil_iff];simpa using h
def wlen (s:ByteArray) (k:Nat):Nat:=((s.data.toList.drop k).takeWhile Qha).length
theorem Qfe (s:ByteArray) (k:Nat) (h:k<s.size) (hp:Qsb (s[k].toNat:Int)=true):wlen s k=1+wlen s (k+1):=by
 unfold wlen;rw [QYa s k h,List.takeWhile_cons,if_pos (show Qha s[k]=true from hp),List.length_cons];omega
theorem QZk (s:ByteArray) (k:Nat) (h:k<s.size) (hp:Qsb (s[k].toNat:Int)=false):wlen s k=0:=by
 unfold wlen;rw [QYa s k h,List.takeWhile_cons,if_neg (by show ¬Qsb (s[k].toNat:Int)=true;simp [hp])];rfl
theorem QNi (s:ByteArray) (k:Nat) (h:s.size≤k):wlen s k=0:=by
 unfold wlen;rw [Qef s k h];rfl
theorem QEl (s:ByteArray) (i:Nat) (w:World) (hs:s.size≤maxLen) (hi:i≤s.size):
  Calls Tryz.prog 230 #[.string s,.int .i64 i] w fun e w'=>e=.returned (.int .i64 ((i+wlen s i:Nat):Int))∧w'=w:=by
 unfold maxLen at hs;go_enter Tryz.func230,Tryz.ntmps230;go_wp2;go_loop [1] (fun v=>∃k:Nat,k≤s.size∧v=.int .i64 k∧Hid (k+wlen s k=i+wlen s i)) (fun v=>s.size-(intOf v).toNat)
 case atStart=>exact⟨i,hi,rfl,rfl⟩
 case round=>
  obtain⟨k,hk,rfl,hw⟩:=hrel;by_cases hlt:k<s.size
  ·cases hp:Qsb (s[k].toNat:Int)
   ·have h0:=Zh (QZk s k hlt hp);go_wp2_with (go_at_call 250;refine(Qim _ _).mono ?_;rintro e w' ⟨rfl,rfl⟩);go_ret;exact⟨Qtp (by have:=hw.o;have:=h0.o;omega),rfl⟩
   ·have h0:=Zh (Qfe s k hlt hp);go_wp2_with (go_at_call 250;refine(Qim _ _).mono ?_;rintro e w' ⟨rfl,rfl⟩);go_round
    case rel=>exact⟨k+1,by omega,by go_num,by have:=hw.o;have:=h0.o;unfold Hid;omega⟩
    case measure=>simp [intOf];omega
  ·have h0:=Zh (QNi s k (by omega));go_wp2;go_ret;exact⟨Qtp (by have:=hw.o;have:=h0.o;omega),rfl⟩
end
section
open Go.RowKit
variable [Base]
def strV (l:List UInt8):Value:=.string ⟨l.toArray⟩
theorem Qnl (w:World):
  Calls Tryz.prog 224 #[] w fun e w'=>e=.returned (.slice (some ⟨w.heap.size,0,none⟩) 11 11)∧w'=w.alloc (.cells (kws.map strV).toArray 9):=by
 go_enter Tryz.func224,Tryz.ntmps224;go_wp2;go_ret;exact⟨rfl,rfl⟩
theorem QFr (w:World) (ls:List (List UInt8)) (t:TypeId):Qvn (w.alloc (.cells (ls.map strV).toArray t)) (some ⟨w.heap.size,0,none⟩) ls:=by
 intro k s h;refine⟨w.heap.size,0,rfl,?_⟩;rw [World.cell?_alloc_new];simp [h,strV]
def Qde (b:Bool) (w:World) (e:Ending) (w':World):Prop:=e=.returned (.bool b)∧Below w.heap.size w w'
theorem QTf (c:Int) (w:World):Calls Tryz.prog 218 #[.int .u8 c] w fun e w'=>e=.returned (.bool (QOa c))∧w=w':=(QDa c w).mono fun _ _ h=>⟨h.1,h.2.symm⟩
theorem QWo (c:Int) (w:World):Calls Tryz.prog 219 #[.int .u8 c] w fun e w'=>e=.returned (.bool (QAc c))∧w=w':=(QQa c w).mono fun _ _ h=>⟨h.1,h.2.symm⟩
theorem QVq (c:Int) (h:QOa c=false):Qsb c=QAc c:=by
 unfold QOa at h;simp only [Bool.or_eq_false_iff] at h;unfold Qsb;rw [h.1,h.2];simp
theorem Qro (c:Int) (h:QOa c=true):Qsb c=true:=by
 unfold QOa at h;unfold Qsb;cases h1:Qjb c <;> simp_all
theorem QNr (s:ByteArray) (w:World) (h0:0<s.size) (h1:s.size≤16) (h2:QOa (s[0].toNat:Int)=true) (h3:((s[0].toNat:Int)==95)=false) (hf:Hid (QGg s.data.toList=true)):
  Calls Tryz.prog 175 #[.string s] w (Qde (QV s.data.toList) w):=by
 have g1:decide ((16:Int)<(s.size:Int))=false:=by simp;omega
 have g0:((s.size:Int)==0)=false:=by rw [beq_eq_false_iff_ne];omega
 go_enter Tryz.func175,Tryz.ntmps175;go_wp2_with (go_at_call 218;refine(QTf _ _).mono ?_;rintro e w' ⟨rfl,rfl⟩);go_loop [3] (fun v=>∃k:Nat,k≤s.size∧v=.int .i64 k∧Hid (s.data.toList.all Qha=(s.data.toList.drop k).all Qha)) (fun v=>s.size-(intOf v).toNat)
 case atStart=>exact⟨0,Nat.zero_le _,rfl,by unfold Hid;simp⟩
 case round=>
  obtain⟨k,hk,rfl,hs⟩:=hrel;by_cases hlt:k<s.size
  ·have st:=Zh (Qbt s.data.toList k s[k] (by simp [hlt];rfl) Qha)
   cases e1:QOa (s[k].toNat:Int)
   ·have q:=Zh (QVq _ e1)
    cases e2:QAc (s[k].toNat:Int)
    ·have E2:=Zh e2;go_wp2_with (first
     |(go_at_call 218;refine(QTf _ _).mono ?_;rintro e w' ⟨rfl,rfl⟩)
     |(go_at_call 219;refine(QWo _ _).mono ?_;rintro e w' ⟨rfl,rfl⟩))
     go_ret;refine⟨?_,Below.refl _ _⟩;rw [QOq (by rw [hs.o,st.o];unfold Qha;rw [q.o,E2.o];rfl)];rfl
    ·have E2:=Zh e2;go_wp2_with (first
     |(go_at_call 218;refine(QTf _ _).mono ?_;rintro e w' ⟨rfl,rfl⟩)
     |(go_at_call 219;refine(QWo _ _).mono ?_;rintro e w' ⟨rfl,rfl⟩))
     go_round
     case rel=>exact⟨k+1,by omega,by go_num,by unfold Hid;rw [hs.o,st.o];unfold Qha;rw [q.o,E2.o];rfl⟩
     case measure=>simp [intOf];omega
   ·have q:=Zh (Qro _ e1);go_wp2_with (first
    |(go_at_call 218;refine(QTf _ _).mono ?_;rintro e w' ⟨rfl,rfl⟩)
    |(go_at_call 219;refine(QWo _ _).mono ?_;rintro e w' ⟨rfl,rfl⟩))
    go_round
    case rel=>exact⟨k+1,by omega,by go_num,by unfold Hid;rw [hs.o,st.o];unfold Qha;rw [q.o];rfl⟩
    case measure=>simp [intOf];omega
  ·have hall:Hid (s.data.toList.all Qha=true):=by unfold Hid;rw [hs.o,List.drop_of_length_le (by simp;omega)];rfl
   clear hs;have hr:Hid (hasB kws s.data.toList=false→QV s.data.toList=true):=by
    intro h;rw [Qwk (by simp;omega) hf.o h];exact hall.o
   have hS:=Zh (QFr w kws 9);go_wp2_with (go_at_call 224;refine(Qnl _).mono ?_;rintro e w2 ⟨rfl,hw'⟩;have hW:=Zh hw';clear hw');go_loop [5] (fun v=>∃k:Nat,k≤11∧v=.int .i64 k∧Hid (hasB kws s.data.toList=hasB (kws.drop k) s.data.toList)) (fun v=>11-(intOf v).toNat)
   case atStart=>exact⟨0,Nat.zero_le _,rfl,by unfold Hid;simp⟩
   case round=>
    obtain⟨j,hj,rfl,hk2⟩:=hrel;by_cases hlt2:j<11
    ·obtain⟨t,ht⟩:∃t,kws[j]? = some t:=⟨_,List.getElem?_eq_getElem (show j<kws.length from hlt2)⟩;obtain⟨b,off,hb,g⟩:=hS.o j t ht;simp only [Option.some.injEq,Addr.mk.injEq] at hb;obtain⟨rfl,rfl,_⟩:=hb;rw [←hW.o,Nat.zero_add] at g;have st2:=Zh (Qig kws j t s.data.toList ht);clear ht
     cases e:t==s.toList
     ·have E:=Zh e;go_wp2;go_round
      case rel=>exact⟨j+1,by omega,by go_num,by have h:=E.o;rw [ByteArray.toList_eq,BEq.comm] at h;unfold Hid;rw [hk2.o,st2.o,h];rfl⟩
      case measure=>simp [intOf];omega
     ·have E:=Zh e;go_wp2;go_ret;refine⟨?_,?_⟩
      ·have h:=E.o;rw [ByteArray.toList_eq,BEq.comm] at h;rw [QFp (by rw [hk2.o,st2.o,h];rfl)];rfl
      ·rw [hW.o];exact Zb
    ·go_wp2;go_ret;refine⟨?_,?_⟩
     ·rw [hr.o (by rw [hk2.o,List.drop_of_length_le (by show 11≤j;omega)];rfl)];rfl
     ·rw [hW.o];exact Zb
theorem Qrk (s:ByteArray) (w:World) (h:s.size=0∨16<s.size) (hv:QV s.data.toList=false):
  Calls Tryz.prog 175 #[.string s] w (Qde (QV s.data.toList) w):=by
 rw [hv];clear hv;rcases h with h|h
 ·have g0:((s.size:Int)==0)=true:=by rw [beq_iff_eq];omega
  clear h;go_enter Tryz.func175,Tryz.ntmps175;go_wp2;go_ret;exact⟨rfl,Below.refl _ _⟩
 ·have g0:((s.size:Int)==0)=false:=by rw [beq_eq_false_iff_ne];omega
  have g1:decide ((16:Int)<(s.size:Int))=true:=by simp;omega
  clear h;go_enter Tryz.func175,Tryz.ntmps175;go_wp2;go_ret;exact⟨rfl,Below.refl _ _⟩
theorem Qcm (s:ByteArray) (w:World) (h0:0<s.size) (h1:s.size≤16) (h2:Qjb (s[0].toNat:Int)=false) (hv:QV s.data.toList=false):
  Calls Tryz.prog 175 #[.string s] w (Qde (QV s.data.toList) w):=by
 rw [hv];clear hv;have g1:decide ((16:Int)<(s.size:Int))=false:=by simp;omega
 have g0:((s.size:Int)==0)=false:=by rw [beq_eq_false_iff_ne];omega
 cases e:QOa (s[0].toNat:Int)
 ·clear h2;go_enter Tryz.func175,Tryz.ntmps175;go_wp2_with (go_at_call 218;refine(QTf _ _).mono ?_;rintro e w' ⟨rfl,rfl⟩);go_ret;exact⟨rfl,Below.refl _ _⟩
 ·have h3:((s[0].toNat:Int)==95)=true:=by unfold QOa at e;rw [h2] at e;simpa using e
  clear h2;go_enter Tryz.func175,Tryz.ntmps175;go_wp2_with (go_at_call 218;refine(QTf _ _).mono ?_;rintro e w' ⟨rfl,rfl⟩);go_ret;exact⟨rfl,Below.refl _ _⟩
theorem QBs (s:ByteArray) (h0:0<s.size):QGg s.data.toList=Qjb (s[0].toNat:Int):=by
 have h:=QYa s 0 h0;rw [List.drop_zero] at h;rw [h];rfl
theorem Qsk (s:ByteArray) (w:World):
  Calls Tryz.prog 175 #[.string s] w (Qde (QV s.data.toList) w):=by
 by_cases h0:s.size=0
 ·exact Qrk s w (.inl h0) (by rw [List.length_eq_zero_iff.1 (show s.data.toList.length=0 by simpa using h0)];rfl)
 by_cases h1:16<s.size
 ·exact Qrk s w (.inr h1) (Qxk (by simpa using h1))
 have h0':0<s.size:=by omega
 have hf:=QBs s h0'
 cases h2:Qjb (s[0].toNat:Int)
 ·exact Qcm s w h0' (by omega) h2 (Qtj (by rw [hf,h2]))
 ·refine QNr s w h0' (by omega) (by unfold QOa;rw [h2];rfl) ?_ (by unfold Hid;rw [hf,h2]);rw [beq_eq_false_iff_ne];intro h;rw [h] at h2;exact absurd h2 (by decide)
end
section
open Go.RowKit
variable [Base]
abbrev sv (s:Str):Value:=.string ⟨s.toArray⟩
def Qea (w:World) (v:Value) (l:List Str):Prop:=Qg w 9 1 v (l.map sv)
def QZa (w:World) (cs:List Value) (s:QD):Prop:=
 ∃u t,cs=[.int .i64 s.op,sv s.dfn,u,t]∧Qea w u s.uses∧Qea w t s.targets
def Qgt (B bt:Nat) (w:World) (e:Ending) (w':World):Prop:=
 ∃s,s∈QGl∧e=.returned (sv s)∧QZ B w' bt∧But bt w w'
theorem name_any {B bt:Nat} {w:World} (ht:QZ B w bt):
  Calls Tryz.prog 41 #[.pointer (some ⟨bt,0,none⟩)] w (Qgt B bt w):=by
 have hlt:=ht.lt;have Ht:=Zh ht;clear ht;go_enter Tryz.func41,Tryz.ntmps41;go_wp2_with fail;refine(QMc (Ht.o.alloc _) _ (by omega)).mono ?_;rintro e w' ⟨r,r1,r2,rfl,ht',hbut⟩;have hc:∀o,w'.cell? ⟨w.heap.size,o,none⟩=_:=fun o=>hbut.cell w.heap.size o (by simp) (by omega)
 have hr:r=0∨r=1∨r=2∨r=3:=by omega
 have ht':=Zh ht';have hb':=Zh (((But.refl bt w).alloc _).trans hbut);clear Ht hbut;rcases hr with rfl|rfl|rfl|rfl
 all_goals
  go_wp2;go_ret;exact⟨_,by simp [QGl],rfl,ht'.o,hb'.o⟩
end
section
open Go.RowKit
variable [Base]
theorem But.blk {bt b:Nat} {w w':World} {o:Obj} (h:But bt w w') (hb:w.heap[b]? = some o) (hne:b≠bt):w'.heap[b]? = some o:=(h.block b (Qb hb) hne).trans hb
theorem Below.blk {b:Nat} {w w':World} {o:Obj} (h:Below w.heap.size w w') (hb:w.heap[b]? = some o):w'.heap[b]? = some o:=(h.block b (Qb hb)).trans hb
theorem Qfa {b:Nat} {w:World} {o:Obj} (x:Obj) (hb:w.heap[b]? = some o):(w.alloc x).heap[b]? = some o:=(Below.heap_alloc w x b (Qb hb)).trans hb
theorem Qd {w:World} {b:Nat} {c:Array Value} {t:TypeId} (h:w.heap[b]? = some (.cells c t (0,0))):(∀o,w.cell? ⟨b,o,none⟩=c[o]?)∧∀o,w.frozen? ⟨b,o,none⟩=false:=
 ⟨fun o=>by simp [World.cell?,h],fun o=>by simp [World.frozen?,h]⟩
theorem set4 {w:World} {b:Nat} {a0 a1 a2 a3:Value} {t:TypeId} {fr:Nat×Nat} (h:w.heap[b]? = some (.cells #[a0,a1,a2,a3] t fr)) (x0 x1 x2 x3:Value):
  ((((w.setCell ⟨b,0,none⟩ x0).setCell ⟨b,1,none⟩ x1).setCell ⟨b,2,none⟩ x2).setCell ⟨b,3,none⟩ x3).heap[b]? = some (.cells #[x0,x1,x2,x3] t fr):=by
 simp [World.setCell,Array.getElem?_modify,h]
theorem Qf.but {T bt:Nat} {w w':World} (h:But bt w w') (ht:tyAt w bt≠some T) (hbs:Base.b≤bt:=by omega):Qf T w w':=fun b c fr U hU e=>
 (h.block b (Qb e) (fun hb=>by
  subst hb
  rcases hU with rfl|hU
  ·exact ht (Qv e)
  ·omega)).trans e
end
section
def Qxd:Code→Option Code
|.loop c=>some c
|.seq a b=>match Qxd a with
 |some c=>some c
 |none=>Qxd b
|.block _ c=>Qxd c
|.scope c=>Qxd c
|.cond _ a b=>match Qxd a with
 |some c=>some c
 |none=>Qxd b
|_=>none
def Qqp (a:Act):Nat→Value:=fun i=>a.tmps.getD i undef
end
end Go.Proofs.YtijekimobahgpaaGreatDoor
