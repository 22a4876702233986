/- A part of the proof. -/
import Derived.Test.YtijekimobahgpaaGreatDoorMq08
import Derived.Shelf.SlSortCmp.SmallK
import Derived.Shelf.Small.Bits
set_option linter.unusedVariables false
set_option linter.unusedSimpArgs false
set_option linter.unusedSectionVars false
set_option maxRecDepth 100000
set_option maxHeartbeats 16000000
namespace Go.Proofs.YtijekimobahgpaaGreatDoor
section
open Go.RowKit
variable [Base]
def rz (m:Nat):Array Value:=(List.replicate m (Value.slice none 0 0)).toArray
theorem Qus:(Tryz.prog.info? IT).map (fun i=>(i.zero,i.size,i.bytes))=some (some (Value.slice none 0 0),1,24):=by kernel_rfl
theorem Qak (k:Nat) (hk:k≤1000) (w:World):
  (Instr.makeSlice 32 (.int .i64 (k:Int)) (.int .i64 (k:Int))).run Tryz.prog w=.ok (.slice (some ⟨w.heap.size,0,none⟩) k k) (w.alloc (.cells (rz k) IT)):=by
 obtain⟨i,hi,hz,hs1,hs2⟩:=info_parts Qus;have h:=run_makeSlice (P:=Tryz.prog) w 32 IT i _ Tryz.underlying32 hi hz .i64 .i64 (k:Int) (k:Int) (by omega) (Int.le_refl _) (by rw [hs1];omega) (by rw [hs2];omega) (by omega);rw [h,hs1];simp only [Int.toNat_natCast,Nat.mul_one]
 congr 3
 unfold rz madeCells;apply Array.ext
 ·simp [Value.cells]
 ·intro j h1 h2;simp [Value.cells,Nat.mod_one]
theorem QHi {b:Nat} {w:World} {v0 v1 v2:Value} {t:TypeId} (h:w.heap[b]? = some (.cells #[v0,v1,v2] t (0,0))):
  w.cell? ⟨b,0,none⟩=some v0∧w.cell? ⟨b,1,none⟩=some v1∧w.cell? ⟨b,2,none⟩=some v2:=by
 simp [World.cell?,h]
theorem QWt {w:World} {b:Nat} {a0 a1 a2:Value} {t:TypeId} {fr:Nat×Nat} (h:w.heap[b]? = some (.cells #[a0,a1,a2] t fr)) (x0 x1 x2:Value):
  (((w.setCell ⟨b,0,none⟩ x0).setCell ⟨b,1,none⟩ x1).setCell ⟨b,2,none⟩ x2).heap[b]? = some (.cells #[x0,x1,x2] t fr):=by
 simp [World.setCell,Array.getElem?_modify,h]
def Qit (p:List Qo) (w:World) (e:Ending) (w':World):Prop:=∃nv sv pv,e=.returned (.tuple #[.agg #[nv,sv,pv],iv (QFa p)])∧QJi w' nv (QR p)∧Qoa Qqc w' sv (Qkc p)∧Qoa Qqc w' pv (Qmc p)∧Below w.heap.size w w'
theorem new3 (w:World) (a b c:Obj):(((w.alloc a).alloc b).alloc c).heap[w.heap.size]? = some a∧(((w.alloc a).alloc b).alloc c).heap[w.heap.size+1]? = some b∧(((w.alloc a).alloc b).alloc c).heap[w.heap.size+1+1]? = some c∧(((w.alloc a).alloc b).alloc c).heap.size=w.heap.size+1+1+1∧Below w.heap.size w (((w.alloc a).alloc b).alloc c):=by
 refine⟨Qfa _ (Qfa _ (heap_alloc_new w a)),Qfa _ ?_,?_,by simp,((Zb).alloc (by simp) _).alloc (by simp;omega) _⟩
 ·have:=heap_alloc_new (w.alloc a) b
  rwa [World.size_alloc] at this
 ·have:=heap_alloc_new ((w.alloc a).alloc b) c
  rwa [World.size_alloc,World.size_alloc] at this
structure QBh (z bt sb pb mb m:Nat) (nv:Value) (w w':World):Prop where
 bl:w'.heap[bt]? = some (.cells #[nv,.slice (some ⟨sb,0,none⟩) m m,.slice (some ⟨pb,0,none⟩) m m,.map (some mb)] BT (0,0))
 sl:w'.heap[sb]? = some (.cells (rz m) IT (0,0))
 pl:w'.heap[pb]? = some (.cells (rz m) IT (0,0))
 ml:NumM w' mb 0 []
 zs:z≤bt∧z≤sb∧z≤pb∧z≤mb
 ne:sb≠pb
 below:Below z w w'
theorem QBh.mk3 {z bt sb pb mb m:Nat} {nv:Value} {w V:World} (hs:V.heap[sb]? = some (.cells (rz m) IT (0,0))) (hp:V.heap[pb]? = some (.cells (rz m) IT (0,0))) (hm:V.heap[mb]? = some (.map #[] 0)) (hz:z≤sb∧z≤pb∧z≤mb) (hne:sb≠pb) (hb:Below z w V) (hbt:V.heap.size=bt):
  QBh z bt sb pb mb m nv w (V.alloc (.cells #[nv,.slice (some ⟨sb,0,none⟩) m m,.slice (some ⟨pb,0,none⟩) m m,.map (some mb)] BT)):=by
 subst hbt;have hlt:=Qb hs;refine⟨heap_alloc_new _ _,Qfa _ hs,Qfa _ hp,?_,⟨by omega,hz.1,hz.2.1,hz.2.2⟩,hne,hb.alloc (by omega) _⟩;obtain⟨th,h⟩:∃th,MapG QDp Qwo V mb 0 (numN []) th:=by
  refine⟨fun _=>false,.map [],⟨#[],0,hm,?_⟩,fun k _ l _=>⟨?_,rfl⟩⟩
  ·have:=(World.ownsMap_made V Tryz.prog NT Qwo.R);obtain⟨es,c,h1,h2⟩:=this;rw [heap_alloc_new] at h1;injection h1 with h1
   injection h1 with h1 h3
   subst h1 h3;exact h2
  ·rw [Qds];rfl
 exact⟨th,h.block (Below.heap_alloc _ _ _ (Qb hm))⟩
theorem Qvk {p:List Qo} (hck:QFa p=0) {n:Qx} (h:n∈QB p 0):fitN n:=by
 have hfew:=QUc (Qzb hck).valid;obtain⟨i,f,hf,h⟩:=QLb.1 h;have hi:i<p.length:=(List.getElem?_eq_some_iff.1 hf).1;have hff:=hfew.2 f (List.mem_of_getElem? hf);rcases h with rfl|rfl|⟨k,b,j,s,hb,hs,h⟩
 ·exact⟨by unfold fitI;dsimp only;omega,by unfold fitI;dsimp only;omega,by unfold fitI;dsimp only;omega,by unfold fitI;dsimp only;omega⟩
 ·exact⟨by unfold fitI;dsimp only;omega,by unfold fitI;dsimp only;omega,by unfold fitI;dsimp only;omega,by unfold fitI;dsimp only;omega⟩
 ·have hk:k<f.blocks.length:=(List.getElem?_eq_some_iff.1 hb).1;have hj:j<b.stmts.length:=(List.getElem?_eq_some_iff.1 hs).1;have hb32:=hff.2 b (List.mem_of_getElem? hb);rcases h with rfl|⟨-,rfl⟩
  ·exact⟨by unfold fitI;dsimp only;omega,by unfold fitI;dsimp only;omega,by unfold fitI;dsimp only;omega,by unfold fitI;dsimp only;omega⟩
  ·exact⟨by unfold fitI;dsimp only;omega,by unfold fitI;dsimp only;omega,by unfold fitI;dsimp only;omega,by unfold fitI;dsimp only;omega⟩
theorem Qzq (z:Nat) (w:World) {m k:Nat} (hk:k=m):QRd z w (List.replicate m (Value.slice none 0 0)++List.replicate m (Value.slice none 0 0)) (List.replicate k []++List.replicate k []):=by
 subst hk;have hv:∀(i:Nat) (v:Value),(List.replicate k (Value.slice none 0 0)++List.replicate k (Value.slice none 0 0))[i]? = some v→v=.slice none 0 0:=fun i v h=>by
  have:=List.mem_of_getElem? h;simp at this;exact this.2
 refine⟨by simp,fun i v r h1 h2=>?_,fun i j v u b _ h1 h2 h3=>?_⟩
 ·obtain rfl:=hv i v h1;have:=List.mem_of_getElem? h2;simp at this;obtain rfl:r=[]:=this.2;simp [World.ownsRow]
 ·obtain rfl:=hv i v h1;simp [Value.ownBlock] at h3
theorem Qrr {B:Nat} {w:World} (kw:KwIn B w) (hB:B≤w.heap.size) (p:List Qo) (v:Value) (h:QAa w v p) (hf:∀f∈p,∀b∈f.blocks,∀s∈b.stmts,FitS s):
  Calls Tryz.prog 44 #[.agg #[v]] w (Qit p w):=by
 obtain⟨z,hz⟩:=Ze w.heap.size;have hbz:Base.b≤z:=by have:=kw.bs;omega
 have HV:=Zh (fun (x:World) (b:Below z w x)=>QYh (kw.keep fun k hk=>b.block k (by omega)) (by have:=b.size;omega) p v (h.keep (Qf.below (hz▸b)) (Qf.below (hz▸b)) (Qf.below (hz▸b)) (Qf.below (hz▸b))) hf);have HLI:=Zh (fun (x:World) (b:Below z w x)=>Qyj (kw.keep fun k hk=>b.block k (by omega)) (by have:=b.size;omega) p v (h.keep (Qf.below (hz▸b)) (Qf.below (hz▸b)) (Qf.below (hz▸b)) (Qf.below (hz▸b))) hf);have HPP:=Zh h;have HSORT:=Zh Qqt;obtain⟨a,c,rfl,hn,hc⟩:=h.cell;have HC:=Zh hc;obtain⟨n,hl⟩:=Ze p.length;rw [hl] at hn HV HLI HPP ⊢;have HL:=Zh hl;obtain⟨W,hW⟩:=Ze ((w.alloc (.cells #[.slice a n c] 25)).alloc (.cells #[.slice none 0 0,.slice none 0 0,.slice none 0 0] 46));have HPB:=Zh (show W.heap[z]? = some (.cells #[.slice a n c] 25 (0,0)) by rw [←hW,←hz];exact Qfa _ (heap_alloc_new _ _));have HRB:=Zh (show W.heap[z+1]? = some (.cells #[.slice none 0 0,.slice none 0 0,.slice none 0 0] 46 (0,0)) by rw [←hW,←hz];have:=heap_alloc_new (w.alloc (.cells #[.slice a n c] 25)) (.cells #[.slice none 0 0,.slice none 0 0,.slice none 0 0] 46);rwa [World.size_alloc] at this);have BW:=Zh (show Below z w W by rw [←hW,←hz];exact(Zb).alloc (by simp) _);have HWW:=Zh hW;have HZ:=Zh hz;obtain⟨er,her⟩:=Ze (QFa p);rw [her] at HV;have HER:=Zh her;clear h hc hW kw hf hl her;have x0:=(Qd HPB.o).1 0;simp at x0;go_enter Tryz.func44,Tryz.ntmps44;go_upto_region 1 with(fail)
 rw [show(w.alloc (.cells #[.slice a n c] 25)).alloc (.cells #[.slice none 0 0,.slice none 0 0,.slice none 0 0] 46)=W from HWW.o]
 try rw [hz]
 go_wp2_with fail;refine(HV.o W BW.o).mono ?_;rintro e w1 ⟨na,nb,nc,nd,rfl,b1⟩;have b2:=b1.trans (((Below.refl w1.heap.size w1).alloc (Nat.le_refl _) (.cells #[iv na,iv nb,iv nc,iv nd] 108)).mono b1.size);obtain⟨w2,hw2⟩:=Ze (w1.alloc (.cells #[iv na,iv nb,iv nc,iv nd] 108));have HW2:=Zh hw2;rw [hw2] at b2;have HP2:=Zh (Qc HPB.o b2 (Qb HPB.o));have HR2:=Zh (Qc HRB.o b2 (Qb HRB.o));have zW:z≤W.heap.size:=by have:=BW.o.size;omega
 have HB2:=Zh (BW.o.trans (b2.mono zW));have zw2:z≤w2.heap.size:=by have:=HB2.o.size;omega
 clear b1 b2 hw2 x0 zW;by_cases he:er=0;rotate_left
 ·have hne:(er != 0)=true:=by simpa using he
  have HNP:=Zh (show QR p=[] by unfold QR;rw [HER.o,if_neg he]);have HSP:=Zh (show Qkc p=[] by unfold Qkc;rw [HNP.o];rfl);have HPD:=Zh (show Qmc p=[] by unfold Qmc;rw [HNP.o];rfl);clear he;obtain⟨r0,r1,r2⟩:=QHi HR2.o;have fr:=(Qa HR2.o).2;go_upto_region 2 with(fail)
  rw [show w1.alloc (.cells #[iv na,iv nb,iv nc,iv nd] 108)=w2 from HW2.o];go_wp2;obtain⟨z0,z1,z2⟩:=QHi (QWt HR2.o (.slice none 0 0) (.slice none 0 0) (.slice none 0 0));refine bodyPost_ret (v:=.tuple #[.agg #[.slice none 0 0,.slice none 0 0,.slice none 0 0],iv er]) (by simp [results,Tryz.results44,go_sem,z0,z1,z2]) rfl ⟨_,_,_,by rw [HER.o],?_,?_,?_,?_⟩
  ·rw [HNP.o];exact Qg.nil
  ·rw [HSP.o];exact Qoa.nil
  ·rw [HPD.o];exact Qoa.nil
  ·rw [HZ.o];exact(((HB2.o).setCell (by show z≤z+1;omega) _).setCell (by show z≤z+1;omega) _).setCell (by show z≤z+1;omega) _
 have hne:(er != 0)=false:=by simpa using he
 have hck0:=Zh (show QFa p=0 by rw [HER.o,he]);have HNP:=Zh (show QR p=QB p 0 from Qne hck0.o);have hle:(QB p 0).length≤256:=by rw [←HNP.o];exact Qme
 have hpos:1≤(QB p 0).length:=by rw [←HNP.o];exact Quk hck0.o
 clear he;go_upto_region 4 with(fail)
 rw [show w1.alloc (.cells #[iv na,iv nb,iv nc,iv nd] 108)=w2 from HW2.o];have x0:=(Qd HP2.o).1 0;simp at x0;go_wp2_with fail;refine(HLI.o w2 HB2.o).mono ?_;rintro e w3 ⟨lv,rfl,ho,b3⟩;obtain⟨la,lc,rfl,hl63,hl64,hl65,-⟩:=ho.at_.cell;rw [HNP.o] at ho hl63 ⊢;have HNA:=Zh ho.at_;obtain⟨N,hN⟩:=Ze (QB p 0);have HNN:=Zh hN;rw [hN] at ho HNA hle hpos ⊢;obtain⟨m,hm⟩:=Ze N.length;have HM:=Zh hm;rw [hm] at HNA hle hpos ⊢;have HP3:=Zh (Qc HP2.o b3 (Qb HP2.o));have HR3:=Zh (Qc HR2.o b3 (Qb HR2.o));have HB3:=Zh (HB2.o.trans (b3.mono zw2));have zw3:z≤w3.heap.size:=by have:=b3.size;omega
 clear b3 ho x0 hN hm hl63 hl64 hl65;have hmk:=fun (x:World)=>Qak m (by omega) x
 have hmm:=@run_makeMap Tryz.prog;go_upto_region 5 with(fail)
 go_cut [7] from 24 to 34 (fun s7 wx=>∃bt sb pb mb:Nat,s7=.pointer (some ⟨bt,0,none⟩)∧Hid (QBh w3.heap.size bt sb pb mb m (.slice la m lc) w3 wx))
 case first=>
  refine QK (S:=fun _=>True) (st:=11) (by kernel_rfl) ?_;refine Zp 0 ?z0 trivial ?rz0 ?sz0
  case rz0=>intro w hS;go_simp;rfl
  case sz0=>
  refine Zp 1 ?z1 trivial ?rz1 ?sz1
  case rz1=>intro w hS;go_simp;rfl
  case sz1=>
  refine Zp 2 ?z2 trivial ?rz2 ?sz2
  case rz2=>intro w hS;go_simp;rfl
  case sz2=>
  refine Zp 4 ?z4 trivial ?rz4 ?sz4
  case rz4=>intro w hS;go_simp;rfl
  case sz4=>
  refine Zp 5 ?z5 trivial ?rz5 ?sz5
  case rz5=>intro w hS;go_simp;rfl
  case sz5=>
  refine Qh (rs:=[3,6,8]) (by kernel_rfl) (by decide) ?_;intro i hi;have hi2:i=3∨i=6∨i=8:=by simpa using hi
  clear hi;rcases hi2 with rfl|rfl|rfl
  ·refine Ql rfl ?_;go_wp2;refine⟨fun _=>trivial,?_⟩;refine Qh (rs:=[6,8]) (by kernel_rfl) (by decide) ?_;intro i hi;have hi2:i=6∨i=8:=by simpa using hi
   clear hi;rcases hi2 with rfl|rfl
   ·refine Ql rfl ?_;go_wp2;refine⟨fun _=>trivial,?_⟩;refine Zp 7 ?z7_0 trivial ?rz7_0 ?sz7_0
    case rz7_0=>intro w hS;go_simp;rfl
    case sz7_0=>
    refine Zt 8 ?_;refine Ql rfl ?_;go_wp2;refine⟨fun _=>trivial,?_⟩;refine Zp 9 ?z9_1 trivial ?rz9_1 ?sz9_1
    case rz9_1=>intro w hS;go_simp;rfl
    case sz9_1=>
    obtain⟨q1,q2,q3,q4,q5⟩:=new3 (w3.drewN 1) (.cells (rz m) IT) (.cells (rz m) IT) (.map #[] 0);have FR:=Zh (QBh.mk3 (z:=w3.heap.size) (m:=m) (nv:=.slice la m lc) (w:=w3.drewN 1) q1 q2 q3 (by show w3.heap.size≤w3.heap.size∧w3.heap.size≤(w3.heap.size+1)∧w3.heap.size≤(w3.heap.size+1+1);omega) (by show w3.heap.size≠(w3.heap.size+1);omega) q5 q4);clear q1 q2 q3 q4 q5;refine Zt 10 ?_;refine Ql rfl ?_;go_wp2;refine⟨fun _=>trivial,?_⟩;refine Zt 11 ?_;refine Ql rfl ?_;go_wp2;refine⟨fun h=>absurd rfl h,?_⟩;refine Qu (by kernel_rfl) ?_ _;go_wp2;go_meet
    case rel=>exact⟨_,w3.heap.size,(w3.heap.size+1),(w3.heap.size+1+1),rfl,⟨FR.o.bl,FR.o.sl,FR.o.pl,FR.o.ml,FR.o.zs,FR.o.ne,⟨FR.o.below.os,FR.o.below.tape,FR.o.below.output,FR.o.below.size,FR.o.below.block⟩⟩⟩
   ·refine Ql rfl ?_;go_wp2;refine⟨fun _=>trivial,?_⟩;refine Zt 6 ?_;refine Ql rfl ?_;go_wp2;refine⟨fun _=>trivial,?_⟩;refine Zp 7 ?z7_2 trivial ?rz7_2 ?sz7_2
    case rz7_2=>intro w hS;go_simp;rfl
    case sz7_2=>
    refine Zp 9 ?z9_3 trivial ?rz9_3 ?sz9_3
    case rz9_3=>intro w hS;go_simp;rfl
    case sz9_3=>
    obtain⟨q1,q2,q3,q4,q5⟩:=new3 (w3.drewN 1) (.cells (rz m) IT) (.map #[] 0) (.cells (rz m) IT);have FR:=Zh (QBh.mk3 (z:=w3.heap.size) (m:=m) (nv:=.slice la m lc) (w:=w3.drewN 1) q1 q3 q2 (by show w3.heap.size≤w3.heap.size∧w3.heap.size≤(w3.heap.size+1+1)∧w3.heap.size≤(w3.heap.size+1);omega) (by show w3.heap.size≠(w3.heap.size+1+1);omega) q5 q4);clear q1 q2 q3 q4 q5;refine Zt 10 ?_;refine Ql rfl ?_;go_wp2;refine⟨fun _=>trivial,?_⟩;refine Zt 11 ?_;refine Ql rfl ?_;go_wp2;refine⟨fun h=>absurd rfl h,?_⟩;refine Qu (by kernel_rfl) ?_ _;go_wp2;go_meet
    case rel=>exact⟨_,w3.heap.size,(w3.heap.size+1+1),(w3.heap.size+1),rfl,⟨FR.o.bl,FR.o.sl,FR.o.pl,FR.o.ml,FR.o.zs,FR.o.ne,⟨FR.o.below.os,FR.o.below.tape,FR.o.below.output,FR.o.below.size,FR.o.below.block⟩⟩⟩
  ·refine Ql rfl ?_;go_wp2;refine⟨fun _=>trivial,?_⟩;refine Qh (rs:=[3,8]) (by kernel_rfl) (by decide) ?_;intro i hi;have hi2:i=3∨i=8:=by simpa using hi
   clear hi;rcases hi2 with rfl|rfl
   ·refine Ql rfl ?_;go_wp2;refine⟨fun _=>trivial,?_⟩;refine Zp 7 ?z7_4 trivial ?rz7_4 ?sz7_4
    case rz7_4=>intro w hS;go_simp;rfl
    case sz7_4=>
    refine Zt 8 ?_;refine Ql rfl ?_;go_wp2;refine⟨fun _=>trivial,?_⟩;refine Zp 9 ?z9_5 trivial ?rz9_5 ?sz9_5
    case rz9_5=>intro w hS;go_simp;rfl
    case sz9_5=>
    obtain⟨q1,q2,q3,q4,q5⟩:=new3 (w3.drewN 1) (.cells (rz m) IT) (.cells (rz m) IT) (.map #[] 0);have FR:=Zh (QBh.mk3 (z:=w3.heap.size) (m:=m) (nv:=.slice la m lc) (w:=w3.drewN 1) q2 q1 q3 (by show w3.heap.size≤(w3.heap.size+1)∧w3.heap.size≤w3.heap.size∧w3.heap.size≤(w3.heap.size+1+1);omega) (by show(w3.heap.size+1)≠w3.heap.size;omega) q5 q4);clear q1 q2 q3 q4 q5;refine Zt 10 ?_;refine Ql rfl ?_;go_wp2;refine⟨fun _=>trivial,?_⟩;refine Zt 11 ?_;refine Ql rfl ?_;go_wp2;refine⟨fun h=>absurd rfl h,?_⟩;refine Qu (by kernel_rfl) ?_ _;go_wp2;go_meet
    case rel=>exact⟨_,(w3.heap.size+1),w3.heap.size,(w3.heap.size+1+1),rfl,⟨FR.o.bl,FR.o.sl,FR.o.pl,FR.o.ml,FR.o.zs,FR.o.ne,⟨FR.o.below.os,FR.o.below.tape,FR.o.below.output,FR.o.below.size,FR.o.below.block⟩⟩⟩
   ·refine Ql rfl ?_;go_wp2;refine⟨fun _=>trivial,?_⟩;refine Zt 3 ?_;refine Ql rfl ?_;go_wp2;refine⟨fun _=>trivial,?_⟩;refine Zp 7 ?z7_6 trivial ?rz7_6 ?sz7_6
    case rz7_6=>intro w hS;go_simp;rfl
    case sz7_6=>
    refine Zp 9 ?z9_7 trivial ?rz9_7 ?sz9_7
    case rz9_7=>intro w hS;go_simp;rfl
    case sz9_7=>
    obtain⟨q1,q2,q3,q4,q5⟩:=new3 (w3.drewN 1) (.cells (rz m) IT) (.map #[] 0) (.cells (rz m) IT);have FR:=Zh (QBh.mk3 (z:=w3.heap.size) (m:=m) (nv:=.slice la m lc) (w:=w3.drewN 1) q3 q1 q2 (by show w3.heap.size≤(w3.heap.size+1+1)∧w3.heap.size≤w3.heap.size∧w3.heap.size≤(w3.heap.size+1);omega) (by show(w3.heap.size+1+1)≠w3.heap.size;omega) q5 q4);clear q1 q2 q3 q4 q5;refine Zt 10 ?_;refine Ql rfl ?_;go_wp2;refine⟨fun _=>trivial,?_⟩;refine Zt 11 ?_;refine Ql rfl ?_;go_wp2;refine⟨fun h=>absurd rfl h,?_⟩;refine Qu (by kernel_rfl) ?_ _;go_wp2;go_meet
    case rel=>exact⟨_,(w3.heap.size+1+1),w3.heap.size,(w3.heap.size+1),rfl,⟨FR.o.bl,FR.o.sl,FR.o.pl,FR.o.ml,FR.o.zs,FR.o.ne,⟨FR.o.below.os,FR.o.below.tape,FR.o.below.output,FR.o.below.size,FR.o.below.block⟩⟩⟩
  ·refine Ql rfl ?_;go_wp2;refine⟨fun _=>trivial,?_⟩;refine Qh (rs:=[3,6]) (by kernel_rfl) (by decide) ?_;intro i hi;have hi2:i=3∨i=6:=by simpa using hi
   clear hi;rcases hi2 with rfl|rfl
   ·refine Ql rfl ?_;go_wp2;refine⟨fun _=>trivial,?_⟩;refine Zt 6 ?_;refine Ql rfl ?_;go_wp2;refine⟨fun _=>trivial,?_⟩;refine Zp 7 ?z7_8 trivial ?rz7_8 ?sz7_8
    case rz7_8=>intro w hS;go_simp;rfl
    case sz7_8=>
    refine Zp 9 ?z9_9 trivial ?rz9_9 ?sz9_9
    case rz9_9=>intro w hS;go_simp;rfl
    case sz9_9=>
    obtain⟨q1,q2,q3,q4,q5⟩:=new3 (w3.drewN 1) (.map #[] 0) (.cells (rz m) IT) (.cells (rz m) IT);have FR:=Zh (QBh.mk3 (z:=w3.heap.size) (m:=m) (nv:=.slice la m lc) (w:=w3.drewN 1) q2 q3 q1 (by show w3.heap.size≤(w3.heap.size+1)∧w3.heap.size≤(w3.heap.size+1+1)∧w3.heap.size≤w3.heap.size;omega) (by show(w3.heap.size+1)≠(w3.heap.size+1+1);omega) q5 q4);clear q1 q2 q3 q4 q5;refine Zt 10 ?_;refine Ql rfl ?_;go_wp2;refine⟨fun _=>trivial,?_⟩;refine Zt 11 ?_;refine Ql rfl ?_;go_wp2;refine⟨fun h=>absurd rfl h,?_⟩;refine Qu (by kernel_rfl) ?_ _;go_wp2;go_meet
    case rel=>exact⟨_,(w3.heap.size+1),(w3.heap.size+1+1),w3.heap.size,rfl,⟨FR.o.bl,FR.o.sl,FR.o.pl,FR.o.ml,FR.o.zs,FR.o.ne,⟨FR.o.below.os,FR.o.below.tape,FR.o.below.output,FR.o.below.size,FR.o.below.block⟩⟩⟩
   ·refine Ql rfl ?_;go_wp2;refine⟨fun _=>trivial,?_⟩;refine Zt 3 ?_;refine Ql rfl ?_;go_wp2;refine⟨fun _=>trivial,?_⟩;refine Zp 7 ?z7_10 trivial ?rz7_10 ?sz7_10
    case rz7_10=>intro w hS;go_simp;rfl
    case sz7_10=>
    refine Zp 9 ?z9_11 trivial ?rz9_11 ?sz9_11
    case rz9_11=>intro w hS;go_simp;rfl
    case sz9_11=>
    obtain⟨q1,q2,q3,q4,q5⟩:=new3 (w3.drewN 1) (.map #[] 0) (.cells (rz m) IT) (.cells (rz m) IT);have FR:=Zh (QBh.mk3 (z:=w3.heap.size) (m:=m) (nv:=.slice la m lc) (w:=w3.drewN 1) q3 q2 q1 (by show w3.heap.size≤(w3.heap.size+1+1)∧w3.heap.size≤(w3.heap.size+1)∧w3.heap.size≤w3.heap.size;omega) (by show(w3.heap.size+1+1)≠(w3.heap.size+1);omega) q5 q4);clear q1 q2 q3 q4 q5;refine Zt 10 ?_;refine Ql rfl ?_;go_wp2;refine⟨fun _=>trivial,?_⟩;refine Zt 11 ?_;refine Ql rfl ?_;go_wp2;refine⟨fun h=>absurd rfl h,?_⟩;refine Qu (by kernel_rfl) ?_ _;go_wp2;go_meet
    case rel=>exact⟨_,(w3.heap.size+1+1),(w3.heap.size+1),w3.heap.size,rfl,⟨FR.o.bl,FR.o.sl,FR.o.pl,FR.o.ml,FR.o.zs,FR.o.ne,⟨FR.o.below.os,FR.o.below.tape,FR.o.below.output,FR.o.below.size,FR.o.below.block⟩⟩⟩
 case rest=>
  clear hmk hmm;obtain⟨bt,sb,pb,mb,rfl,HFR⟩:=hcut;obtain⟨q3,hq3⟩:=Ze w3.heap.size;have HQ3:=Zh hq3;rw [hq3] at HFR zw3;have hbq:Base.b≤q3:=by omega
  have HP3w:=Zh (Qc HP3.o (hq3▸HFR.o.below) (Qb HP3.o));have hzq:z+1<q3:=by have:=Qb HR3.o;omega
  obtain⟨nca,ncc,hnce,-,-,-,hncell⟩:=HNA.o.cell;obtain rfl:la=nca:=by injection hnce
  have HCE:=Zh hncell;clear hq3 hncell hnce;go_wp2;go_loopw [37] (fun y wr=>∃k:Nat,k≤m∧y=.int .i64 k∧Hid (NumM wr mb k (N.take k))∧Hid (ButB mb wc wr)) (fun y _=>m-(intOf y).toNat)
  case atStart=>exact⟨0,Nat.zero_le _,rfl,by unfold Hid;simpa using HFR.o.ml,ButB.refl _ _⟩
  case round=>
   obtain⟨k,hk,rfl,HMk,HBk⟩:=hrel;have HB3k:=Zh (show Below q3 w3 wr from⟨HBk.o.os.trans HFR.o.below.os,HBk.o.tape.trans HFR.o.below.tape,HBk.o.output.trans HFR.o.below.output,Nat.le_trans HFR.o.below.size HBk.o.size,fun x hx=>(HBk.o.block x (by have:=HFR.o.below.size;have:=HQ3.o;omega) (by have:=HFR.o.zs;omega)).trans (HFR.o.below.block x hx)⟩);obtain⟨es0,c00,hmm0⟩:=HFR.o.ml.isMap;have hbtm:bt≠mb:=by rintro rfl;rw [HFR.o.bl] at hmm0;cases hmm0
   have hsbm:sb≠mb:=by rintro rfl;rw [HFR.o.sl] at hmm0;cases hmm0
   have hpbm:pb≠mb:=by rintro rfl;rw [HFR.o.pl] at hmm0;cases hmm0
   have HBTk:=Zh ((HBk.o.block bt (Qb HFR.o.bl) hbtm).trans HFR.o.bl);have HSBk:=Zh ((HBk.o.block sb (Qb HFR.o.sl) hsbm).trans HFR.o.sl);have HPBk:=Zh ((HBk.o.block pb (Qb HFR.o.pl) hpbm).trans HFR.o.pl);clear hmm0;by_cases hlt:k<m
   ·obtain⟨y,hy⟩:∃y,N[k]? = some y:=⟨_,List.getElem?_eq_getElem (by rw [HM.o];exact hlt)⟩;obtain⟨b4,o4,rfl,hb4,c0,c1,c2,c3⟩:=HCE.o k y hy;have hb4:b4<q3:=by have:=HQ3.o;omega
    have c0:=(HB3k.o.cell (p:=⟨b4,o4+k*4,none⟩) hb4).trans c0;have c1:=(HB3k.o.cell (p:=⟨b4,o4+k*4+1,none⟩) hb4).trans c1;have c2:=(HB3k.o.cell (p:=⟨b4,o4+k*4+2,none⟩) hb4).trans c2;have c3:=(HB3k.o.cell (p:=⟨b4,o4+k*4+3,none⟩) hb4).trans c3;have hfy:fitN y:=Qvk hck0.o (by rw [HNN.o];exact List.mem_of_getElem? hy);have HSN:=Zh (fun q=>QJq hy (by rw [←HNN.o];exact QIe p 0) q);obtain⟨y1,y2,y3,y4⟩:=y;simp only at c0 c1 c2 c3;obtain⟨U,hU⟩:=Ze (wr.alloc (.cells #[iv y1,iv y2,iv y3,iv y4] NT));have BU:=(Below.refl wr.heap.size wr).alloc (Nat.le_refl _) (.cells #[iv y1,iv y2,iv y3,iv y4] NT);rw [hU] at BU;have HX:=Zh (show U.heap[wr.heap.size]? = some (.cells #[iv y1,iv y2,iv y3,iv y4] NT (0,0)) by rw [←hU];exact heap_alloc_new _ _);have HBT:=Zh (Qc HBTk.o BU (Qb HBTk.o));have HBU:=Zh (HBk.o.below BU);obtain⟨th,hth⟩:=HMk.o.below BU;have HUU:=Zh hU;obtain⟨w5,hrun,hM5,hg5⟩:=(hth.block (w':=U.drew) rfl).store Qkp (by unfold maxLen;omega) (k:=(⟨y1,y2,y3,y4⟩:Qx)) hfy (k:Int);have HM5:=Zh (show NumM w5 mb (k+1) (N.take (k+1)) from⟨_,hM5.congr (fun q=>(HSN.o q).symm) (fun _=>rfl)⟩);have HB5:=Zh (show ButB mb wc w5 from HBU.o.trans ⟨hg5.os,hg5.tape,hg5.output,hg5.size,fun x hx hne=>hg5.block x hx (by intro e;injection e with e;exact hne e)⟩);have hrun5:(Instr.mapUpdate 156 (.map (some mb)) (.agg #[iv y1,iv y2,iv y3,iv y4]) (.int .i64 (k:Int))).run Tryz.prog U.drew=.ok () w5:=hrun;obtain⟨xb,hxb⟩:=Ze wr.heap.size;rw [hxb] at HX;clear hy hU BU hth hrun hM5 hg5 hfy HSN;go_upto_region 9 with(fail)
    rw [show wr.alloc (.cells #[iv y1,iv y2,iv y3,iv y4] NT)=U from HUU.o]
    try rw [hxb]
    clear hxb c0 c1 c2 c3;obtain⟨d0,d1,d2,d3⟩:=Qt HX.o;obtain⟨x0,x1,x2,x3⟩:=Qt HBT.o;go_region;clear hrun5;go_wp2;go_roundw
    case rel=>exact⟨k+1,by omega,by go_num,HM5,HB5⟩
    case measure=>simp [intOf];omega
   ·have HBL:=Zh (show BldE q3 bt sb pb mb (.slice la m lc) N [] wr by
     refine⟨_,_,⟨HFR.o.zs,by rw [HM.o];exact HBTk.o,?_,HFR.o.ne,List.replicate m (.slice none 0 0),List.replicate m (.slice none 0 0),HSBk.o,HPBk.o,by rw [HM.o];simp,by rw [HM.o];simp,by simp,?_⟩,GrE.nil N.length⟩
     ·have h9:=HMk.o;rw [List.take_of_length_le (by rw [HM.o];omega),show k=N.length by rw [HM.o];omega] at h9;exact h9
     ·exact Qzq q3 wr (by rw [HM.o]))
    have HK0:=Zh HB3k.o;clear HBTk HSBk HPBk HMk HBk HB3k;obtain⟨wd,rfl⟩:∃x:World,x=wr:=⟨_,rfl⟩;have zwd:q3≤wd.heap.size:=by have:=HK0.o.size;have:=HQ3.o;omega
    go_wp2;clear hlt;go_loopw [51] (fun y wr=>∃k:Nat,k≤m∧y=.int .i64 k∧Hid (BldE q3 bt sb pb mb (.slice la m lc) N ((Qva p (N.take k)).map (numE N)) wr)∧Hid (Qbb q3 wd wr)) (fun y _=>m-(intOf y).toNat)
    case atStart=>exact⟨0,Nat.zero_le _,rfl,by unfold Hid;simpa [Qva] using HBL.o,Qbb.refl _ _ zwd⟩
    case round=>
     obtain⟨j,hj,rfl,HBj,HKj⟩:=hrel;have HB3j:=Zh (HK0.o.trans HKj.o.below);have zwx:q3≤wr.heap.size:=by have:=HB3j.o.size;have:=HQ3.o;omega
     by_cases hlt:j<m
     ·obtain⟨y,hy⟩:∃y,N[j]? = some y:=⟨_,List.getElem?_eq_getElem (by rw [HM.o];exact hlt)⟩;obtain⟨b4,o4,rfl,hb4,c0,c1,c2,c3⟩:=HCE.o j y hy;have hb4:b4<q3:=by have:=HQ3.o;omega
      have c0:=(HB3j.o.cell (p:=⟨b4,o4+j*4,none⟩) hb4).trans c0;have c1:=(HB3j.o.cell (p:=⟨b4,o4+j*4+1,none⟩) hb4).trans c1;have c2:=(HB3j.o.cell (p:=⟨b4,o4+j*4+2,none⟩) hb4).trans c2;have c3:=(HB3j.o.cell (p:=⟨b4,o4+j*4+3,none⟩) hb4).trans c3;have HSN:=Zh (show(Qva p (N.take (j+1))).map (numE N)=(Qva p (N.take j)).map (numE N)++(QU p y).map (numE N) by
       rw [List.take_add_one,hy];show(Qva p (N.take j++[y])).map (numE N)=_;rw [Que,List.map_append,QOe];simp [Qva])
      have HYM:=Zh (show y∈QB p 0 by rw [HNN.o];exact List.mem_of_getElem? hy);have HFY:=Zh (Qvk hck0.o HYM.o);obtain⟨y1,y2,y3,y4⟩:=y;simp only at c0 c1 c2 c3;obtain⟨U,hU⟩:=Ze (wr.alloc (.cells #[iv y1,iv y2,iv y3,iv y4] NT));have BU:=(Below.refl wr.heap.size wr).alloc (Nat.le_refl _) (.cells #[iv y1,iv y2,iv y3,iv y4] NT);rw [hU] at BU;have HX:=Zh (show U.heap[wr.heap.size]? = some (.cells #[iv y1,iv y2,iv y3,iv y4] NT (0,0)) by rw [←hU];exact heap_alloc_new _ _);have HBU:=Zh (HBj.o.below BU);have HKU:=Zh (HKj.o.trans (Qbb.of BU zwx));have HUU:=Zh hU;have HB3U:=Zh (HK0.o.trans HKU.o.below);have zU:q3≤U.heap.size:=Nat.le_trans zwx BU.size;obtain⟨xb,hxb⟩:=Ze wr.heap.size;rw [hxb] at HX;clear hy hU BU;go_upto_region 14 with(fail)
      rw [show wr.alloc (.cells #[iv y1,iv y2,iv y3,iv y4] NT)=U from HUU.o]
      try rw [hxb]
      clear hxb c0 c1 c2 c3;obtain⟨d0,d1,d2,d3⟩:=Qt HX.o;by_cases k1:y1=1
      ·subst k1;obtain⟨x,hx⟩:∃x:Nat,numT N ⟨3,y2,0,0⟩=x:=⟨_,rfl⟩;obtain⟨hh,hhh⟩:∃x:Nat,numT N ⟨1,y2,y3,y4⟩=x:=⟨_,rfl⟩;have HEE:=Zh (show QU p ⟨1,y2,y3,y4⟩=[(⟨1,y2,y3,y4⟩,⟨3,y2,0,0⟩)] from rfl);have hen:=QIj (Qzb hck0.o) HYM.o (x:=⟨1,y2,y3,y4⟩) (y:=⟨3,y2,0,0⟩) (by rw [HEE.o];simp);rw [HNN.o] at hen;have hxl:x<N.length:=hx▸(QEc hen.2).1;have hhl:hh<N.length:=hhh▸(QEc hen.1).1;have HEL:=Zh (show(QU p ⟨1,y2,y3,y4⟩).map (numE N)=[(hh,x)] by rw [HEE.o];simp [numE,hx,hhh]);have HBD:=Zh (show BldE q3 bt sb pb mb _ N _ (U.drewN 1) from by
        obtain⟨S,P,h1,h2⟩:=HBU.o;exact⟨S,P,h1.keep fun _ _=>rfl,h2⟩)
       have hlkU:(Instr.lookup 156 (.map (some mb)) (.agg #[iv 1,iv y2,iv y3,iv y4]) false).run Tryz.prog (U.drewN 1)=.ok (.int .i64 (hh:Int)) (U.drewN 1):=by
        obtain⟨S,P,h1,-⟩:=HBD.o;have:=h1.mp.look (x:=⟨1,y2,y3,y4⟩) HFY.o;rw [QLc,hhh] at this;exact this
       have x3:U.cell? ⟨bt,3,none⟩=some (.map (some mb)):=by
        obtain⟨S,P,h1,-⟩:=HBU.o;exact(Qt h1.bl).2.2.2
       have KA:=Zh (Qfp HBD.o 3 y2 0 0 ⟨by unfold fitI;dsimp only;omega,HFY.o.2.1,by unfold fitI;dsimp only;omega,by unfold fitI;dsimp only;omega⟩);rw [show numN N ⟨3,y2,0,0⟩=(x:Int) by rw [QLc,hx]] at KA;have KE:=Zh (QWm hbq (by rw [HM.o];exact hle) HBD.o hh x hhl hxl);have KD:=Zh (show Qbb q3 U (U.drewN 1) from⟨Qp ((Below.refl _ _).mono zU) 1,fun _ _ _=>Qf.drewN⟩);clear hx hhh hen;go_upto_region 16 with(fail)
       refine QK (S:=fun w'=>w'.cell? ⟨bt,3,none⟩=some (.map (some mb))∧w'.cell? ⟨xb,0,none⟩=some (iv 1)∧w'.cell? ⟨xb,1,none⟩=some (iv y2)∧w'.cell? ⟨xb,2,none⟩=some (iv y3)∧w'.cell? ⟨xb,3,none⟩=some (iv y4)∧(Instr.lookup 156 (.map (some mb)) (.agg #[iv 1,iv y2,iv y3,iv y4]) false).run Tryz.prog w'=.ok (.int .i64 (hh:Int)) w') (st:=11) (by kernel_rfl) ?_;have hS0:(fun w':World=>w'.cell? ⟨bt,3,none⟩=some (.map (some mb))∧w'.cell? ⟨xb,0,none⟩=some (iv 1)∧w'.cell? ⟨xb,1,none⟩=some (iv y2)∧w'.cell? ⟨xb,2,none⟩=some (iv y3)∧w'.cell? ⟨xb,3,none⟩=some (iv y4)∧(Instr.lookup 156 (.map (some mb)) (.agg #[iv 1,iv y2,iv y3,iv y4]) false).run Tryz.prog w'=.ok (.int .i64 (hh:Int)) w') (U.drewN 1):=⟨x3,d0,d1,d2,d3,hlkU⟩;refine Zd 0 (some 59) ?v1 hS0 ?run1 ?rest1
       case run1=>intro w hS;obtain⟨s0,s1,s2,s3,s4,s5⟩:=hS;go_simp;rfl
       refine Zc 1 (some 60) [2,3,4,6] ?v2 hS0 ?run2 ?rest2
       case run2=>intro w hS;obtain⟨s0,s1,s2,s3,s4,s5⟩:=hS;go_simp;rfl
       refine Zc 2 (some 61) [3,4,6] ?v3 hS0 ?run3 ?rest3
       case run3=>intro w hS;obtain⟨s0,s1,s2,s3,s4,s5⟩:=hS;go_simp;rfl
       refine Zc 3 (some 62) [4,6] ?v4 hS0 ?run4 ?rest4
       case run4=>intro w hS;obtain⟨s0,s1,s2,s3,s4,s5⟩:=hS;go_simp;rfl
       refine Zc 4 (some 63) [6] ?v5 hS0 ?run5 ?rest5
       case run5=>intro w hS;obtain⟨s0,s1,s2,s3,s4,s5⟩:=hS;go_simp;rfl
       refine Zc 5 (some 64) [6] ?v6 hS0 ?run6 ?rest6
       case run6=>intro w hS;obtain⟨s0,s1,s2,s3,s4,s5⟩:=hS;go_simp;rfl
       refine Zd 6 (some 65) ?v7 hS0 ?run7 ?rest7
       case run7=>intro w hS;obtain⟨s0,s1,s2,s3,s4,s5⟩:=hS;go_simp;rfl
       refine Zc 7 (some 66) [10] ?v8 hS0 ?run8 ?rest8
       case run8=>intro w hS;obtain⟨s0,s1,s2,s3,s4,s5⟩:=hS;go_simp;rfl
       refine Zc 8 (some 67) [9,10] ?v9 hS0 ?run9 ?rest9
       case run9=>intro w hS;obtain⟨s0,s1,s2,s3,s4,s5⟩:=hS;go_simp;rfl
       refine Zc 9 (some 68) [10] ?v10 hS0 ?run10 ?rest10
       case run10=>intro w hS;obtain⟨s0,s1,s2,s3,s4,s5⟩:=hS;go_simp;rfl
       refine QP 10 (some 69) 100 #[.pointer (some ⟨bt,0,none⟩),iv 3,iv y2,iv 0,iv 0] rfl (by kernel_rfl) (by kernel_rfl) (by kernel_rfl) rfl ?_;refine(KA.o).mono ?_;rintro e z1 ⟨rfl,rfl⟩;refine⟨_,rfl,fun _=>hS0,?_⟩;refine QP 11 (some 70) 99 #[.pointer (some ⟨bt,0,none⟩),iv hh,iv x] rfl (by kernel_rfl) (by kernel_rfl) (by kernel_rfl) rfl ?_;refine(KE.o).mono ?_;rintro e z1 ⟨rfl,hbE,kE⟩;refine⟨_,rfl,fun h=>absurd rfl h,?_⟩;refine Qu (by kernel_rfl) ?_ _;generalize hA:Act.put _ _ _=A0;simp only [Qba,Qaa,Zu,Zv,Zw] at hA;subst hA;have HB7:=Zh (show BldE q3 bt sb pb mb _ N ((Qva p (N.take (j+1))).map (numE N)) z1 by rw [HSN.o,HEL.o];exact hbE);have HK7:=Zh (HKU.o.trans (KD.o.trans kE));clear hbE kE hS0 hlkU x3 d0 d1 d2 d3 KA KE;go_wp2;go_roundw
       case rel=>exact⟨j+1,by omega,by go_num,HB7,HK7⟩
       case measure=>simp [intOf];omega
      ·have t1:(y1==1)=false:=by simpa using k1
       by_cases k3:y1=3
       ·subst k3;obtain⟨i,k',j',f,b,st,e2,e3,e4,hf,hb,hs,-⟩:=Qti (show(⟨3,y2,y3,y4⟩:Qx)∈QR p by rw [HNP.o];exact HYM.o) (by simp [insN]);simp only at e2 e3 e4;subst e2 e3 e4;obtain⟨fb,fo,bv,rfl,hfb,-,g1,hbl⟩:=HC.o i f hf;obtain⟨ba,bc,rfl,-,hbc⟩:=hbl.cell;obtain⟨kb,ko,tv,rfl,hkb,-,k1',hsl⟩:=hbc k' b hb;obtain⟨sa,sc,rfl,-,hsc⟩:=hsl.cell;obtain⟨s4,s5,u,t,rfl,hs4,c0,c1,c2,c3,hu,ht⟩:=hsc j' st hs;have lt1:(i:Int)<(n:Int):=by have:=(List.getElem?_eq_some_iff.1 hf).1;have:=HL.o;omega
        obtain⟨bn,hbn⟩:=Ze f.blocks.length;obtain⟨sn,hsn⟩:=Ze b.stmts.length;have lt2:(k':Int)<(bn:Int):=by have:=(List.getElem?_eq_some_iff.1 hb).1;omega
        have lt3:(j':Int)<(sn:Int):=by have:=(List.getElem?_eq_some_iff.1 hs).1;omega
        rw [hbn] at g1;rw [hsn] at k1';obtain⟨ua,uc,rfl,-⟩:=hu.cell;obtain⟨ta,tc,rfl,-⟩:=ht.cell;obtain⟨un,hun⟩:=Ze st.uses.length;obtain⟨tn,htn⟩:=Ze st.targets.length;rw [hun] at c2;rw [htn] at c3 ht;have HBD:=Zh (show BldE q3 bt sb pb mb _ N _ (U.drewN 1) from by
         obtain⟨S,P,h1,h2⟩:=HBU.o;exact⟨S,P,h1.keep fun _ _=>rfl,h2⟩)
        have B3w:=Zh (HB3.o);have KS:=Zh (Qbr (w0:=w3) hbq HQ3.o (show Below q3 w3 (U.drewN 1) from Qp HB3U.o 1) p _ (HPP.o.keep (Qf.below (HZ.o.symm▸HB3.o)) (Qf.below (HZ.o.symm▸HB3.o)) (Qf.below (HZ.o.symm▸HB3.o)) (Qf.below (HZ.o.symm▸HB3.o))) hck0.o (HNN.o.symm▸HBD.o) (At.mk hf hb hs) (.slice ua un uc) (.slice ta tn tc) ⟨_,_,_,rfl⟩ (ht.same (Qf.below (HZ.o.symm▸HB3.o))));rw [HNN.o] at KS;have BZU:=HB3.o.trans (HB3U.o.mono (by omega:z≤q3));rw [hz] at hfb hkb hs4;have g1:=(BZU.cell (p:=⟨fb,fo+i*2+1,none⟩) hfb).trans g1;have k1':=(BZU.cell (p:=⟨kb,ko+k' * 2+1,none⟩) hkb).trans k1';have c0:=(BZU.cell (p:=⟨s4,s5+j' * 4,none⟩) hs4).trans c0;have c1:=(BZU.cell (p:=⟨s4,s5+j' * 4+1,none⟩) hs4).trans c1;have c2:=(BZU.cell (p:=⟨s4,s5+j' * 4+2,none⟩) hs4).trans c2;have c3:=(BZU.cell (p:=⟨s4,s5+j' * 4+3,none⟩) hs4).trans c3;have x0:U.cell? ⟨z,0,none⟩=some (.slice (some ⟨fb,fo,none⟩) n c):=by
         have:=(HB3U.o.cell (p:=⟨z,0,none⟩) (by show z<q3;omega)).trans ((Qd HP3.o).1 0)
         simpa using this
        have KD:=Zh (show Qbb q3 U (U.drewN 1) from⟨Qp ((Below.refl _ _).mono zU) 1,fun _ _ _=>Qf.drewN⟩);obtain⟨op,hop⟩:=Ze st.op;obtain⟨dn,hdn⟩:=Ze st.dfn;rw [hop] at c0 KS;rw [hdn] at c1 KS;clear hf hb hs hbl hbc hsl hsc hu ht hbn hsn hun htn hop hdn hfb hkb hs4 BZU;go_upto_region 18 with(fail)
        refine QK (S:=fun w'=>w'.cell? ⟨z,0,none⟩=some (.slice (some ⟨fb,fo,none⟩) n c)∧w'.cell? ⟨xb,0,none⟩=some (iv 3)∧w'.cell? ⟨xb,1,none⟩=some (iv i)∧w'.cell? ⟨xb,2,none⟩=some (iv k')∧w'.cell? ⟨xb,3,none⟩=some (iv j')∧w'.cell? ⟨fb,fo+i*2+1,none⟩=some (.slice (some ⟨kb,ko,none⟩) bn bc)∧w'.cell? ⟨kb,ko+k' * 2+1,none⟩=some (.slice (some ⟨s4,s5,none⟩) sn sc)∧w'.cell? ⟨s4,s5+j' * 4,none⟩=some (iv op)∧w'.cell? ⟨s4,s5+j' * 4+1,none⟩=some (sv dn)∧w'.cell? ⟨s4,s5+j' * 4+2,none⟩=some (.slice ua un uc)∧w'.cell? ⟨s4,s5+j' * 4+3,none⟩=some (.slice ta tn tc)) (st:=19) (by kernel_rfl) ?_;have hS0:(fun w':World=>w'.cell? ⟨z,0,none⟩=some (.slice (some ⟨fb,fo,none⟩) n c)∧w'.cell? ⟨xb,0,none⟩=some (iv 3)∧w'.cell? ⟨xb,1,none⟩=some (iv i)∧w'.cell? ⟨xb,2,none⟩=some (iv k')∧w'.cell? ⟨xb,3,none⟩=some (iv j')∧w'.cell? ⟨fb,fo+i*2+1,none⟩=some (.slice (some ⟨kb,ko,none⟩) bn bc)∧w'.cell? ⟨kb,ko+k' * 2+1,none⟩=some (.slice (some ⟨s4,s5,none⟩) sn sc)∧w'.cell? ⟨s4,s5+j' * 4,none⟩=some (iv op)∧w'.cell? ⟨s4,s5+j' * 4+1,none⟩=some (sv dn)∧w'.cell? ⟨s4,s5+j' * 4+2,none⟩=some (.slice ua un uc)∧w'.cell? ⟨s4,s5+j' * 4+3,none⟩=some (.slice ta tn tc)) (U.drewN 1):=⟨x0,d0,d1,d2,d3,g1,k1',c0,c1,c2,c3⟩;refine Zd 0 (some 73) ?v11 hS0 ?run11 ?rest11
        case run11=>intro w hS;obtain⟨s0,s1,s2,s3,s4',s5',s6,s7,s8,s9,s10⟩:=hS;go_simp;rfl
        refine Zd 1 (some 74) ?v12 hS0 ?run12 ?rest12
        case run12=>intro w hS;obtain⟨s0,s1,s2,s3,s4',s5',s6,s7,s8,s9,s10⟩:=hS;go_simp;rfl
        refine Zd 2 (some 75) ?v13 hS0 ?run13 ?rest13
        case run13=>intro w hS;obtain⟨s0,s1,s2,s3,s4',s5',s6,s7,s8,s9,s10⟩:=hS;go_simp;rfl
        refine Zc 3 (some 76) [4,7,8,9,12,13,14,17,18] ?v14 hS0 ?run14 ?rest14
        case run14=>intro w hS;obtain⟨s0,s1,s2,s3,s4',s5',s6,s7,s8,s9,s10⟩:=hS;go_simp;rfl
        refine Zc 4 (some 77) [7,8,9,12,13,14,17,18] ?v15 hS0 ?run15 ?rest15
        case run15=>intro w hS;obtain⟨s0,s1,s2,s3,s4',s5',s6,s7,s8,s9,s10⟩:=hS;go_simp;rfl
        refine Zc 5 (some 78) [6,7,8,9,12,13,14,17,18] ?v16 hS0 ?run16 ?rest16
        case run16=>intro w hS;obtain⟨s0,s1,s2,s3,s4',s5',s6,s7,s8,s9,s10⟩:=hS;go_simp;rfl
        refine Zc 6 (some 79) [7,8,9,12,13,14,17,18] ?v17 hS0 ?run17 ?rest17
        case run17=>intro w hS;obtain⟨s0,s1,s2,s3,s4',s5',s6,s7,s8,s9,s10⟩:=hS;go_simp;rfl
        refine Zc 7 (some 80) [8,9,12,13,14,17,18] ?v18 hS0 ?run18 ?rest18
        case run18=>intro w hS;obtain⟨s0,s1,s2,s3,s4',s5',s6,s7,s8,s9,s10⟩:=hS;go_simp;rfl
        refine Zc 8 (some 81) [9,12,13,14,17,18] ?v19 hS0 ?run19 ?rest19
        case run19=>intro w hS;obtain⟨s0,s1,s2,s3,s4',s5',s6,s7,s8,s9,s10⟩:=hS;go_simp;rfl
        refine Zc 9 (some 82) [12,13,14,17,18] ?v20 hS0 ?run20 ?rest20
        case run20=>intro w hS;obtain⟨s0,s1,s2,s3,s4',s5',s6,s7,s8,s9,s10⟩:=hS;go_simp;rfl
        refine Zc 10 (some 83) [11,12,13,14,17,18] ?v21 hS0 ?run21 ?rest21
        case run21=>intro w hS;obtain⟨s0,s1,s2,s3,s4',s5',s6,s7,s8,s9,s10⟩:=hS;go_simp;rfl
        refine Zc 11 (some 84) [12,13,14,17,18] ?v22 hS0 ?run22 ?rest22
        case run22=>intro w hS;obtain⟨s0,s1,s2,s3,s4',s5',s6,s7,s8,s9,s10⟩:=hS;go_simp;rfl
        refine Zc 12 (some 85) [13,14,17,18] ?v23 hS0 ?run23 ?rest23
        case run23=>intro w hS;obtain⟨s0,s1,s2,s3,s4',s5',s6,s7,s8,s9,s10⟩:=hS;go_simp;rfl
        refine Zc 13 (some 86) [14,17,18] ?v24 hS0 ?run24 ?rest24
        case run24=>intro w hS;obtain⟨s0,s1,s2,s3,s4',s5',s6,s7,s8,s9,s10⟩:=hS;go_simp;rfl
        refine Zc 14 (some 87) [17,18] ?v25 hS0 ?run25 ?rest25
        case run25=>intro w hS;obtain⟨s0,s1,s2,s3,s4',s5',s6,s7,s8,s9,s10⟩:=hS;go_simp;rfl
        refine Zc 15 (some 88) [16,17,18] ?v26 hS0 ?run26 ?rest26
        case run26=>intro w hS;obtain⟨s0,s1,s2,s3,s4',s5',s6,s7,s8,s9,s10⟩:=hS;go_simp;rfl
        refine Zc 16 (some 89) [17,18] ?v27 hS0 ?run27 ?rest27
        case run27=>intro w hS;obtain⟨s0,s1,s2,s3,s4',s5',s6,s7,s8,s9,s10⟩:=hS;go_simp;rfl
        refine Zc 17 (some 90) [18] ?v28 hS0 ?run28 ?rest28
        case run28=>intro w hS;obtain⟨s0,s1,s2,s3,s4',s5',s6,s7,s8,s9,s10⟩:=hS;go_simp;rfl
        refine Zd 18 (some 91) ?v29 hS0 ?run29 ?rest29
        case run29=>intro w hS;obtain⟨s0,s1,s2,s3,s4',s5',s6,s7,s8,s9,s10⟩:=hS;go_simp;rfl
        refine QP 19 (some 92) 101 #[.pointer (some ⟨bt,0,none⟩),.agg #[.slice (some ⟨fb,fo,none⟩) n c],.agg #[iv 3,iv i,iv k',iv j'],.agg #[iv op,sv dn,.slice ua un uc,.slice ta tn tc]] rfl (by kernel_rfl) (by kernel_rfl) (by kernel_rfl) rfl ?_;refine(KS.o).mono ?_;rintro e z1 ⟨rfl,hbE,kE⟩;refine⟨_,rfl,fun h=>absurd rfl h,?_⟩;refine Qu (by kernel_rfl) ?_ _;generalize hA:Act.put _ _ _=A0;simp only [Qba,Qaa,Zu,Zv,Zw] at hA;subst hA;have HB7:=Zh (show BldE q3 bt sb pb mb _ N ((Qva p (N.take (j+1))).map (numE N)) z1 by rw [HSN.o];exact hbE);have HK7:=Zh (HKU.o.trans (KD.o.trans kE));clear hbE kE hS0 x0 d0 d1 d2 d3 g1 k1' c0 c1 c2 c3 KS k1;go_wp2;go_roundw
        case rel=>exact⟨j+1,by omega,by go_num,HB7,HK7⟩
        case measure=>simp [intOf];omega
       ·have t3:(y1==3)=false:=by simpa using k3
        have HB7:=Zh (show BldE q3 bt sb pb mb _ N ((Qva p (N.take (j+1))).map (numE N)) U by
         rw [HSN.o,show QU p ⟨y1,y2,y3,y4⟩=[] by unfold QU;rw [if_neg k1,if_neg k3]]
         simpa using HBU.o)
        clear k1 k3;go_wp2;go_roundw
        case rel=>exact⟨j+1,by omega,by go_num,HB7,HKU⟩
        case measure=>simp [intOf];omega
     ·have HBE:=Zh (show BldE q3 bt sb pb mb (.slice la m lc) N ((Qva p N).map (numE N)) wr by have h9:=HBj.o;rw [List.take_of_length_le (show N.length≤j by rw [HM.o];omega)] at h9;exact h9);obtain⟨S,P,hB0,hG0⟩:=HBE.o;have HG0:=Zh hG0;have HBS:=Zh hB0;obtain⟨we,rfl⟩:∃x:World,x=wr:=⟨_,rfl⟩;clear hB0 hG0 HBE HBj;go_wp2;go_loopw [96] (fun y wr=>∃(k:Nat) (S1 P1:List (List Int)),k≤m∧y=.int .i64 k∧Hid (Bld q3 bt sb pb mb (.slice la m lc) N S1 P1 wr)∧Hid (QAe k S S1)∧Hid (QAe k P P1)∧Hid (Qbb q3 we wr)) (fun y _=>m-(intOf y).toNat)
      case atStart=>exact⟨0,S,P,Nat.zero_le _,rfl,HBS,QAe.zero S,QAe.zero P,Qbb.refl _ _ zwx⟩
      case round=>
       obtain⟨k,S1,P1,hk,rfl,HBk,HS1,HP1,HKk⟩:=hrel;have zwk:q3≤wr.heap.size:=by have:=HKk.o.below.size;omega
       obtain⟨x0,x1,x2,x3⟩:=Qt HBk.o.bl;rw [HM.o] at x1 x2;by_cases hlt:k<m
       ·obtain⟨⟨v1,r1,hr1,e1,own1,up1⟩,-⟩:=HBk.o.put hbq zwk (a:=k) (by rw [HM.o];exact hlt);obtain⟨hs1,HS2⟩:=HS1.o.step hr1;have hl1:=HG0.o.slen hs1;have K1:=Zh (HSORT.o q3 r1 v1 wr zwk (by rw [HM.o] at hl1;omega) own1);have U1:=Zh up1;have HS2:=Zh HS2;have hltb:bt<wr.heap.size:=Qb HBk.o.bl;have hkm:(k:Int)<(m:Int):=by omega
        clear hr1 own1 up1 hs1 hl1;go_wp2_with fail;refine K1.o.mono ?_;rintro e w5 ⟨rfl,ho5,hg5⟩;obtain⟨hb5,hk5⟩:=U1.o _ w5 ho5 hg5;have HB5:=Zh hb5;have HK5:=Zh (HKk.o.trans hk5);have zw5:q3≤w5.heap.size:=by have:=HK5.o.below.size;omega
        clear ho5 hg5 hb5 hk5 x0 x1 x2 x3 e1 K1 U1;obtain⟨x0,x1,x2,x3⟩:=Qt HB5.o.bl;rw [HM.o] at x1 x2;obtain⟨-,⟨v2,r2,hr2,e2,own2,up2⟩⟩:=HB5.o.put hbq zw5 (a:=k) (by rw [HM.o];exact hlt);obtain⟨hs2,HP2⟩:=HP1.o.step hr2;have hl2:=HG0.o.plen hs2;have K2:=Zh (HSORT.o q3 r2 v2 w5 zw5 (by rw [HM.o] at hl2;omega) own2);have U2:=Zh up2;have HP2:=Zh HP2;clear hr2 own2 up2 hs2 hl2;go_wp2_with fail;refine K2.o.mono ?_;rintro e w6 ⟨rfl,ho6,hg6⟩;obtain⟨hb6,hk6⟩:=U2.o _ w6 ho6 hg6;have HB6:=Zh hb6;have HK6:=Zh (HK5.o.trans hk6);clear ho6 hg6 hb6 hk6 x0 x1 x2 x3 e2 K2 U2;go_wp2;go_roundw
        case rel=>exact⟨k+1,_,_,by omega,by go_num,HB6,HS2,HP2,HK6⟩
        case measure=>simp [intOf];omega
       ·obtain⟨es,ep⟩:=QQl hck0.o (S:=S) (P:=P) (HNN.o.symm▸HG0.o);have HSS:=Zh (show S1=Qkc p by rw [←es];exact HS1.o.all (by rw [HG0.o.sl,HM.o];omega));have HPS:=Zh (show P1=Qmc p by rw [←ep];exact HP1.o.all (by rw [HG0.o.pl,HM.o];omega));have HKF:=Zh (show Below q3 w3 wr from HK0.o.trans (HKj.o.below.trans HKk.o.below));have HRF:=Zh (show wr.heap[z+1]? = some (.cells #[.slice none 0 0,.slice none 0 0,.slice none 0 0] 46 (0,0)) from(HKF.o.block (z+1) hzq).trans HR3.o);obtain⟨vs,us,b1,b2,b3,b4,b5,b6⟩:=HBk.o.rows;rw [HM.o] at b3 b4 b5;have b7:P1.length=m:=by have:=b6.len;simp at this;omega
        have HRS:=Zh (show Qoa Qqc wr (.slice (some ⟨sb,0,none⟩) m m) (Qkc p) by
         rw [←HSS.o];exact Qsp b1 b3 (by unfold maxLen;omega) (fun i v r hv hr=>b6.own i v r (by rw [List.getElem?_append_left (List.getElem?_eq_some_iff.1 hv).1];exact hv) (by rw [List.getElem?_append_left (List.getElem?_eq_some_iff.1 hr).1];exact hr)) (by omega))
        have HRP:=Zh (show Qoa Qqc wr (.slice (some ⟨pb,0,none⟩) m m) (Qmc p) by
         rw [←HPS.o];exact Qsp b2 b4 (by unfold maxLen;omega) (fun i v r hv hr=>b6.own (m+i) v r (by rw [List.getElem?_append_right (by omega),b3,Nat.add_sub_cancel_left];exact hv) (by rw [List.getElem?_append_right (by omega),b5,Nat.add_sub_cancel_left];exact hr)) (by omega))
        obtain⟨r0,r1,r2⟩:=QHi HRF.o;have fr:=(Qa HRF.o).2;clear b1 b2 b3 b4 b5 b6 b7 es ep;go_wp2;have hz3:=QWt HRF.o (.slice la m lc) (.slice (some ⟨sb,0,none⟩) m m) (.slice (some ⟨pb,0,none⟩) m m);have tz:tyAt wr (z+1)=some 46:=Qv HRF.o (by omega);have st:∀T,T≠46→Qf T wr (((wr.setCell ⟨z+1,0,none⟩ (.slice la m lc)).setCell ⟨z+1,1,none⟩ (.slice (some ⟨sb,0,none⟩) m m)).setCell ⟨z+1,2,none⟩ (.slice (some ⟨pb,0,none⟩) m m)):=fun T hT=>
         ((Qf.setCell (U:=46) tz hT).trans (Qf.setCell (U:=46) (by rw [QS];exact tz) hT)).trans (Qf.setCell (U:=46) (by rw [QS,QS];exact tz) hT)
        have BF:=(((HB3.o.trans (HKF.o.mono zw3)).setCell (p:=⟨z+1,0,none⟩) (by show z≤z+1;omega) (.slice la m lc)).setCell (p:=⟨z+1,1,none⟩) (by show z≤z+1;omega) (.slice (some ⟨sb,0,none⟩) m m)).setCell (p:=⟨z+1,2,none⟩) (by show z≤z+1;omega) (.slice (some ⟨pb,0,none⟩) m m);obtain⟨z0,z1,z2⟩:=QHi hz3;refine bodyPost_ret (v:=.tuple #[.agg #[.slice la m lc,.slice (some ⟨sb,0,none⟩) m m,.slice (some ⟨pb,0,none⟩) m m],iv 0]) (by simp [results,Tryz.results44,go_sem,z0,z1,z2]) rfl ⟨_,_,_,by rw [hck0.o],?_,?_,?_,?_⟩
        ·rw [HNP.o,HNN.o];exact(HNA.o.same (Qf.below (HQ3.o.symm▸HKF.o))).same (st _ (by decide))
        ·exact HRS.o.keep fun U hU=>st U (by rcases List.mem_cons.1 hU with rfl|hU;(show IT≠46;decide);simp [Qqc] at hU;subst hU;decide)
        ·exact HRP.o.keep fun U hU=>st U (by rcases List.mem_cons.1 hU with rfl|hU;(show IT≠46;decide);simp [Qqc] at hU;subst hU;decide)
        ·rw [HZ.o];exact BF
end
end Go.Proofs.YtijekimobahgpaaGreatDoor
namespace Go.Proofs
open Go.Shelf
def Tryz.laysSlsf6_ren:Go.Shelf.Ren:=⟨fun|6=>112|15=>166|14=>167|28=>206|29=>207|20=>208|21=>209|22=>210|23=>211|24=>212|25=>213|26=>214|27=>215|46=>241|47=>237|48=>238|49=>242|50=>243|57=>253|n=>n,fun|22=>53|24=>119|25=>175|3=>3|39=>140|0=>0|53=>253|55=>139|4=>4|46=>246|45=>245|50=>250|5=>5|9=>9|66=>269|70=>273|76=>281|77=>188|n=>n,fun|n=>n⟩
theorem Tryz.laysSlsf6:Go.Proofs.SlLaysF0.n6 Tryz.prog Tryz.laysSlsf6_ren:={
 mixed:=by kernel_rfl
 f6:=⟨Tryz.f112.name,by decide,Tryz.func112.trans (congrArg some (by kernel_rfl))⟩
 f14:=⟨Tryz.f167.name,by decide,Tryz.func167.trans (congrArg some (by kernel_rfl))⟩
 f15:=Tryz.func166.trans (congrArg some (by kernel_rfl))
 f20:=⟨Tryz.f208.name,by decide,Tryz.func208.trans (congrArg some (by kernel_rfl))⟩
 f21:=⟨Tryz.f209.name,by decide,Tryz.func209.trans (congrArg some (by kernel_rfl))⟩
 f22:=⟨Tryz.f210.name,by decide,Tryz.func210.trans (congrArg some (by kernel_rfl))⟩
 f23:=⟨Tryz.f211.name,by decide,Tryz.func211.trans (congrArg some (by kernel_rfl))⟩
 f24:=⟨Tryz.f212.name,by decide,Tryz.func212.trans (congrArg some (by kernel_rfl))⟩
 f25:=⟨Tryz.f213.name,by decide,Tryz.func213.trans (congrArg some (by kernel_rfl))⟩
 f26:=⟨Tryz.f214.name,by decide,Tryz.func214.trans (congrArg some (by kernel_rfl))⟩
 f27:=⟨Tryz.f215.name,by decide,Tryz.func215.trans (congrArg some (by kernel_rfl))⟩
 f28:=Tryz.func206.trans (congrArg some (by kernel_rfl))
 f29:=Tryz.func207.trans (congrArg some (by kernel_rfl))
 f46:=⟨Tryz.f241.name,by decide,Tryz.func241.trans (congrArg some (by kernel_rfl))⟩
 f47:=Tryz.func237.trans (congrArg some (by kernel_rfl))
 f48:=Tryz.func238.trans (congrArg some (by kernel_rfl))
 f49:=⟨Tryz.f242.name,by decide,Tryz.func242.trans (congrArg some (by kernel_rfl))⟩
 f50:=⟨Tryz.f243.name,by decide,Tryz.func243.trans (congrArg some (by kernel_rfl))⟩
 f57:=⟨Tryz.f253.name,by decide,Tryz.func253.trans (congrArg some (by kernel_rfl))⟩
 t0:=Tryz.underlying0
 a0:=Tryz.isAgg0
 z0:=Tryz.sizeOf0
 v0:=Tryz.zeroValue0
 t3:=Tryz.underlying3
 a3:=Tryz.isAgg3
 z3:=Tryz.sizeOf3
 v3:=Tryz.zeroValue3
 t4:=Tryz.underlying4
 a4:=Tryz.isAgg4
 z4:=Tryz.sizeOf4
 v4:=Tryz.zeroValue4
 t5:=Tryz.underlying5
 a5:=Tryz.isAgg5
 z5:=Tryz.sizeOf5
 v5:=Tryz.zeroValue5
 t9:=Tryz.underlying9
 a9:=Tryz.isAgg9
 z9:=Tryz.sizeOf9
 v9:=Tryz.zeroValue9
 t22:=Tryz.underlying53
 a22:=Tryz.isAgg53
 z22:=Tryz.sizeOf53
 v22:=Tryz.zeroValue53
 t25:=Tryz.underlying175
 a25:=Tryz.isAgg175
 z25:=Tryz.sizeOf175
 v25:=Tryz.zeroValue175
 t39:=Tryz.underlying140
 a39:=Tryz.isAgg140
 z39:=Tryz.sizeOf140
 v39:=Tryz.zeroValue140
 t45:=Tryz.underlying245
 a45:=Tryz.isAgg245
 z45:=Tryz.sizeOf245
 v45:=Tryz.zeroValue245
 t46:=Tryz.underlying246
 a46:=Tryz.isAgg246
 z46:=Tryz.sizeOf246
 v46:=Tryz.zeroValue246
 t50:=Tryz.underlying250
 a50:=Tryz.isAgg250
 z50:=Tryz.sizeOf250
 v50:=Tryz.zeroValue250
 t53:=Tryz.underlying253
 a53:=Tryz.isAgg253
 z53:=Tryz.sizeOf253
 v53:=Tryz.zeroValue253
 t55:=Tryz.underlying139
 a55:=Tryz.isAgg139
 z55:=Tryz.sizeOf139
 v55:=Tryz.zeroValue139
 t66:=Tryz.underlying269
 a66:=Tryz.isAgg269
 z66:=Tryz.sizeOf269
 v66:=Tryz.zeroValue269
 t70:=Tryz.underlying273
 a70:=Tryz.isAgg273
 z70:=Tryz.sizeOf273
 v70:=Tryz.zeroValue273
 t76:=Tryz.underlying281
 a76:=Tryz.isAgg281
 z76:=Tryz.sizeOf281
 v76:=Tryz.zeroValue281
 t77:=Tryz.underlying188
 a77:=Tryz.isAgg188
 z77:=Tryz.sizeOf188
 v77:=Tryz.zeroValue188 }
def Tryz.lays125_ren:Go.Shelf.Ren:=⟨fun|125=>166|128=>206|129=>207|n=>n,fun|46=>140|3=>3|51=>253|53=>139|4=>4|5=>5|9=>9|n=>n,fun|n=>n⟩
theorem Tryz.lays125:Go.Proofs.Lays.n125 Tryz.prog Tryz.lays125_ren:={
 mixed:=by kernel_rfl
 f125:=Tryz.func166.trans (congrArg some (by kernel_rfl))
 f128:=Tryz.func206.trans (congrArg some (by kernel_rfl))
 f129:=Tryz.func207.trans (congrArg some (by kernel_rfl))
 t3:=Tryz.underlying3
 a3:=Tryz.isAgg3
 z3:=Tryz.sizeOf3
 v3:=Tryz.zeroValue3
 t4:=Tryz.underlying4
 a4:=Tryz.isAgg4
 z4:=Tryz.sizeOf4
 v4:=Tryz.zeroValue4
 t5:=Tryz.underlying5
 a5:=Tryz.isAgg5
 z5:=Tryz.sizeOf5
 v5:=Tryz.zeroValue5
 t9:=Tryz.underlying9
 a9:=Tryz.isAgg9
 z9:=Tryz.sizeOf9
 v9:=Tryz.zeroValue9
 t46:=Tryz.underlying140
 a46:=Tryz.isAgg140
 z46:=Tryz.sizeOf140
 v46:=Tryz.zeroValue140
 t51:=Tryz.underlying253
 a51:=Tryz.isAgg253
 z51:=Tryz.sizeOf253
 v51:=Tryz.zeroValue253
 t53:=Tryz.underlying139
 a53:=Tryz.isAgg139
 z53:=Tryz.sizeOf139
 v53:=Tryz.zeroValue139 }
end Go.Proofs
namespace Go.Proofs.YtijekimobahgpaaGreatDoor
section
open Go.RowKit
variable [Base]
abbrev CpR:={c:Cp // 0≤c.1∧c.1≤1000}
instance:Inhabited CpR:=⟨⟨(0,0),by simp⟩⟩
def encR (x:CpR):List Value:=copV x.1
def cfR (x y:CpR):Int:=x.1.1-y.1.1
theorem ltR (x y:CpR):ltOf cfR x y=decide (x.1.1<y.1.1):=by
 unfold ltOf cfR;rw [decide_eq_decide];omega
theorem swoR:Go.Sort.SWO (ltOf cfR):=by
 refine⟨fun x=>?_,fun x y z h1 h2=>?_,fun x y z h1 h2=>?_⟩
 ·rw [ltR];simp
 ·rw [ltR] at h1 h2 ⊢;simp only [decide_eq_true_eq] at h1 h2 ⊢;omega
 ·rw [ltR] at h1 h2 ⊢;simp only [decide_eq_false_iff_not] at h1 h2 ⊢;omega
theorem QKk:∀(l:List Cp) (t:Nat) (c:Cp),l[t / 2]? = some c→(QHa l)[t]? = some (if t % 2=0 then iv c.1 else iv c.2)
|[],t,c,h=>by simp at h
|x::r,0,c,h=>by simp at h;subst h;rfl
|x::r,1,c,h=>by simp at h;subst h;rfl
|x::r,t+2,c,h=>by
  rw [show(t+2) / 2=t / 2+1 by omega,List.getElem?_cons_succ] at h
  have ih:=QKk r t c h
  rw [show(t+2) % 2=t % 2 by omega]
  simpa [QHa,copV] using ih
theorem QHk (d:List CpR) (t:Nat) (ht:t<d.length*2):(QHa (d.map Subtype.val))[t]? = some ((Go.Sort.flatK encR 2 d.toArray)[t]!):=by
 have hlt:t / 2<d.length:=by omega
 rw [Go.Sort.get_flatK _ _ _ _ (by simpa using ht)];have e:(d.map Subtype.val)[t / 2]? = some (d[t / 2]).1:=by simp [hlt]
 rw [QKk _ _ _ e];have e2:d.toArray[t / 2]! = d[t / 2]:=by simp [hlt]
 rw [e2];unfold encR copV;rcases Nat.mod_two_eq_zero_or_one t with h|h
 ·rw [h];rfl
 ·rw [h];rfl
theorem QJo {w:World} {n g:Nat} {F:Array Value} {os:Array Obj} {cur:Array Value} {t:TypeId} {fr:Nat×Nat} (hg:w.heap[g]? = some (.cells cur t fr)):
  (Sort.grow (Sort.putRow id (Sort.ahead w n) g 0 F) os).heap[g]? = some (.cells (Sort.putCells id 0 F cur) t fr):=by
 have hlt:=Qb hg;rw [Sort.heap_grow_old _ _ (by simpa using hlt)];unfold Sort.putRow Sort.mapBlock;simp [Array.getElem?_modify,Sort.ahead,hg,Sort.onCells]
theorem QOm {w:World} {n g k:Nat} {F:Array Value} {os:Array Obj} (hk:k<w.heap.size) (hne:k≠g):
  (Sort.grow (Sort.putRow id (Sort.ahead w n) g 0 F) os).heap[k]? = w.heap[k]?:=by
 rw [Sort.heap_grow_old _ _ (by simpa using hk)];unfold Sort.putRow Sort.mapBlock;simp [Array.getElem?_modify,Sort.ahead,Ne.symm hne]
theorem Qpt (a1 a2 b1 b2:Int) (ha:0≤a1∧a1≤1000) (hb:0≤b1∧b1≤1000) (w:World):
  Calls Tryz.prog 113 #[.agg #[iv a1,iv a2],.agg #[iv b1,iv b2]] w fun e w'=>e=.returned (iv (a1-b1))∧∃q os',w'=Sort.grow (w.drewN q) os':=by
 have hw:IntKind.i64.wrap (a1-b1)=a1-b1:=by apply IntWalk.i64_in <;> omega
 go_enter Tryz.func113,Tryz.ntmps113;go_wp2;go_ret;exact⟨rfl,0,_,by rw [Go.Sort.alloc_eq_grow,Go.Sort.alloc_eq_grow,Go.Sort.grow_grow];rfl⟩
theorem QLs (g off size:Nat) (w:World):CmpLays Tryz.prog 113 #[] encR 2 cfR g off size w:=
 fun _ _ _ _ x y=>Qpt x.1.1 x.1.2 y.1.1 y.1.2 x.2 y.2 _
theorem QIp (n:Nat) (W:World) (h:n≤12):Calls Tryz.prog 166 #[.int .u64 n] W fun e w'=>(∃l:Int,e=.returned (.int .i64 l))∧w'=W:=
 (Any.bits_Len Tryz.lays125 n W (by omega) (by omega)).mono fun _ _ ⟨he,hw⟩=>⟨⟨_,he⟩,hw⟩
theorem QFm (p:Option Addr) (cap:Nat) (fv:Value) (w:World):Calls Tryz.prog 208 #[.slice p 0 cap,iv 0,iv 0,fv] w fun e w'=>e=.returned (.tuple #[])∧w'=w:=by
 go_enter Tryz.func208,Tryz.ntmps208;go_wp2;refine wp_loop_rounds 1 ?_;rw [rounds_succ];go_wp2;go_end0;exact⟨rfl,rfl⟩
theorem Qhm (p:Option Addr) (cap:Nat) (lim:Int) (fv:Value) (w:World):Calls Tryz.prog 167 #[.slice p 0 cap,iv 0,iv 0,iv lim,fv] w fun e w'=>e=.returned (.tuple #[])∧w'=w:=by
 have K:=fun W=>QFm p cap fv W
 go_enter Tryz.func167,Tryz.ntmps167;go_wp2;refine wp_loop_rounds 1 ?_;rw [rounds_succ];go_wp2_with (go_at_call 208;refine(K _).mono ?_;rintro e w' ⟨rfl,rfl⟩)
 (try simp only [Exit.inBlock,Exit.then]);refine bodyPost_ret (results_none rfl _ _ _) rfl ?_
 exact⟨rfl,rfl⟩
theorem Qal (p:Option Addr) (cap:Nat) (fv:Value) (w:World):Calls Tryz.prog 112 #[.slice p 0 cap,fv] w fun e w'=>e=.returned (.tuple #[])∧w'=w:=by
 have K:=fun lim W=>Qhm p cap lim fv W
 have KL:=QIp 0 w (by omega);go_enter Tryz.func112,Tryz.ntmps112;go_wp2_with (first|(go_at_call 166;refine KL.mono ?_;rintro e w' ⟨⟨l,rfl⟩,rfl⟩)|(go_at_call 167;refine(K _ _).mono ?_;rintro e w' ⟨rfl,rfl⟩));go_end0;exact⟨rfl,rfl⟩
theorem Qpq {z:Nat} (l:List Cp) (v:Value) (w:World) (hin:∀c∈l,0≤c.1∧c.1≤1000) (hl:l.length≤12) (ho:Qya z w v l):
  Calls Tryz.prog 112 #[v,.func (.func 113) #[] #[]] w
   fun e w'=>e=.returned (.tuple #[])∧∃l',Qya z w' v l'∧l'.Perm l∧(l'.Pairwise fun a b=>a.1≤b.1)∧w.grownBy w' v.ownBlock:=by
 obtain⟨h1,h2⟩:=ho;rcases h2 with⟨rfl,h0⟩|⟨g,cap,cur,rfl,hg,hh,hn,hc,hs,ht⟩
 ·have hl0:l=[]:=List.length_eq_zero_iff.1 h0;subst hl0;refine(Qal none 0 _ w).mono ?_;rintro e w' ⟨rfl,rfl⟩;exact⟨rfl,[],Qya.nil,List.Perm.nil,List.Pairwise.nil,⟨rfl,rfl,rfl,Nat.le_refl _,fun _ _ _=>rfl⟩⟩
 ·obtain⟨L,hL⟩:∃L:List CpR,L.map Subtype.val=l:=⟨l.pmap Subtype.mk hin,by simp [List.map_pmap]⟩;have hLl:L.length=l.length:=by rw [←hL,List.length_map]
  have hlt:=Qb hh;have hcur:∀j,j<l.length*2→cur[j]? =(QHa l)[j]?:=fun j hj=>by
   have e:(cur.toList.take (l.length*2))[j]? =(QHa l)[j]?:=by rw [ht]
   rw [List.getElem?_take_of_lt hj] at e
   simpa using e
  have hH:Go.Sort.HoldsK encR 2 w g 0 L.toArray:=fun j hj=>by
   have hj':j<l.length*2:=by simpa [hLl] using hj
   refine⟨?_,by simp [World.frozen?,hh]⟩;have h3:=QHk L j (by rw [hLl];exact hj');rw [hL,←hcur j hj'] at h3;simp only [Nat.zero_add,World.cell?,hh]
   simpa using h3
  have hcon:=AnyQ.slices_SortFunc_small Tryz.laysSlsf6 2 Tryz.isAgg119 Tryz.sizeOf119 encR (fun _=>rfl) (fun x v hv=>by simp [encR,copV] at hv;rcases hv with rfl|rfl <;> rfl) cfR 113 #[] g 0 cap L.toArray w (enters_of Tryz.func113 (by kernel_rfl) rfl) (QLs g 0 _ w) hH hlt (by simp [hLl];omega) QIp
  change Calls Tryz.prog 112 #[.slice (some ⟨g,0,none⟩) L.length cap,_] _ _ at hcon
  rw [hLl] at hcon;refine hcon.mono ?_;rintro e w' ⟨rfl,n,os,rfl⟩;obtain⟨hp,hso⟩:=Go.Sort.insertionSort_holds swoR L.toArray 0 L.toArray.size (Nat.zero_le _) (Nat.le_refl _);obtain⟨R,hR⟩:∃R:List CpR,Go.Sort.insertionSort (ltOf cfR) L.toArray 0 L.toArray.size=R.toArray:=⟨_,(Array.toArray_toList).symm⟩;rw [hR] at hp hso ⊢;have hRl:R.length=L.length:=by simpa using hp.1
  have hperm:R.Perm L:=by
   have h3:=hp.2.2;have h4:(List.take L.length R).Perm L:=by simpa using h3
   rwa [List.take_of_length_le (by omega)] at h4
  refine⟨rfl,R.map Subtype.val,⟨?_,.inr ⟨g,cap,Sort.putCells id 0 (Go.Sort.flatK encR 2 R.toArray) cur,by rw [List.length_map,hRl,hLl],hg,QJo hh,by rw [List.length_map,hRl,hLl];exact hn,hc,by simp [Sort.putCells,hs],?_⟩⟩,?_,?_,?_⟩
  ·rw [QHa,List.length_flatten,List.map_map];have:∀l:List Cp,(l.map (List.length ∘ copV)).sum=l.length*2:=fun l=>by
    induction l with
   |nil=>rfl
   |cons c r ih=>simp [ih,copV];omega
   exact this _
  ·apply List.ext_getElem?;intro j;have hsz:cur.size=cap*2:=hs;rcases Nat.lt_or_ge j (R.length*2) with hj|hj
   ·rw [List.getElem?_take_of_lt (by rw [List.length_map];exact hj),QHk R j hj];have hjc:j<cur.size:=by omega
    simp [Sort.putCells,hjc,hj]
   ·rw [List.getElem?_eq_none (by rw [List.length_take,List.length_map];omega)];rw [List.getElem?_eq_none];have:∀l:List Cp,(QHa l).length=l.length*2:=fun l=>by
     induction l with
    |nil=>rfl
    |cons c r ih=>simp [QHa,copV] at ih ⊢;omega
    rw [this,List.length_map];exact hj
  ·rw [←hL];exact hperm.map _
  ·rw [List.pairwise_map,List.pairwise_iff_getElem];intro i j hi hj hij;have h3:=hso i j (Nat.zero_le _) hij (by simp;omega);have e1:R.toArray[i]! = R[i]:=by simp [hi]
   have e2:R.toArray[j]! = R[j]:=by simp [hj]
   rw [e1,e2] at h3;rw [ltR] at h3;simp only [decide_eq_false_iff_not] at h3;omega
  ·exact⟨rfl,rfl,rfl,by show _≤(Sort.grow (Sort.putRow id (Sort.ahead w n) g 0 _) os).heap.size;simp,fun k hk hne=>QOm hk fun e=>hne (by rw [e];rfl)⟩
end
section
open Go.RowKit
variable [Base]
theorem QOk:∀(l:List Cp) (c:Cp),Qxa (l++[c])=if l.getLast? = some c then Qxa l else Qxa l++[c]
|[],c=>by simp [Qxa]
|[x],c=>by
  by_cases h:x=c
  ·subst h;simp [Qxa]
  ·simp [Qxa,h]
|x::y::r,c=>by
  have ih:=QOk (y::r) c
  have e:(x::y::r).getLast? =(y::r).getLast?:=by simp [List.getLast?_cons]
  rw [e]
  show Qxa (x::(y::r++[c]))=_
  have e1:∀t,Qxa (x::y::t)=if x=y then Qxa (y::t) else x::Qxa (y::t):=fun t=>rfl
  rw [show(y::r)++[c]=y::(r++[c]) from rfl] at ih ⊢
  rw [e1,e1,ih]
  by_cases hxy:x=y
  ·rw [if_pos hxy,if_pos hxy]
  ·rw [if_neg hxy,if_neg hxy]
   split <;> simp
theorem QNk {l:List Cp} {i:Nat} {c d:Cp} (hi:l[i+1]? = some c) (hd:l[i]? = some d):Qxa (l.take (i+1+1))=if d=c then Qxa (l.take (i+1)) else Qxa (l.take (i+1))++[c]:=by
 have e1:l.take (i+1+1)=l.take (i+1)++[c]:=by rw [List.take_add_one,hi];rfl
 have e2:(l.take (i+1)).getLast? = some d:=by rw [List.take_add_one,hd];simp
 rw [e1,QOk,e2];by_cases h:d=c
 ·subst h;simp
 ·rw [if_neg h,if_neg (by simpa using h)]
theorem Qgn {l:List Cp} (h:l.length≤1):Qxa l=l:=by
 match l,h with
|[],_=>rfl
|[x],_=>rfl
theorem QSh {w0 w:World} {g o:Nat} {x:Value} (h:w0.grownBy w (some g)):w0.grownBy (w.setCell ⟨g,o,none⟩ x) (some g):=
 ⟨h.os,h.tape,h.output,by rw [World.size_setCell];exact h.size,fun k hk hne=>by rw [Below.heap_setCell _ _ _ _ (fun e=>hne (by rw [e]))];exact h.block k hk hne⟩
theorem QHo {w0 w:World} {g q:Nat} (h:w0.grownBy w (some g)):w0.grownBy (w.drewN q) (some g):=⟨h.os,h.tape,h.output,h.size,h.block⟩
structure Cmc (z g cap:Nat) (w0 wr:World) (m:List Cp):Prop where
 own:Qya z wr (.slice (some ⟨g,0,none⟩) m.length cap) m
 grown:w0.grownBy wr (some g)
theorem Cmc.drew {z g cap q:Nat} {w0 wr:World} {m:List Cp} (h:Cmc z g cap w0 wr m):Cmc z g cap w0 (wr.drewN q) m:=⟨h.own.below (Qp (Below.refl _ _) q),QHo h.grown⟩
theorem Cmc.put {z g cap k:Nat} {w0 wr:World} {m:List Cp} (h:Cmc z g cap w0 wr m) (hk:k<m.length) (c:Cp):Cmc z g cap w0 ((wr.setCell ⟨g,k*2,none⟩ (iv c.1)).setCell ⟨g,k*2+1,none⟩ (iv c.2)) (m.set k c):=by
 refine⟨?_,QSh (QSh h.grown)⟩;have h5:=Qvd (Qvd h.own (k*2) (iv c.1)) (k*2+1) (iv c.2);rw [show QHa m=(m.map copV).flatten from rfl,QTh (m.map copV) k _ _ (QJk m) (by rw [List.length_map];exact hk)] at h5;unfold Qya;rw [List.length_set];rw [show QHa (m.set k c)=((m.map copV).set k [iv c.1,iv c.2]).flatten by rw [QHa,List.map_set];rfl];exact h5
theorem Qtl (l:List Cp):(QHa l).length=l.length*2:=by
 induction l with
|nil=>rfl
|cons c r ih=>simp [QHa,copV] at ih ⊢;omega
theorem QUr {z g n k cap:Nat} {w:World} {m:List Cp} (h:w.ownsRow z CT 2 (.slice (some ⟨g,0,none⟩) n cap) n (QHa m)) (hm:m.length=n) (hk:k≤n):Qya z w (.slice (some ⟨g,0,none⟩) k cap) (m.take k):=by
 have hlen:∀l:List Cp,(QHa l).length=l.length*2:=fun l=>by
  induction l with
 |nil=>rfl
 |cons c r ih=>simp [QHa,copV] at ih ⊢;omega
 have hl:(m.take k).length=k:=by rw [List.length_take];omega
 obtain⟨h1,h2⟩:=h;rcases h2 with⟨h2,-⟩|⟨g',cap',cur,e,hg,hh,hn,hc,hs,ht⟩
 ·cases h2
 ·injection e with e1 e2 e3
  injection e1 with e1
  injection e1 with e1
  subst e1 e3;unfold Qya;rw [hl];refine⟨by rw [hlen,hl],.inr ⟨g,cap,cur,rfl,hg,hh,by omega,hc,hs,?_⟩⟩;have h3:(cur.toList.take (n*2)).take (k*2)=(QHa m).take (k*2):=by rw [ht]
  rw [List.take_take,Nat.min_eq_left (by omega)] at h3;rw [h3];apply List.ext_getElem?;intro j;have get:∀(l:List Cp) (t:Nat),(QHa l)[t]? =(l[t / 2]?).map fun c=>if t % 2=0 then iv c.1 else iv c.2:=fun l=>by
   induction l with
  |nil=>intro t;simp [QHa]
  |cons c r ih=>
    intro t
    match t with
   |0=>rfl
   |1=>rfl
   |t+2=>
     rw [show(t+2) / 2=t / 2+1 by omega,show(t+2) % 2=t % 2 by omega,List.getElem?_cons_succ,←ih t];simp [QHa,copV]
  rw [get,List.getElem?_take,List.getElem?_take,get];by_cases hj:j<k*2
  ·rw [if_pos hj,if_pos (by omega)]
  ·rw [if_neg hj,if_neg (by omega)];rfl
theorem Qbh {z g n c:Nat} {T:TypeId} {sz:Nat} {xs:List Value}:∀(vs:List Value) {w:World} {o:Nat},xs.length≤o→w.ownsRow z T sz (.slice (some ⟨g,0,none⟩) n c) n xs→(w.setCells g o vs).ownsRow z T sz (.slice (some ⟨g,0,none⟩) n c) n xs
|[],_,_,_,h=>h
|v::r,w,o,ho,h=>by
  have h1:=Qvd h o v
  rw [List.set_eq_of_length_le ho] at h1
  exact Qbh r (by omega) h1
theorem QEf {w0:World} {g:Nat}:∀(vs:List Value) {w:World} {o:Nat},w0.grownBy w (some g)→w0.grownBy (w.setCells g o vs) (some g)
|[],_,_,h=>h
|v::r,w,o,h=>QEf r (QSh h)
theorem Cmc.cell {z g cap k:Nat} {w0 wr:World} {m:List Cp} {c:Cp} (h:Cmc z g cap w0 wr m) (hk:m[k]? = some c):wr.cell? ⟨g,k*2,none⟩=some (iv c.1)∧wr.cell? ⟨g,k*2+1,none⟩=some (iv c.2):=by
 obtain⟨a,cc,e,-,-,-,hc⟩:=h.own.at_.cell;obtain⟨b,off,e2,-,h1,h2⟩:=hc k c hk;injection e with e
 rw [e2] at e;injection e with e
 injection e with e e3
 subst e e3;rw [Nat.zero_add] at h1 h2;exact⟨h1,h2⟩
theorem Cmc.frz {z g cap:Nat} {w0 wr:World} {m:List Cp} (h:Cmc z g cap w0 wr m) (hz:Base.b≤z) (hm:0<m.length) (j:Nat):wr.frozen? ⟨g,j,none⟩=false:=by
 obtain⟨g',e,-,-,-,-,h5⟩:=QWd (show wr.ownsRow z CT 2 (.slice (some ⟨g,0,none⟩) m.length cap) m.length (QHa m) from h.own) hm hz;injection e with e
 injection e with e
 subst e;exact h5 j
theorem Qij (w:World) (ty:TypeId) (g o n c:Nat) (hn:0<n) (hc:∀j,j<n*2→(w.cell? ⟨g,o+j,none⟩).isSome=true) (hf:∀j,j<n*2→w.frozen? ⟨g,o+j,none⟩=false):
  (Builtin.clear_ #[53] ty #[.slice (some ⟨g,o,none⟩) n c]).run Tryz.prog w=.ok (.tuple #[]) (w.setCells g o (Builtin.zeroCells (Value.agg #[iv 0,iv 0]).cells n).toList):=by
 have hz:(Builtin.zeroCells (Value.agg #[iv 0,iv 0]).cells n).toList.length=n*2:=by simp [Builtin.zeroCells,Value.cells]
 have hst:=run_storeCells_cells (P:=Tryz.prog) g o (Builtin.zeroCells (Value.agg #[iv 0,iv 0]).cells n).toList 0 w (by rw [hz];simpa using hc) (by rw [hz];simpa using hf) (by
  intro v hv;simp [Builtin.zeroCells,Value.cells] at hv;obtain⟨a,ha,rfl⟩:=hv;rcases Nat.mod_two_eq_zero_or_one a with h|h <;> simp [h,Value.oneCell'])
 simp only [Nat.add_zero] at hst;obtain⟨m,rfl⟩:∃m,n=m+1:=⟨n-1,by omega⟩;simp [Builtin.clear_,run_underlying Tryz.underlying53,Tryz.zeroValue119,hst]
theorem Qfn {z:Nat} (l:List Cp) (v:Value) (w:World) (hl:l.length≤12) (ho:Qya z w v l) (hz:Base.b≤z):
  Calls Tryz.prog 114 #[v] w fun e w'=>∃u,e=.returned u∧QKc w' u (Qxa l)∧w.grownBy w' v.ownBlock:=by
 obtain⟨n,hn⟩:=Ze l.length;obtain⟨a,cap,hve,hnc,hcm⟩:=QXa ho;rw [hn] at hve hnc hl;subst hve;by_cases h2:n<2
 ·have HO:=Zh ho;have HC:=Zh (Qgn (l:=l) (by omega));clear ho hn;go_enter Tryz.func114,Tryz.ntmps114;go_wp2;go_ret;exact⟨_,rfl,by rw [HC.o];exact HO.o.at_,⟨rfl,rfl,rfl,Nat.le_refl _,fun _ _ _=>rfl⟩⟩
 ·obtain⟨g,rfl,hgz,hgw,hgt,-,hfz⟩:=QWd (show w.ownsRow z CT 2 (.slice a n cap) n (QHa l) by have h3:=ho;unfold Qya at h3;rw [hn] at h3;exact h3) (show 0<n by omega) hz;have HM0:=Zh (show Cmc z g cap w w l from⟨by rw [hn];exact ho,⟨rfl,rfl,rfl,Nat.le_refl _,fun _ _ _=>rfl⟩⟩);have HN:=Zh hn;have hN1:=Zh (show Qxa (l.take 1)=l.take 1 from Qgn (by rw [List.length_take];omega));clear ho hn hfz hgt;go_enter Tryz.func114,Tryz.ntmps114;go_wp2;go_loopw [3] (fun y wr=>∃k:Nat,k+1≤n∧y=.int .i64 ((k:Int)+1)∧Hid (Cmc z g cap w wr l)∧Hid (Qxa (l.take (k+1))=l.take (k+1))) (fun y _=>n-(intOf y).toNat)
  case atStart=>exact⟨0,by omega,by go_num,HM0.o,hN1.o⟩
  case round=>
   obtain⟨k,hk,rfl,HM,HD⟩:=hrel;by_cases hlt:k+1<n
   ·obtain⟨⟨c1,c2⟩,hc⟩:∃c,l[k+1]? = some c:=⟨_,List.getElem?_eq_getElem (by rw [HN.o];exact hlt)⟩;obtain⟨⟨d1,d2⟩,hd⟩:∃c,l[k]? = some c:=⟨_,List.getElem?_eq_getElem (by rw [HN.o];omega)⟩;obtain⟨x0,x1⟩:=HM.o.cell hc;obtain⟨y0,y1⟩:=HM.o.cell hd;have HT:=Zh (QNk hc hd);simp only at x0 x1 y0 y1;have HC1:=Zh hc;clear hc hd;by_cases e:c1=d1∧c2=d2
    ·obtain⟨rfl,rfl⟩:=e;have HS:=Zh (show Qxa (l.take (k+1+1))=l.take (k+1) by rw [HT.o,if_pos rfl];exact HD.o);clear HD HT;go_wp2;go_quiet (fail);go_wp2;clear x0 x1 y0 y1;obtain⟨wo,rfl⟩:∃x:World,x=wr:=⟨_,rfl⟩;have hd13:decide ((k:Int)+1<(n:Int))=true:=by simp;omega
     simp only [hd13];clear hd13;go_loopw [3,5] (fun y3 y5 wr=>∃(kk j:Nat) (m:List Cp),y3=.int .i64 kk∧y5=.int .i64 ((j:Int)+1)∧k+1+(j+1)≤n∧kk≤k+1+j∧Hid (m.length=n)∧Hid (Cmc z g cap w wr m)∧Hid (m.take kk=Qxa (l.take (k+1+j+1)))∧Hid (∀i,k+1+j≤i→m[i]? = l[i]?)) (fun _ y _=>n-(intOf y).toNat)
     case atStart=>exact⟨k+1,0,l,by go_num,by go_num,by omega,by omega,HN.o,HM.o.drew,HS.o.symm,fun _ _=>rfl⟩
     case round=>
      obtain⟨kk,j,m,rfl,rfl,hj,hkk,HML,HMM,HMT,HMR⟩:=hrel;by_cases hlt2:k+1+(j+1)<n
      ·obtain⟨⟨u1,u2⟩,hu⟩:∃c,l[k+1+j+1]? = some c:=⟨_,List.getElem?_eq_getElem (by rw [HN.o];omega)⟩;obtain⟨⟨v1,v2⟩,hv⟩:∃c,l[k+1+j]? = some c:=⟨_,List.getElem?_eq_getElem (by rw [HN.o];omega)⟩;obtain⟨⟨o1,o2⟩,ho⟩:∃c,m[kk]? = some c:=⟨_,List.getElem?_eq_getElem (by rw [HML.o];omega)⟩;obtain⟨x0,x1⟩:=HMM.o.cell ((HMR.o (k+1+j+1) (by omega)).trans hu);obtain⟨y0,y1⟩:=HMM.o.cell ((HMR.o (k+1+j) (by omega)).trans hv);rw [show(k+1+j+1)*2=(k+1)*2+(j+1)*2 by omega] at x0 x1;rw [show(k+1+j)*2=(k+1)*2+j*2 by omega] at y0 y1;have HT:=Zh (QNk hu hv);simp only at x0 x1 y0 y1;have HU:=Zh hu;clear hu hv;by_cases e:u1=v1∧u2=v2
       ·obtain⟨rfl,rfl⟩:=e;have HS2:=Zh (show m.take kk=Qxa (l.take (k+1+(j+1)+1)) by
         rw [show k+1+(j+1)+1=k+1+j+1+1 by omega,HT.o,if_pos rfl];exact HMT.o)
        clear HT ho HMT;go_wp2;go_quiet (fail);go_wp2;go_roundw
        case rel=>exact⟨kk,j+1,m,rfl,by go_num,by omega,by omega,HML,HMM.o.drew,HS2,fun i hi=>HMR.o i (by omega)⟩
        case measure=>simp [intOf];omega
       ·have HS2:=Zh (show(m.set kk (u1,u2)).take (kk+1)=Qxa (l.take (k+1+(j+1)+1)) by
         rw [show k+1+(j+1)+1=k+1+j+1+1 by omega,HT.o,if_neg (fun h=>e (by injection h with h1 h2;exact⟨h1.symm,h2.symm⟩)),←HMT.o];have hlt3:kk<m.length:=by rw [HML.o];omega
         rw [List.take_add_one,List.getElem?_set_self hlt3,List.take_set_of_le (Nat.le_refl _)];rfl)
        obtain⟨p0,p1⟩:=HMM.o.cell ho;simp only at p0 p1;have fz:=HMM.o.frz hz (by rw [HML.o];omega);have f0:=fz (kk*2);have f1:=fz (kk*2+1);have HMP:=Zh (fun q=>(HMM.o.drew (q:=q)).put (k:=kk) (by rw [HML.o];omega) (u1,u2));have HMS:=Zh (show ∀i,k+1+(j+1)≤i→(m.set kk (u1,u2))[i]? = l[i]? from fun i hi=>by
         rw [List.getElem?_set_ne (by omega)];exact HMR.o i (by omega))
        have HML2:=Zh (show(m.set kk (u1,u2)).length=n by rw [List.length_set];exact HML.o);clear HT ho fz HMT;by_cases e1:u1=v1
        ·have e2:¬u2=v2:=fun h=>e ⟨e1,h⟩
         subst e1;clear e;go_wp2;go_quiet (fail);go_wp2;go_roundw
         case rel=>exact⟨kk+1,j+1,_,by go_num,by go_num,by omega,by omega,HML2,HMP.o _,HS2,HMS⟩
         case measure=>simp [intOf];omega
        ·clear e;go_wp2;go_quiet (fail);go_wp2;go_roundw
         case rel=>exact⟨kk+1,j+1,_,by go_num,by go_num,by omega,by omega,HML2,HMP.o _,HS2,HMS⟩
         case measure=>simp [intOf];omega
      ·have he:k+1+j+1=n:=by omega
       have HE:=Zh (show m.take kk=Qxa l by
        have h:=HMT.o;have h2:l.take (k+1+j+1)=l:=List.take_of_length_le (by rw [HN.o];omega)
        rwa [h2] at h)
       have hcl:∀ty,(Builtin.clear_ #[53] ty #[.slice (some ⟨g,kk*2,none⟩) (n-kk) (cap-kk)]).run Tryz.prog wr=.ok (.tuple #[]) (wr.setCells g (kk*2) (Builtin.zeroCells (Value.agg #[iv 0,iv 0]).cells (n-kk)).toList):=fun ty=>
        Qij wr ty g (kk*2) (n-kk) (cap-kk) (by omega) (fun t ht=>by
         obtain⟨c,hc⟩:∃c,m[kk+t / 2]? = some c:=⟨_,List.getElem?_eq_getElem (by rw [HML.o];omega)⟩;obtain⟨c0,c1⟩:=HMM.o.cell hc;rcases Nat.mod_two_eq_zero_or_one t with h|h
         ·rw [show kk*2+t=(kk+t / 2)*2 by omega,c0];rfl
         ·rw [show kk*2+t=(kk+t / 2)*2+1 by omega,c1];rfl) (fun t _=>HMM.o.frz hz (by rw [HML.o];omega) _)
       have HR:=Zh (show QKc (wr.setCells g (kk*2) (Builtin.zeroCells (Value.agg #[iv 0,iv 0]).cells (n-kk)).toList) (.slice (some ⟨g,0,none⟩) kk cap) (Qxa l) by
        rw [←HE.o];have h1:=QUr (k:=kk) HMM.o.own rfl (by rw [HML.o];omega);have h2:(m.take kk).length=kk:=by rw [List.length_take,HML.o];omega
        have h3:=Qbh (Builtin.zeroCells (Value.agg #[iv 0,iv 0]).cells (n-kk)).toList (o:=kk*2) (by rw [Qtl,h2];exact Nat.le_refl _) (show wr.ownsRow z CT 2 (.slice (some ⟨g,0,none⟩) kk cap) kk (QHa (m.take kk)) by unfold Qya at h1;rwa [h2] at h1);exact Qg.of_owns h3)
       have HG:=Zh (QEf (Builtin.zeroCells (Value.agg #[iv 0,iv 0]).cells (n-kk)).toList (o:=kk*2) HMM.o.grown);clear he;go_wp2;go_ret;exact⟨_,rfl,HR.o,HG.o⟩
    ·have HS:=Zh (show Qxa (l.take (k+1+1))=l.take (k+1+1) by
      rw [HT.o,if_neg (fun h=>e (by injection h with h1 h2;exact⟨h1.symm,h2.symm⟩)),HD.o,List.take_add_one (i:=k+1),HC1.o];rfl)
     clear HD HT;by_cases e1:c1=d1
     ·have e2:¬c2=d2:=fun h=>e ⟨e1,h⟩
      subst e1;clear e;go_wp2;go_quiet (fail);go_wp2;go_roundw
      case rel=>exact⟨k+1,by omega,by go_num,HM.o.drew,HS⟩
      case measure=>simp [intOf];omega
     ·clear e;go_wp2;go_quiet (fail);go_wp2;go_roundw
      case rel=>exact⟨k+1,by omega,by go_num,HM.o.drew,HS⟩
      case measure=>simp [intOf];omega
   ·obtain rfl:k+1=n:=by omega
    have HE:=Zh (show Qxa l=l by
     have h:=HD.o
     rwa [List.take_of_length_le (by rw [HN.o];exact Nat.le_refl _)] at h)
    go_wp2;go_ret;exact⟨_,rfl,by rw [HE.o];have h:=HM.o.own.at_;rwa [HN.o] at h,HM.o.grown⟩
end
section
open Go.RowKit
variable [Base]
abbrev TBT:TypeId:=106
def OwnI (z:Nat) (w:World) (v:Value) (l:List Int):Prop:=w.ownsRow z 3 1 v l.length (l.map iv)
theorem OwnI.ints {z:Nat} {w:World} {v:Value} {l:List Int} (h:OwnI z w v l):QJa w v l:=Qg.of_owns h
theorem OwnI.nil {z:Nat} {w:World}:OwnI z w (.slice none 0 0) []:=World.ownsRow_nil _ _ _ _
theorem OwnI.below {z:Nat} {w w':World} {v:Value} {l:List Int} (h:OwnI z w v l) (b:Below w.heap.size w w'):OwnI z w' v l:=QZd h b
theorem OwnI.push {z n:Nat} {w:World} {v:Value} {l:List Int} {x:Int} (hn:l.length=n) (h:w.ownsRow z 3 1 v (n+1) (l.map iv++[iv x])):OwnI z w v (l++[x]):=by
 unfold OwnI;rw [List.length_append,List.map_append,hn];exact h
theorem OwnI.shape {z:Nat} {w:World} {v:Value} {l:List Int} (h:OwnI z w v l):∃a c,v=.slice a l.length c∧l.length≤c∧c≤maxLen:=QXa h
def fofK (l:List Qra) (v:Int) (k:Nat):List Int:=rowF k fun i=>decide (Qyf l i=v)
theorem Qgr (l:List Qra) (v:Int) (k:Nat):fofK l v (k+1)=fofK l v k++(if Qyf l k=v then [(k:Int)] else []):=by
 unfold fofK rowF;rw [List.range_succ,List.filter_append,List.map_append]
 congr 1
 by_cases h:Qyf l k=v
 ·simp [h]
 ·simp [h]
theorem Qzs (l:List Qra) (v:Int) (k:Nat):(fofK l v k).length≤k:=Qbm _ _
theorem Qiq {l:List Qra} {k:Nat} {f:Qra} (h:l[k]? = some f):Qyf l k=f.var:=by unfold Qyf;rw [h];rfl
theorem QJt (kind:Int) (l:List Qra) (vars:List Str) (fv vv:Value) (x:Str) (w:World) (hl:Qqd w fv l) (hv:Qea w vv vars) (hn:l.length≤1000) (hbs:Base.b≤w.heap.size):
  Calls Tryz.prog 109 #[.agg #[iv kind,fv,vv],sv x] w (QWk (QGa l (idxI vars x)) w):=by
 have HF:=Zh hl;have HV:=Zh hv;obtain⟨fa,fc,rfl,-,-,-,hfc⟩:=hl.cell;obtain⟨va,vc,rfl,-,-⟩:=hv.cell;have HFC:=Zh hfc;obtain⟨n,hln⟩:=Ze l.length;obtain⟨vn,hvn⟩:=Ze vars.length;rw [hln] at HF hn;rw [hvn] at HV;rw [hln,hvn];have HL:=Zh hln;obtain⟨z,hz⟩:=Ze w.heap.size;have HZ:=Zh hz;obtain⟨W,hW⟩:=Ze (w.alloc (.cells #[iv kind,.slice fa n fc,.slice va vn vc] TBT));have HTB:=Zh (show W.heap[z]? = some (.cells #[iv kind,.slice fa n fc,.slice va vn vc] TBT (0,0)) by rw [←hW,←hz];exact heap_alloc_new _ _);have BW:=Zh (show Below z w W by rw [←hW,←hz];exact Zb);have HWW:=Zh hW;have hzb:Base.b≤z:=by omega
 obtain⟨ix,hix⟩:=Ze (idxI vars x);have KI:=Zh (show Calls Tryz.prog 160 #[.slice va vn vc,sv x] W (IntQ ix W) by
  rw [←hix];exact QBj vars _ x W (Qg.same HV.o (Qf.below (HZ.o▸BW.o))))
 rw [hix];clear hl hv hfc hln hvn hW hix;obtain⟨x0,x1,x2⟩:=QVa HTB.o;go_enter Tryz.func109,Tryz.ntmps109;go_upto_region 1 with(fail)
 rw [show w.alloc (.cells #[iv kind,.slice fa n fc,.slice va vn vc] TBT)=W from HWW.o]
 try rw [hz]
 go_wp2_with fail;refine KI.o.mono ?_;rintro e w1 ⟨rfl,b1⟩;have BW1:=Zh (BW.o.trans (b1.mono (by have:=Qb HTB.o;omega)));have HT1:=Zh (Qc HTB.o b1 (Qb HTB.o));clear b1 x0 x1 x2 KI;obtain⟨x0,x1,x2⟩:=QVa HT1.o;go_wp2;clear x0 x1 x2;go_loopw [6,16] (fun v y wr=>∃k:Nat,k≤n∧y=.int .i64 k∧Hid (Below z w wr)∧Hid (OwnI z wr v (fofK l ix k))) (fun _ y _=>n-(intOf y).toNat)
 case atStart=>exact⟨0,Nat.zero_le _,rfl,BW1.o,OwnI.nil⟩
 case round=>
  obtain⟨k,hk,rfl,HB,HO⟩:=hrel;rename_i v _;obtain⟨oa,oc,rfl,-⟩:=HO.o.shape;by_cases hlt:k<n
  ·obtain⟨f,hf⟩:∃f,l[k]? = some f:=⟨_,List.getElem?_eq_getElem (by rw [HL.o];exact hlt)⟩;obtain⟨fb,fo,rfl,hfb,g0,g1⟩:=HFC.o k f hf;have hfz:fb<z:=by omega
   have g0:=(HB.o.cell (p:=⟨fb,fo+k*2,none⟩) hfz).trans g0;have g1:=(HB.o.cell (p:=⟨fb,fo+k*2+1,none⟩) hfz).trans g1;have HS:=Zh (Qgr l ix k);rw [Qiq hf] at HS;obtain⟨fn,hfn⟩:=Ze f.node;obtain⟨fx,hfx⟩:=Ze f.var;rw [hfn] at g0;rw [hfx] at g1 HS;obtain⟨V1,hV1⟩:=Ze (wr.alloc (.cells #[iv fn,iv fx] FT));obtain⟨cb,hcb⟩:=Ze wr.heap.size;have B1:=Zh (show Below wr.heap.size wr V1 by rw [←hV1];exact Zb);have HCB:=Zh (show V1.heap[cb]? = some (.cells #[iv fn,iv fx] FT (0,0)) by rw [←hV1,←hcb];exact heap_alloc_new _ _);have HB1:=Zh (HB.o.trans (B1.o.mono (by have:=HB.o.size;omega)));have HO1:=Zh (HO.o.below B1.o);have HV1:=Zh hV1;have hD:(fofK l ix k).length≤1000:=by have:=Qzs l ix k;omega
   obtain⟨D,hDD⟩:=Ze (fofK l ix k);rw [hDD] at HS hD HO1 ⊢;clear hV1 hf hfn hfx hDD;go_upto_region 6 with(fail)
   try rw [hcb]
   rw [show wr.alloc (.cells #[iv fn,iv fx] FT)=V1 from HV1.o];clear g0 g1;obtain⟨c0,c1⟩:=Qq HCB.o;by_cases e:fx=ix
   ·have t1:(fx==ix)=true:=by simpa using e
    have HSS:=Zh (show fofK l ix (k+1)=D++[(k:Int)] by rw [HS.o,if_pos e]);clear e;have hzV:z≤V1.heap.size:=by have:=HB1.o.size;omega
    have PUSH:=Zh (show ∀g cap w',w'.ownsRow z 3 1 (.slice (some ⟨g,0,none⟩) (D.length+1) cap) (D.length+1) (D.map iv++[iv k])→V1.grownBy w' (Value.slice oa D.length oc).ownBlock →
      Below z w w'∧OwnI z w' (.slice (some ⟨g,0,none⟩) (D.length+1) cap) (D++[(k:Int)]) from fun g cap w' ho hg=>
     ⟨HB1.o.trans (Below.of_grown hg HO1.o hzV),OwnI.push rfl ho⟩)
    go_wp2_with (at_builtin;refine QL [iv k] rfl _ _ _ rfl z 3 _ 1 8 Tryz.underlying22 QRa rfl (by omega) _ _ _ HO1.o rfl rfl rfl rfl (by unfold maxLen;omega) (by omega) hzV ?_;intro g cap w9 ho hg hzg _;have HP9:=Zh (PUSH.o g cap w9 ho hg);clear ho hg hzg);have HO9:=Zh (HSS.o▸HP9.o.2);go_roundw
    case rel=>exact⟨k+1,by omega,by go_num,HP9.o.1,HO9.o⟩
    case measure=>simp [intOf];omega
   ·have t1:(fx==ix)=false:=by simpa using e
    have HO9:=Zh (show OwnI z V1 (.slice oa D.length oc) (fofK l ix (k+1)) by rw [HS.o,if_neg e,List.append_nil];exact HO1.o);clear e;go_wp2;go_roundw
    case rel=>exact⟨k+1,by omega,by go_num,HB1.o,HO9.o⟩
    case measure=>simp [intOf];omega
  ·obtain rfl:k=n:=by omega
   have HE:=Zh (show fofK l ix k=QGa l ix by unfold fofK QGa;rw [HL.o]);have HI:=Zh (show QJa wr (.slice oa (fofK l ix k).length oc) (QGa l ix) from HE.o▸HO.o.ints);go_wp2;go_ret;exact⟨_,rfl,HI.o,by rw [HZ.o];exact HB.o⟩
end
section
open Go.RowKit
variable [Base]
theorem Qho {l:List Qra} {k:Nat} {f:Qra} (h:l[k]? = some f):Qxc l k=f.node:=by unfold Qxc;rw [h];rfl
theorem QGq {l:List Qra} {i k:Nat} (hk:k<l.length) (h:Qxc l k=(i:Int)) (hn:∀j,j<k→Qxc l j≠(i:Int)):ownF l i=(k:Int):=by
 unfold ownF;have e:(List.range l.length).find? (fun b=>decide (Qxc l b=(i:Int)))=some k:=by
  rw [List.find?_range_eq_some];exact⟨by simpa using h,List.mem_range.2 hk,fun j hj=>by simpa using hn j hj⟩
 rw [e]
theorem QHq {l:List Qra} {i:Nat} (hn:∀j,j<l.length→Qxc l j≠(i:Int)):ownF l i = -1:=by
 unfold ownF;have e:(List.range l.length).find? (fun b=>decide (Qxc l b=(i:Int)))=none:=by
  rw [List.find?_eq_none];intro x hx
  simpa using hn x (List.mem_range.1 hx)
 rw [e]
theorem Qpo (fn fx:Int) (q:Nat) (i:Int) (w:World) (hq:w.cell? ⟨q,0,none⟩=some (iv i)) (hlt:q<w.heap.size):
  Calls Tryz.prog 111 #[.agg #[iv fn,iv fx],.pointer (some ⟨q,0,none⟩)] w (Qia (fn==i) w):=by
 obtain⟨W,hW⟩:=Ze (w.alloc (.cells #[iv fn,iv fx] FT));obtain⟨cb,hcb⟩:=Ze w.heap.size;have B1:=Zh (show Below w.heap.size w W by rw [←hW];exact Zb);have HCB:=Zh (show W.heap[cb]? = some (.cells #[iv fn,iv fx] FT (0,0)) by rw [←hW,←hcb];exact heap_alloc_new _ _);have q0:W.cell? ⟨q,0,none⟩=some (iv i):=(B1.o.cell (p:=⟨q,0,none⟩) hlt).trans hq;have HW:=Zh hW;clear hW hq hlt;go_enter Tryz.func111,Tryz.ntmps111;go_upto_region 1 with(fail)
 rw [show w.alloc (.cells #[iv fn,iv fx] FT)=W from HW.o]
 try rw [hcb]
 obtain⟨c0,c1⟩:=Qq HCB.o;go_wp2;go_ret;exact⟨rfl,B1.o⟩
theorem QTr (l:List Qra) (v:Value) (q:Nat) (i:Nat) (w:World) (h:Qqd w v l) (hq:w.cell? ⟨q,0,none⟩=some (iv i)) (hlt:q<w.heap.size):
  Calls Tryz.prog 110 #[v,.func (.func 111) #[] #[.pointer (some ⟨q,0,none⟩)]] w (IntQ (ownF l i) w):=by
 obtain⟨a,c,rfl,hn,-,-,hc⟩:=h.cell;have HC:=Zh hc;obtain⟨n,hl⟩:=Ze l.length;rw [hl] at hn ⊢;have HL:=Zh hl;have HQ:=Zh (And.intro hq hlt);clear hc h hl hq hlt;unfold maxLen at hn;go_enter Tryz.func110,Tryz.ntmps110;go_wp2;go_loopw [8] (fun y wr=>∃k:Nat,k≤n∧y=.int .i64 k∧Hid (Below w.heap.size w wr)∧Hid (∀j,j<k→Qxc l j≠(i:Int))) (fun y _=>n-(intOf y).toNat)
 case atStart=>exact⟨0,Nat.zero_le _,rfl,Below.refl _ _,fun j hj=>by omega⟩
 case round=>
  obtain⟨k,hk,rfl,HB,HA⟩:=hrel;by_cases hlt:k<n
  ·obtain⟨f,hf⟩:∃f,l[k]? = some f:=⟨_,List.getElem?_eq_getElem (by rw [HL.o];exact hlt)⟩;obtain⟨fb,fo,rfl,hfb,g0,g1⟩:=HC.o k f hf;have g0:=(HB.o.cell (p:=⟨fb,fo+k*2,none⟩) hfb).trans g0;have g1:=(HB.o.cell (p:=⟨fb,fo+k*2+1,none⟩) hfb).trans g1;obtain⟨fn,hfn⟩:=Ze f.node;have HNF:=Zh ((Qho hf).trans hfn);rw [hfn] at g0;have K:=Zh (Qpo fn f.var q i wr ((HB.o.cell (p:=⟨q,0,none⟩) HQ.o.2).trans HQ.o.1) (by have:=HB.o.size;have:=HQ.o.2;omega));clear hf hfn;by_cases e:fn=(i:Int)
   ·have t1:(fn==(i:Int))=true:=by simpa using e
    have HE:=Zh (show ownF l i=(k:Int) from QGq (by rw [HL.o];exact hlt) (HNF.o.trans e) HA.o);rw [t1] at K;clear e t1;go_wp2_with fail;refine K.o.mono ?_;rintro e w' ⟨rfl,b⟩;have HB2:=Zh (HB.o.trans (b.mono HB.o.size));clear b g0 g1;go_wp2;go_ret;exact⟨Qob HE.o.symm,HB2.o⟩
   ·have t1:(fn==(i:Int))=false:=by simpa using e
    have HA2:=Zh (show ∀j,j<k+1→Qxc l j≠(i:Int) from fun j hj=>by
     rcases Nat.lt_or_eq_of_le (Nat.le_of_lt_succ hj) with h|h
     ·exact HA.o j h
     ·subst h;rw [HNF.o];exact e)
    rw [t1] at K;clear e t1;go_wp2_with fail;refine K.o.mono ?_;rintro e w' ⟨rfl,b⟩;have HB2:=Zh (HB.o.trans (b.mono HB.o.size));clear b g0 g1;go_wp2;go_roundw
    case rel=>exact⟨k+1,by omega,by go_num,HB2,HA2⟩
    case measure=>simp [intOf];omega
  ·have HE:=Zh (show ownF l i = -1 from QHq fun j hj=>HA.o j (by rw [HL.o] at hj;omega));go_wp2;go_ret;exact⟨Qob HE.o.symm,HB.o⟩
end
section
variable [Base]
theorem QAp {m:Nat} {s t:QSet} (hs:Ok m s) (ht:Ok m t):QIa (· ||| ·) s t=(orS s t,0):=by
 obtain⟨r,h1,h2,h3⟩:=or_ok hs ht;obtain⟨k1,k2⟩:=QCf hs ht;rw [h1,h2.ext k1 fun b=>by rw [h3,k2]]
def appB (t:Qw) (s:QSet) (k b:Nat):Bool:=((QE s.words b&&!QE t.kill.words b)||QE t.gen.words b)||(t.cops.take k).any fun c=>decide (c.2=(b:Int))&&QE s.words c.1.toNat
def appS (t:Qw) (m:Nat) (s:QSet) (k:Nat):QSet:=mkS m (appB t s k)
theorem QIf (t:Qw) {m:Nat} (h:m≤256) (s:QSet) (k:Nat):Ok m (appS t m s k):=QIb _ h
theorem QZs {m:Nat} {t:Qw} {s d:QSet} (ht:OkT m t) (hd:Ok m d) (hb:∀b:Nat,QE d.words b=(QE s.words b&&!QE t.kill.words b)):orS d t.gen=appS t m s 0:=by
 obtain⟨k1,k2⟩:=QCf hd ht.gen;refine k1.ext (QIb _ hd.le) fun b=>?_
 unfold appS;rw [Qpb _ hd.le,k2];unfold appB;rw [List.take_zero,List.any_nil,Bool.or_false,←hb];by_cases h:b<m
 ·simp [h]
 ·simp [h,hd.tail (Nat.le_of_not_lt h),ht.gen.tail (Nat.le_of_not_lt h)]
theorem Qat {m:Nat} {t:Qw} {s:QSet} {k a b:Nat} (h:m≤256) (hc:t.cops[k]? = some ((a:Int),(b:Int))) (hb:b<m):appS t m s (k+1)=if QE s.words a=true then putS (appS t m s k) b else appS t m s k:=by
 have e:∀y,appB t s (k+1) y=(appB t s k y||(decide ((b:Int)=(y:Int))&&QE s.words a)):=fun y=>by
  unfold appB;rw [List.take_add_one,hc];simp [List.any_append,Bool.or_assoc]
 split
 ·rename_i ha;obtain⟨p1,p2⟩:=(QIf t h s k).put hb;refine(QIf t h s (k+1)).ext p1 fun y=>?_
  rw [p2];unfold appS;rw [Qpb _ h,Qpb _ h,e,ha,Bool.and_true];by_cases hy:y=b
  ·subst hy;simp [hb]
  ·have h1:decide ((b:Int)=(y:Int))=false:=by simp;omega
   simp [hy,h1]
 ·rename_i ha;have ha:QE s.words a=false:=by simpa using ha
  unfold appS;refine Qad h fun y _=>?_
  rw [e,ha,Bool.and_false,Bool.or_false]
theorem QRt {m:Nat} {t:Qw} {s:QSet} (ht:OkT m t) (hs:Ok m s):appS t m s t.cops.length=valS t m s:=by
 unfold appS valS;refine Qad hs.le fun b _=>?_
 rw [Qlt ht hs];unfold appB;rw [List.take_length]
end
end Go.Proofs.YtijekimobahgpaaGreatDoor
