/- A part of the proof. -/
import Derived.Test.YtijekimobahgpaaGreatDoorWb05
import Derived.Shelf.SlSortCmp.SmallK
import Derived.Shelf.Small.Bits
set_option linter.unusedVariables false
set_option linter.unusedSimpArgs false
set_option linter.unusedSectionVars false
set_option maxRecDepth 100000
set_option maxHeartbeats 16000000
namespace Go.Proofs.YtijekimobahgpaaGreatDoor
section
open Go.RowKit
variable [Base]
def rz (m:Nat):Array Value:=(List.replicate m (Value.slice none 0 0)).toArray
theorem Qus:(Tryz.prog.info? IT).map (fun i=>(i.zero,i.size,i.bytes))=some (some (Value.slice none 0 0),1,24):=by kernel_rfl
theorem Qak (k:Nat)(hk:k≤1000)(w:World):
  (Instr.makeSlice 32 (.int .i64 (k:Int)) (.int .i64 (k:Int))).run Tryz.prog w=.ok (.slice (some ⟨w.heap.size,0,none⟩) k k) (w.alloc (.cells (rz k) IT)):=by
 obtain⟨i,hi,hz,hs1,hs2⟩:=info_parts Qus;have h:=run_makeSlice (P:=Tryz.prog) w 32 IT i _ Tryz.underlying32 hi hz .i64 .i64 (k:Int) (k:Int) ZO (Int.le_refl _) (by rw[hs1];omega) (by rw[hs2];omega) ZO;rw[h,hs1];simp only[Int.toNat_natCast,Nat.mul_one]
 congr 3
 unfold rz madeCells;apply Array.ext
 ·simp[Value.cells]
 ·intro j h1 h2;simp[Value.cells,Nat.mod_one]
theorem QHi {b:Nat}{w:World}{v0 v1 v2:Value}{t:TypeId}(h:w.heap[b]? = some (.cells #[v0,v1,v2] t (0,0))):
  w.cell? ⟨b,0,none⟩=some v0∧w.cell? ⟨b,1,none⟩=some v1∧w.cell? ⟨b,2,none⟩=some v2:=by
 simp[World.cell?,h]
theorem QWt {w:World}{b:Nat}{a0 a1 a2:Value}{t:TypeId}{fr:Nat×Nat}(h:w.heap[b]? = some (.cells #[a0,a1,a2] t fr))(x0 x1 x2:Value):
  (((w.setCell ⟨b,0,none⟩ x0).setCell ⟨b,1,none⟩ x1).setCell ⟨b,2,none⟩ x2).heap[b]? = some (.cells #[x0,x1,x2] t fr):=by
 simp[World.setCell,Array.getElem?_modify,h]
def Qit (p:List Qo)(w:World)(e:Ending)(w':World):Prop:=∃nv sv pv,e=.returned (.tuple #[.agg #[nv,sv,pv],iv (QFa p)])∧QJi w' nv (QR p)∧Qoa Qqc w' sv (Qkc p)∧Qoa Qqc w' pv (Qmc p)∧Below w.heap.size w w'
theorem new3 (w:World)(a b c:Obj):(((w.alloc a).alloc b).alloc c).heap[w.heap.size]? = some a∧(((w.alloc a).alloc b).alloc c).heap[w.heap.size+1]? = some b∧(((w.alloc a).alloc b).alloc c).heap[w.heap.size+1+1]? = some c∧(((w.alloc a).alloc b).alloc c).heap.size=w.heap.size+1+1+1∧Below w.heap.size w (((w.alloc a).alloc b).alloc c):=by
 refine⟨Qfa _ (Qfa _ (heap_alloc_new w a)),Qfa _ ?_,?_,by simp,((Zb).alloc ZS _).alloc (by simp;omega) _⟩
 ·have:=heap_alloc_new (w.alloc a) b
  rwa [World.size_alloc] at this
 ·have:=heap_alloc_new ((w.alloc a).alloc b) c
  rwa [World.size_alloc,World.size_alloc] at this
structure QBh (z bt sb pb mb m:Nat)(nv:Value)(w w':World):Prop where
 bl:w'.heap[bt]? = some (.cells #[nv,.slice (some ⟨sb,0,none⟩) m m,.slice (some ⟨pb,0,none⟩) m m,.map (some mb)] BT (0,0))
 sl:w'.heap[sb]? = some (.cells (rz m) IT (0,0))
 pl:w'.heap[pb]? = some (.cells (rz m) IT (0,0))
 ml:NumM w' mb 0 []
 zs:z≤bt∧z≤sb∧z≤pb∧z≤mb
 ne:sb≠pb
 below:Below z w w'
theorem QBh.mk3 {z bt sb pb mb m:Nat}{nv:Value}{w V:World}(hs:V.heap[sb]? = some (.cells (rz m) IT (0,0)))(hp:V.heap[pb]? = some (.cells (rz m) IT (0,0)))(hm:V.heap[mb]? = some (.map #[] 0))(hz:z≤sb∧z≤pb∧z≤mb)(hne:sb≠pb)(hb:Below z w V)(hbt:V.heap.size=bt):
  QBh z bt sb pb mb m nv w (V.alloc (.cells #[nv,.slice (some ⟨sb,0,none⟩) m m,.slice (some ⟨pb,0,none⟩) m m,.map (some mb)] BT)):=by
 subst hbt;have hlt:=Qb hs;refine⟨heap_alloc_new _ _,Qfa _ hs,Qfa _ hp,?_,⟨by omega,hz.1,hz.2.1,hz.2.2⟩,hne,hb.alloc ZO _⟩;obtain⟨th,h⟩:∃th,MapG QDp Qwo V mb 0 (numN []) th:=by
  refine⟨fun _=>false,.map [],⟨#[],0,hm,?_⟩,fun k _ l _=>⟨?_,rfl⟩⟩
  ·have:=(World.ownsMap_made V Tryz.prog NT Qwo.R);obtain⟨es,c,h1,h2⟩:=this;rw[heap_alloc_new] at h1;injection h1 with h1
   injection h1 with h1 h3
   subst h1 h3;exact h2
  ·rw[Qds];rfl
 exact⟨th,h.block (Below.heap_alloc _ _ _ (Qb hm))⟩
theorem Qvk {p:List Qo}(hck:QFa p=0){n:Qx}(h:n∈QB p 0):fitN n:=by
 have hfew:=QUc (Qzb hck).valid;obtain⟨i,f,hf,h⟩:=QLb.1 h;have hi:i<p.length:=(List.getElem?_eq_some_iff.1 hf).1;have hff:=hfew.2 f (List.mem_of_getElem? hf);rcases h with rfl|rfl|⟨k,b,j,s,hb,hs,h⟩
 ·exact⟨by unfold fitI;dsimp only;omega,by unfold fitI;dsimp only;omega,by unfold fitI;dsimp only;omega,by unfold fitI;dsimp only;omega⟩
 ·exact⟨by unfold fitI;dsimp only;omega,by unfold fitI;dsimp only;omega,by unfold fitI;dsimp only;omega,by unfold fitI;dsimp only;omega⟩
 ·have hk:k<f.blocks.length:=(List.getElem?_eq_some_iff.1 hb).1;have hj:j<b.stmts.length:=(List.getElem?_eq_some_iff.1 hs).1;have hb32:=hff.2 b (List.mem_of_getElem? hb);rcases h with rfl|⟨-,rfl⟩
  ·exact⟨by unfold fitI;dsimp only;omega,by unfold fitI;dsimp only;omega,by unfold fitI;dsimp only;omega,by unfold fitI;dsimp only;omega⟩
  ·exact⟨by unfold fitI;dsimp only;omega,by unfold fitI;dsimp only;omega,by unfold fitI;dsimp only;omega,by unfold fitI;dsimp only;omega⟩
theorem Qzq (z:Nat)(w:World){m k:Nat}(hk:k=m):QRd z w (List.replicate m (Value.slice none 0 0)++List.replicate m (Value.slice none 0 0)) (List.replicate k []++List.replicate k []):=by
 subst hk;have hv:∀(i:Nat) (v:Value),(List.replicate k (Value.slice none 0 0)++List.replicate k (Value.slice none 0 0))[i]? = some v→v=.slice none 0 0:=fun i v h=>by
  have:=List.mem_of_getElem? h;simp at this;exact this.2
 refine⟨by simp,fun i v r h1 h2=>?_,fun i j v u b _ h1 h2 h3=>?_⟩
 ·obtain rfl:=hv i v h1;have:=List.mem_of_getElem? h2;simp at this;obtain rfl:r=[]:=this.2;simp[World.ownsRow]
 ·obtain rfl:=hv i v h1;simp[Value.ownBlock] at h3
theorem Qrr {B:Nat}{w:World}(kw:KwIn B w)(hB:B≤w.heap.size)(p:List Qo)(v:Value)(h:QAa w v p)(hf:∀f∈p,∀b∈f.blocks,∀s∈b.stmts,FitS s):
  Calls Tryz.prog 44 #[.agg #[v]] w (Qit p w):=by
 obtain⟨z,hz⟩:=Ze w.heap.size;have hbz:Base.b≤z:=by have:=kw.bs;omega
 have HV:=Zh (fun (x:World) (b:Below z w x)=>QYh (kw.keep fun k hk=>b.block k ZO) (by have:=b.size;omega) p v (h.keep (Qf.below (hz▸b)) (Qf.below (hz▸b)) (Qf.below (hz▸b)) (Qf.below (hz▸b))) hf);have HLI:=Zh (fun (x:World) (b:Below z w x)=>Qyj (kw.keep fun k hk=>b.block k ZO) (by have:=b.size;omega) p v (h.keep (Qf.below (hz▸b)) (Qf.below (hz▸b)) (Qf.below (hz▸b)) (Qf.below (hz▸b))) hf);have HPP:=Zh h;have HSORT:=Zh Qqt;obtain⟨a,c,rfl,hn,hc⟩:=h.cell;have HC:=Zh hc;obtain⟨n,hl⟩:=Ze p.length;rw[hl] at hn HV HLI HPP ⊢;have HL:=Zh hl;obtain⟨W,hW⟩:=Ze ((w.alloc (.cells #[.slice a n c] 25)).alloc (.cells #[.slice none 0 0,.slice none 0 0,.slice none 0 0] 46));have HPB:=Zh (show W.heap[z]? = some (.cells #[.slice a n c] 25 (0,0)) by rw[←hW,←hz];exact Qfa _ (heap_alloc_new _ _));have HRB:=Zh (show W.heap[z+1]? = some (.cells #[.slice none 0 0,.slice none 0 0,.slice none 0 0] 46 (0,0)) by rw[←hW,←hz];have:=heap_alloc_new (w.alloc (.cells #[.slice a n c] 25)) (.cells #[.slice none 0 0,.slice none 0 0,.slice none 0 0] 46);rwa [World.size_alloc] at this);have BW:=Zh (show Below z w W by rw[←hW,←hz];exact(Zb).alloc ZS _);have HWW:=Zh hW;have HZ:=Zh hz;obtain⟨er,her⟩:=Ze (QFa p);rw[her] at HV;have HER:=Zh her;clear h hc hW kw hf hl her;have x0:=(Qd HPB.o).1 0;simp at x0;go_enter Tryz.func44,Tryz.ntmps44;go_upto_region 1 with(fail)
 rw[show(w.alloc (.cells #[.slice a n c] 25)).alloc (.cells #[.slice none 0 0,.slice none 0 0,.slice none 0 0] 46)=W from HWW.o]
 try rw[hz]
 go_wp2_with fail;refine(HV.o W BW.o).mono ?_;rintro e w1 ⟨na,nb,nc,nd,rfl,b1⟩;have b2:=b1.trans (((Below.refl w1.heap.size w1).alloc (Nat.le_refl _) (.cells #[iv na,iv nb,iv nc,iv nd] 108)).mono b1.size);obtain⟨w2,hw2⟩:=Ze (w1.alloc (.cells #[iv na,iv nb,iv nc,iv nd] 108));have HW2:=Zh hw2;rw[hw2] at b2;have HP2:=Zh (Qc HPB.o b2 (Qb HPB.o));have HR2:=Zh (Qc HRB.o b2 (Qb HRB.o));have zW:z≤W.heap.size:=by have:=BW.o.size;omega
 have HB2:=Zh (BW.o.trans (b2.mono zW));have zw2:z≤w2.heap.size:=by have:=HB2.o.size;omega
 clear b1 b2 hw2 x0 zW;by_cases he:er=0;rotate_left
 ·have hne:(er != 0)=true:=by simpa using he
  have HNP:=Zh (show QR p=[] by unfold QR;rw[HER.o,if_neg he]);have HSP:=Zh (show Qkc p=[] by unfold Qkc;rw[HNP.o];rfl);have HPD:=Zh (show Qmc p=[] by unfold Qmc;rw[HNP.o];rfl);clear he;obtain⟨r0,r1,r2⟩:=QHi HR2.o;have fr:=(Qa HR2.o).2;go_upto_region 2 with(fail)
  rw[show w1.alloc (.cells #[iv na,iv nb,iv nc,iv nd] 108)=w2 from HW2.o];go_wp2;obtain⟨z0,z1,z2⟩:=QHi (QWt HR2.o (.slice none 0 0) (.slice none 0 0) (.slice none 0 0));refine bodyPost_ret (v:=.tuple #[.agg #[.slice none 0 0,.slice none 0 0,.slice none 0 0],iv er]) (by simp[results,Tryz.results44,go_sem,z0,z1,z2]) rfl ⟨_,_,_,by rw[HER.o],?_,?_,?_,?_⟩
  ·rw[HNP.o];exact Qg.nil
  ·rw[HSP.o];exact Qoa.nil
  ·rw[HPD.o];exact Qoa.nil
  ·rw[HZ.o];exact(((HB2.o).setCell (by show z≤z+1;omega) _).setCell (by show z≤z+1;omega) _).setCell (by show z≤z+1;omega) _
 have hne:(er != 0)=false:=by simpa using he
 have hck0:=Zh (show QFa p=0 by rw[HER.o,he]);have HNP:=Zh (show QR p=QB p 0 from Qne hck0.o);have hle:(QB p 0).length≤256:=by rw[←HNP.o];exact Qme
 have hpos:1≤(QB p 0).length:=by rw[←HNP.o];exact Quk hck0.o
 clear he;go_upto_region 4 with(fail)
 rw[show w1.alloc (.cells #[iv na,iv nb,iv nc,iv nd] 108)=w2 from HW2.o];have x0:=(Qd HP2.o).1 0;simp at x0;go_wp2_with fail;refine(HLI.o w2 HB2.o).mono ?_;rintro e w3 ⟨lv,rfl,ho,b3⟩;obtain⟨la,lc,rfl,hl63,hl64,hl65,-⟩:=ho.at_.cell;rw[HNP.o] at ho hl63 ⊢;have HNA:=Zh ho.at_;obtain⟨N,hN⟩:=Ze (QB p 0);have HNN:=Zh hN;rw[hN] at ho HNA hle hpos ⊢;obtain⟨m,hm⟩:=Ze N.length;have HM:=Zh hm;rw[hm] at HNA hle hpos ⊢;have HP3:=Zh (Qc HP2.o b3 (Qb HP2.o));have HR3:=Zh (Qc HR2.o b3 (Qb HR2.o));have HB3:=Zh (HB2.o.trans (b3.mono zw2));have zw3:z≤w3.heap.size:=by have:=b3.size;omega
 clear b3 ho x0 hN hm hl63 hl64 hl65;have hmk:=fun (x:World)=>Qak m ZO x
 have hmm:=@run_makeMap Tryz.prog;go_upto_region 5 with(fail)
 go_cut [7] from 24 to 34 (fun s7 wx=>∃bt sb pb mb:Nat,s7=.pointer (some ⟨bt,0,none⟩)∧Hid (QBh w3.heap.size bt sb pb mb m (.slice la m lc) w3 wx))
 case first=>
  refine QK (S:=fun _=>True) (st:=11) ZK ?_;refine Zp 0 ?z0 trivial ?rz0 ?sz0
  case rz0=>intro w hS;go_simp;rfl
  case sz0=>
  refine Zp 1 ?z1 trivial ?rz1 ?sz1
  case rz1=>intro w hS;go_simp;rfl
  case sz1=>
  refine Zp 2 ?z2 trivial ?rz2 ?sz2
  case rz2=>intro w hS;go_simp;rfl
  case sz2=>
  refine Zp 4 ?z4 trivial ?rz4 ?sz4
  case rz4=>intro w hS;go_simp;rfl
  case sz4=>
  refine Zp 5 ?z5 trivial ?rz5 ?sz5
  case rz5=>intro w hS;go_simp;rfl
  case sz5=>
  refine Qh (rs:=[3,6,8]) ZK ZD ?_;intro i hi;have hi2:i=3∨i=6∨i=8:=by simpa using hi
  clear hi;rcases hi2 with rfl|rfl|rfl
  ·refine Ql rfl ?_;go_wp2;refine⟨fun _=>trivial,?_⟩;refine Qh (rs:=[6,8]) ZK ZD ?_;intro i hi;have hi2:i=6∨i=8:=by simpa using hi
   clear hi;rcases hi2 with rfl|rfl
   ·refine Ql rfl ?_;go_wp2;refine⟨fun _=>trivial,?_⟩;refine Zp 7 ?z7_0 trivial ?rz7_0 ?sz7_0
    case rz7_0=>intro w hS;go_simp;rfl
    case sz7_0=>
    refine Zt 8 ?_;refine Ql rfl ?_;go_wp2;refine⟨fun _=>trivial,?_⟩;refine Zp 9 ?z9_1 trivial ?rz9_1 ?sz9_1
    case rz9_1=>intro w hS;go_simp;rfl
    case sz9_1=>
    obtain⟨q1,q2,q3,q4,q5⟩:=new3 (w3.drewN 1) (.cells (rz m) IT) (.cells (rz m) IT) (.map #[] 0);have FR:=Zh (QBh.mk3 (z:=w3.heap.size) (m:=m) (nv:=.slice la m lc) (w:=w3.drewN 1) q1 q2 q3 (by show w3.heap.size≤w3.heap.size∧w3.heap.size≤(w3.heap.size+1)∧w3.heap.size≤(w3.heap.size+1+1);omega) (by show w3.heap.size≠(w3.heap.size+1);omega) q5 q4);clear q1 q2 q3 q4 q5;refine Zt 10 ?_;refine Ql rfl ?_;go_wp2;refine⟨fun _=>trivial,?_⟩;refine Zt 11 ?_;refine Ql rfl ?_;go_wp2;refine⟨fun h=>absurd rfl h,?_⟩;refine Qu ZK ?_ _;go_wp2;go_meet
    case rel=>exact⟨_,w3.heap.size,(w3.heap.size+1),(w3.heap.size+1+1),rfl,⟨FR.o.bl,FR.o.sl,FR.o.pl,FR.o.ml,FR.o.zs,FR.o.ne,⟨FR.o.below.os,FR.o.below.tape,FR.o.below.output,FR.o.below.size,FR.o.below.block⟩⟩⟩
   ·refine Ql rfl ?_;go_wp2;refine⟨fun _=>trivial,?_⟩;refine Zt 6 ?_;refine Ql rfl ?_;go_wp2;refine⟨fun _=>trivial,?_⟩;refine Zp 7 ?z7_2 trivial ?rz7_2 ?sz7_2
    case rz7_2=>intro w hS;go_simp;rfl
    case sz7_2=>
    refine Zp 9 ?z9_3 trivial ?rz9_3 ?sz9_3
    case rz9_3=>intro w hS;go_simp;rfl
    case sz9_3=>
    obtain⟨q1,q2,q3,q4,q5⟩:=new3 (w3.drewN 1) (.cells (rz m) IT) (.map #[] 0) (.cells (rz m) IT);have FR:=Zh (QBh.mk3 (z:=w3.heap.size) (m:=m) (nv:=.slice la m lc) (w:=w3.drewN 1) q1 q3 q2 (by show w3.heap.size≤w3.heap.size∧w3.heap.size≤(w3.heap.size+1+1)∧w3.heap.size≤(w3.heap.size+1);omega) (by show w3.heap.size≠(w3.heap.size+1+1);omega) q5 q4);clear q1 q2 q3 q4 q5;refine Zt 10 ?_;refine Ql rfl ?_;go_wp2;refine⟨fun _=>trivial,?_⟩;refine Zt 11 ?_;refine Ql rfl ?_;go_wp2;refine⟨fun h=>absurd rfl h,?_⟩;refine Qu ZK ?_ _;go_wp2;go_meet
    case rel=>exact⟨_,w3.heap.size,(w3.heap.size+1+1),(w3.heap.size+1),rfl,⟨FR.o.bl,FR.o.sl,FR.o.pl,FR.o.ml,FR.o.zs,FR.o.ne,⟨FR.o.below.os,FR.o.below.tape,FR.o.below.output,FR.o.below.size,FR.o.below.block⟩⟩⟩
  ·refine Ql rfl ?_;go_wp2;refine⟨fun _=>trivial,?_⟩;refine Qh (rs:=[3,8]) ZK ZD ?_;intro i hi;have hi2:i=3∨i=8:=by simpa using hi
   clear hi;rcases hi2 with rfl|rfl
   ·refine Ql rfl ?_;go_wp2;refine⟨fun _=>trivial,?_⟩;refine Zp 7 ?z7_4 trivial ?rz7_4 ?sz7_4
    case rz7_4=>intro w hS;go_simp;rfl
    case sz7_4=>
    refine Zt 8 ?_;refine Ql rfl ?_;go_wp2;refine⟨fun _=>trivial,?_⟩;refine Zp 9 ?z9_5 trivial ?rz9_5 ?sz9_5
    case rz9_5=>intro w hS;go_simp;rfl
    case sz9_5=>
    obtain⟨q1,q2,q3,q4,q5⟩:=new3 (w3.drewN 1) (.cells (rz m) IT) (.cells (rz m) IT) (.map #[] 0);have FR:=Zh (QBh.mk3 (z:=w3.heap.size) (m:=m) (nv:=.slice la m lc) (w:=w3.drewN 1) q2 q1 q3 (by show w3.heap.size≤(w3.heap.size+1)∧w3.heap.size≤w3.heap.size∧w3.heap.size≤(w3.heap.size+1+1);omega) (by show(w3.heap.size+1)≠w3.heap.size;omega) q5 q4);clear q1 q2 q3 q4 q5;refine Zt 10 ?_;refine Ql rfl ?_;go_wp2;refine⟨fun _=>trivial,?_⟩;refine Zt 11 ?_;refine Ql rfl ?_;go_wp2;refine⟨fun h=>absurd rfl h,?_⟩;refine Qu ZK ?_ _;go_wp2;go_meet
    case rel=>exact⟨_,(w3.heap.size+1),w3.heap.size,(w3.heap.size+1+1),rfl,⟨FR.o.bl,FR.o.sl,FR.o.pl,FR.o.ml,FR.o.zs,FR.o.ne,⟨FR.o.below.os,FR.o.below.tape,FR.o.below.output,FR.o.below.size,FR.o.below.block⟩⟩⟩
   ·refine Ql rfl ?_;go_wp2;refine⟨fun _=>trivial,?_⟩;refine Zt 3 ?_;refine Ql rfl ?_;go_wp2;refine⟨fun _=>trivial,?_⟩;refine Zp 7 ?z7_6 trivial ?rz7_6 ?sz7_6
    case rz7_6=>intro w hS;go_simp;rfl
    case sz7_6=>
    refine Zp 9 ?z9_7 trivial ?rz9_7 ?sz9_7
    case rz9_7=>intro w hS;go_simp;rfl
    case sz9_7=>
    obtain⟨q1,q2,q3,q4,q5⟩:=new3 (w3.drewN 1) (.cells (rz m) IT) (.map #[] 0) (.cells (rz m) IT);have FR:=Zh (QBh.mk3 (z:=w3.heap.size) (m:=m) (nv:=.slice la m lc) (w:=w3.drewN 1) q3 q1 q2 (by show w3.heap.size≤(w3.heap.size+1+1)∧w3.heap.size≤w3.heap.size∧w3.heap.size≤(w3.heap.size+1);omega) (by show(w3.heap.size+1+1)≠w3.heap.size;omega) q5 q4);clear q1 q2 q3 q4 q5;refine Zt 10 ?_;refine Ql rfl ?_;go_wp2;refine⟨fun _=>trivial,?_⟩;refine Zt 11 ?_;refine Ql rfl ?_;go_wp2;refine⟨fun h=>absurd rfl h,?_⟩;refine Qu ZK ?_ _;go_wp2;go_meet
    case rel=>exact⟨_,(w3.heap.size+1+1),w3.heap.size,(w3.heap.size+1),rfl,⟨FR.o.bl,FR.o.sl,FR.o.pl,FR.o.ml,FR.o.zs,FR.o.ne,⟨FR.o.below.os,FR.o.below.tape,FR.o.below.output,FR.o.below.size,FR.o.below.block⟩⟩⟩
  ·refine Ql rfl ?_;go_wp2;refine⟨fun _=>trivial,?_⟩;refine Qh (rs:=[3,6]) ZK ZD ?_;intro i hi;have hi2:i=3∨i=6:=by simpa using hi
   clear hi;rcases hi2 with rfl|rfl
   ·refine Ql rfl ?_;go_wp2;refine⟨fun _=>trivial,?_⟩;refine Zt 6 ?_;refine Ql rfl ?_;go_wp2;refine⟨fun _=>trivial,?_⟩;refine Zp 7 ?z7_8 trivial ?rz7_8 ?sz7_8
    case rz7_8=>intro w hS;go_simp;rfl
    case sz7_8=>
    refine Zp 9 ?z9_9 trivial ?rz9_9 ?sz9_9
    case rz9_9=>intro w hS;go_simp;rfl
    case sz9_9=>
    obtain⟨q1,q2,q3,q4,q5⟩:=new3 (w3.drewN 1) (.map #[] 0) (.cells (rz m) IT) (.cells (rz m) IT);have FR:=Zh (QBh.mk3 (z:=w3.heap.size) (m:=m) (nv:=.slice la m lc) (w:=w3.drewN 1) q2 q3 q1 (by show w3.heap.size≤(w3.heap.size+1)∧w3.heap.size≤(w3.heap.size+1+1)∧w3.heap.size≤w3.heap.size;omega) (by show(w3.heap.size+1)≠(w3.heap.size+1+1);omega) q5 q4);clear q1 q2 q3 q4 q5;refine Zt 10 ?_;refine Ql rfl ?_;go_wp2;refine⟨fun _=>trivial,?_⟩;refine Zt 11 ?_;refine Ql rfl ?_;go_wp2;refine⟨fun h=>absurd rfl h,?_⟩;refine Qu ZK ?_ _;go_wp2;go_meet
    case rel=>exact⟨_,(w3.heap.size+1),(w3.heap.size+1+1),w3.heap.size,rfl,⟨FR.o.bl,FR.o.sl,FR.o.pl,FR.o.ml,FR.o.zs,FR.o.ne,⟨FR.o.below.os,FR.o.below.tape,FR.o.below.output,FR.o.below.size,FR.o.below.block⟩⟩⟩
   ·refine Ql rfl ?_;go_wp2;refine⟨fun _=>trivial,?_⟩;refine Zt 3 ?_;refine Ql rfl ?_;go_wp2;refine⟨fun _=>trivial,?_⟩;refine Zp 7 ?z7_10 trivial ?rz7_10 ?sz7_10
    case rz7_10=>intro w hS;go_simp;rfl
    case sz7_10=>
    refine Zp 9 ?z9_11 trivial ?rz9_11 ?sz9_11
    case rz9_11=>intro w hS;go_simp;rfl
    case sz9_11=>
    obtain⟨q1,q2,q3,q4,q5⟩:=new3 (w3.drewN 1) (.map #[] 0) (.cells (rz m) IT) (.cells (rz m) IT);have FR:=Zh (QBh.mk3 (z:=w3.heap.size) (m:=m) (nv:=.slice la m lc) (w:=w3.drewN 1) q3 q2 q1 (by show w3.heap.size≤(w3.heap.size+1+1)∧w3.heap.size≤(w3.heap.size+1)∧w3.heap.size≤w3.heap.size;omega) (by show(w3.heap.size+1+1)≠(w3.heap.size+1);omega) q5 q4);clear q1 q2 q3 q4 q5;refine Zt 10 ?_;refine Ql rfl ?_;go_wp2;refine⟨fun _=>trivial,?_⟩;refine Zt 11 ?_;refine Ql rfl ?_;go_wp2;refine⟨fun h=>absurd rfl h,?_⟩;refine Qu ZK ?_ _;go_wp2;go_meet
    case rel=>exact⟨_,(w3.heap.size+1+1),(w3.heap.size+1),w3.heap.size,rfl,⟨FR.o.bl,FR.o.sl,FR.o.pl,FR.o.ml,FR.o.zs,FR.o.ne,⟨FR.o.below.os,FR.o.below.tape,FR.o.below.output,FR.o.below.size,FR.o.below.block⟩⟩⟩
 case rest=>
  clear hmk hmm;obtain⟨bt,sb,pb,mb,rfl,HFR⟩:=hcut;obtain⟨q3,hq3⟩:=Ze w3.heap.size;have HQ3:=Zh hq3;rw[hq3] at HFR zw3;have hbq:Base.b≤q3:=by omega
  have HP3w:=Zh (Qc HP3.o (hq3▸HFR.o.below) (Qb HP3.o));have hzq:z+1<q3:=by have:=Qb HR3.o;omega
  obtain⟨nca,ncc,hnce,-,-,-,hncell⟩:=HNA.o.cell;obtain rfl:la=nca:=by injection hnce
  have HCE:=Zh hncell;clear hq3 hncell hnce;go_wp2;go_loopw [37] (fun y wr=>∃k:Nat,k≤m∧y=.int .i64 k∧Hid (NumM wr mb k (N.take k))∧Hid (ButB mb wc wr)) (fun y _=>m-(intOf y).toNat)
  case atStart=>exact⟨0,Nat.zero_le _,rfl,by unfold Hid;simpa using HFR.o.ml,ButB.refl _ _⟩
  case round=>
   obtain⟨k,hk,rfl,HMk,HBk⟩:=hrel;have HB3k:=Zh (show Below q3 w3 wr from⟨HBk.o.os.trans HFR.o.below.os,HBk.o.tape.trans HFR.o.below.tape,HBk.o.output.trans HFR.o.below.output,Nat.le_trans HFR.o.below.size HBk.o.size,fun x hx=>(HBk.o.block x (by have:=HFR.o.below.size;have:=HQ3.o;omega) (by have:=HFR.o.zs;omega)).trans (HFR.o.below.block x hx)⟩);obtain⟨es0,c00,hmm0⟩:=HFR.o.ml.isMap;have hbtm:bt≠mb:=by rintro rfl;rw[HFR.o.bl] at hmm0;cases hmm0
   have hsbm:sb≠mb:=by rintro rfl;rw[HFR.o.sl] at hmm0;cases hmm0
   have hpbm:pb≠mb:=by rintro rfl;rw[HFR.o.pl] at hmm0;cases hmm0
   have HBTk:=Zh ((HBk.o.block bt (Qb HFR.o.bl) hbtm).trans HFR.o.bl);have HSBk:=Zh ((HBk.o.block sb (Qb HFR.o.sl) hsbm).trans HFR.o.sl);have HPBk:=Zh ((HBk.o.block pb (Qb HFR.o.pl) hpbm).trans HFR.o.pl);clear hmm0;by_cases hlt:k<m
   ·obtain⟨y,hy⟩:∃y,N[k]? = some y:=⟨_,List.getElem?_eq_getElem (by rw[HM.o];exact hlt)⟩;obtain⟨b4,o4,rfl,hb4,c0,c1,c2,c3⟩:=HCE.o k y hy;have hb4:b4<q3:=by have:=HQ3.o;omega
    have c0:=(HB3k.o.cell (p:=⟨b4,o4+k*4,none⟩) hb4).trans c0;have c1:=(HB3k.o.cell (p:=⟨b4,o4+k*4+1,none⟩) hb4).trans c1;have c2:=(HB3k.o.cell (p:=⟨b4,o4+k*4+2,none⟩) hb4).trans c2;have c3:=(HB3k.o.cell (p:=⟨b4,o4+k*4+3,none⟩) hb4).trans c3;have hfy:fitN y:=Qvk hck0.o (by rw[HNN.o];exact List.mem_of_getElem? hy);have HSN:=Zh (fun q=>QJq hy (by rw[←HNN.o];exact QIe p 0) q);obtain⟨y1,y2,y3,y4⟩:=y;simp only at c0 c1 c2 c3;obtain⟨U,hU⟩:=Ze (wr.alloc (.cells #[iv y1,iv y2,iv y3,iv y4] NT));have BU:=(Below.refl wr.heap.size wr).alloc (Nat.le_refl _) (.cells #[iv y1,iv y2,iv y3,iv y4] NT);rw[hU] at BU;have HX:=Zh (show U.heap[wr.heap.size]? = some (.cells #[iv y1,iv y2,iv y3,iv y4] NT (0,0)) by rw[←hU];exact heap_alloc_new _ _);have HBT:=Zh (Qc HBTk.o BU (Qb HBTk.o));have HBU:=Zh (HBk.o.below BU);obtain⟨th,hth⟩:=HMk.o.below BU;have HUU:=Zh hU;obtain⟨w5,hrun,hM5,hg5⟩:=(hth.block (w':=U.drew) rfl).store Qkp (by unfold maxLen;omega) (k:=(⟨y1,y2,y3,y4⟩:Qx)) hfy (k:Int);have HM5:=Zh (show NumM w5 mb (k+1) (N.take (k+1)) from⟨_,hM5.congr (fun q=>(HSN.o q).symm) (fun _=>rfl)⟩);have HB5:=Zh (show ButB mb wc w5 from HBU.o.trans ⟨hg5.os,hg5.tape,hg5.output,hg5.size,fun x hx hne=>hg5.block x hx (by intro e;injection e with e;exact hne e)⟩);have hrun5:(Instr.mapUpdate 156 (.map (some mb)) (.agg #[iv y1,iv y2,iv y3,iv y4]) (.int .i64 (k:Int))).run Tryz.prog U.drew=.ok () w5:=hrun;obtain⟨xb,hxb⟩:=Ze wr.heap.size;rw[hxb] at HX;clear hy hU BU hth hrun hM5 hg5 hfy HSN;go_upto_region 9 with(fail)
    rw[show wr.alloc (.cells #[iv y1,iv y2,iv y3,iv y4] NT)=U from HUU.o]
    try rw[hxb]
    clear hxb c0 c1 c2 c3;obtain⟨d0,d1,d2,d3⟩:=Qt HX.o;obtain⟨x0,x1,x2,x3⟩:=Qt HBT.o;go_region;clear hrun5;go_wp2;go_roundw
    case rel=>exact⟨k+1,by omega,by go_num,HM5,HB5⟩
    case measure=>simp[intOf];omega
   ·have HBL:=Zh (show BldE q3 bt sb pb mb (.slice la m lc) N [] wr by
     refine⟨_,_,⟨HFR.o.zs,by rw[HM.o];exact HBTk.o,?_,HFR.o.ne,List.replicate m (.slice none 0 0),List.replicate m (.slice none 0 0),HSBk.o,HPBk.o,by rw[HM.o];simp,by rw[HM.o];simp,by simp,?_⟩,GrE.nil N.length⟩
     ·have h9:=HMk.o;rw[List.take_of_length_le (by rw[HM.o];omega),show k=N.length by rw[HM.o];omega] at h9;exact h9
     ·exact Qzq q3 wr (by rw[HM.o]))
    have HK0:=Zh HB3k.o;clear HBTk HSBk HPBk HMk HBk HB3k;obtain⟨wd,rfl⟩:∃x:World,x=wr:=⟨_,rfl⟩;have zwd:q3≤wd.heap.size:=by have:=HK0.o.size;have:=HQ3.o;omega
    go_wp2;clear hlt;go_loopw [51] (fun y wr=>∃k:Nat,k≤m∧y=.int .i64 k∧Hid (BldE q3 bt sb pb mb (.slice la m lc) N ((Qva p (N.take k)).map (numE N)) wr)∧Hid (Qbb q3 wd wr)) (fun y _=>m-(intOf y).toNat)
    case atStart=>exact⟨0,Nat.zero_le _,rfl,by unfold Hid;simpa [Qva] using HBL.o,Qbb.refl _ _ zwd⟩
    case round=>
     obtain⟨j,hj,rfl,HBj,HKj⟩:=hrel;have HB3j:=Zh (HK0.o.trans HKj.o.below);have zwx:q3≤wr.heap.size:=by have:=HB3j.o.size;have:=HQ3.o;omega
     by_cases hlt:j<m
     ·obtain⟨y,hy⟩:∃y,N[j]? = some y:=⟨_,List.getElem?_eq_getElem (by rw[HM.o];exact hlt)⟩;obtain⟨b4,o4,rfl,hb4,c0,c1,c2,c3⟩:=HCE.o j y hy;have hb4:b4<q3:=by have:=HQ3.o;omega
      have c0:=(HB3j.o.cell (p:=⟨b4,o4+j*4,none⟩) hb4).trans c0;have c1:=(HB3j.o.cell (p:=⟨b4,o4+j*4+1,none⟩) hb4).trans c1;have c2:=(HB3j.o.cell (p:=⟨b4,o4+j*4+2,none⟩) hb4).trans c2;have c3:=(HB3j.o.cell (p:=⟨b4,o4+j*4+3,none⟩) hb4).trans c3;have HSN:=Zh (show(Qva p (N.take (j+1))).map (numE N)=(Qva p (N.take j)).map (numE N)++(QU p y).map (numE N) by
       rw[List.take_add_one,hy];show(Qva p (N.take j++[y])).map (numE N)=_;rw[Que,List.map_append,QOe];simp[Qva])
      have HYM:=Zh (show y∈QB p 0 by rw[HNN.o];exact List.mem_of_getElem? hy);have HFY:=Zh (Qvk hck0.o HYM.o);obtain⟨y1,y2,y3,y4⟩:=y;simp only at c0 c1 c2 c3;obtain⟨U,hU⟩:=Ze (wr.alloc (.cells #[iv y1,iv y2,iv y3,iv y4] NT));have BU:=(Below.refl wr.heap.size wr).alloc (Nat.le_refl _) (.cells #[iv y1,iv y2,iv y3,iv y4] NT);rw[hU] at BU;have HX:=Zh (show U.heap[wr.heap.size]? = some (.cells #[iv y1,iv y2,iv y3,iv y4] NT (0,0)) by rw[←hU];exact heap_alloc_new _ _);have HBU:=Zh (HBj.o.below BU);have HKU:=Zh (HKj.o.trans (Qbb.of BU zwx));have HUU:=Zh hU;have HB3U:=Zh (HK0.o.trans HKU.o.below);have zU:q3≤U.heap.size:=Nat.le_trans zwx BU.size;obtain⟨xb,hxb⟩:=Ze wr.heap.size;rw[hxb] at HX;clear hy hU BU;go_upto_region 14 with(fail)
      rw[show wr.alloc (.cells #[iv y1,iv y2,iv y3,iv y4] NT)=U from HUU.o]
      try rw[hxb]
      clear hxb c0 c1 c2 c3;obtain⟨d0,d1,d2,d3⟩:=Qt HX.o;by_cases k1:y1=1
      ·subst k1;obtain⟨x,hx⟩:∃x:Nat,numT N ⟨3,y2,0,0⟩=x:=⟨_,rfl⟩;obtain⟨hh,hhh⟩:∃x:Nat,numT N ⟨1,y2,y3,y4⟩=x:=⟨_,rfl⟩;have HEE:=Zh (show QU p ⟨1,y2,y3,y4⟩=[(⟨1,y2,y3,y4⟩,⟨3,y2,0,0⟩)] from rfl);have hen:=QIj (Qzb hck0.o) HYM.o (x:=⟨1,y2,y3,y4⟩) (y:=⟨3,y2,0,0⟩) (by rw[HEE.o];simp);rw[HNN.o] at hen;have hxl:x<N.length:=hx▸(QEc hen.2).1;have hhl:hh<N.length:=hhh▸(QEc hen.1).1;have HEL:=Zh (show(QU p ⟨1,y2,y3,y4⟩).map (numE N)=[(hh,x)] by rw[HEE.o];simp[numE,hx,hhh]);have HBD:=Zh (show BldE q3 bt sb pb mb _ N _ (U.drewN 1) from by
        obtain⟨S,P,h1,h2⟩:=HBU.o;exact⟨S,P,h1.keep fun _ _=>rfl,h2⟩)
       have hlkU:(Instr.lookup 156 (.map (some mb)) (.agg #[iv 1,iv y2,iv y3,iv y4]) false).run Tryz.prog (U.drewN 1)=.ok (.int .i64 (hh:Int)) (U.drewN 1):=by
        obtain⟨S,P,h1,-⟩:=HBD.o;have:=h1.mp.look (x:=⟨1,y2,y3,y4⟩) HFY.o;rw[QLc,hhh] at this;exact this
       have x3:U.cell? ⟨bt,3,none⟩=some (.map (some mb)):=by
        obtain⟨S,P,h1,-⟩:=HBU.o;exact(Qt h1.bl).2.2.2
       have KA:=Zh (Qfp HBD.o 3 y2 0 0 ⟨by unfold fitI;dsimp only;omega,HFY.o.2.1,by unfold fitI;dsimp only;omega,by unfold fitI;dsimp only;omega⟩);rw[show numN N ⟨3,y2,0,0⟩=(x:Int) by rw[QLc,hx]] at KA;have KE:=Zh (QWm hbq (by rw[HM.o];exact hle) HBD.o hh x hhl hxl);have KD:=Zh (show Qbb q3 U (U.drewN 1) from⟨Qp ((Below.refl _ _).mono zU) 1,fun _ _ _=>Qf.drewN⟩);clear hx hhh hen;go_upto_region 16 with(fail)
       refine Zr (fun w'=>w'.cell? ⟨bt,3,none⟩=some (.map (some mb))∧w'.cell? ⟨xb,0,none⟩=some (iv 1)∧w'.cell? ⟨xb,1,none⟩=some (iv y2)∧w'.cell? ⟨xb,2,none⟩=some (iv y3)∧w'.cell? ⟨xb,3,none⟩=some (iv y4)∧(Instr.lookup 156 (.map (some mb)) (.agg #[iv 1,iv y2,iv y3,iv y4]) false).run Tryz.prog w'=.ok (.int .i64 (hh:Int)) w') 11 (⟨x3,d0,d1,d2,d3,hlkU⟩) fun hS0=>?_
       refine Yd 0 59 ?_;refine Yc 1 60 [2,3,4,6] ?_;refine Yc 2 61 [3,4,6] ?_;refine Yc 3 62 [4,6] ?_;refine Yc 4 63 [6] ?_;refine Yc 5 64 [6] ?_;refine Yd 6 65 ?_;refine Yc 7 66 [10] ?_;refine Yc 8 67 [9,10] ?_;refine Yc 9 68 [10] ?_;refine QP 10 (some 69) 100 #[.pointer (some ⟨bt,0,none⟩),iv 3,iv y2,iv 0,iv 0] rfl ZK ZK ZK rfl ?_;refine(KA.o).mono ?_;rintro e z1 ⟨rfl,rfl⟩;refine⟨_,rfl,fun _=>hS0,?_⟩;refine QP 11 (some 70) 99 #[.pointer (some ⟨bt,0,none⟩),iv hh,iv x] rfl ZK ZK ZK rfl ?_;refine(KE.o).mono ?_;rintro e z1 ⟨rfl,hbE,kE⟩;refine⟨_,rfl,fun h=>absurd rfl h,?_⟩;refine Qu ZK ?_ _;generalize hA:Act.put _ _ _=A0;simp only[Qba,Qaa,Zu,Zv,Zw] at hA;subst hA;have HB7:=Zh (show BldE q3 bt sb pb mb _ N ((Qva p (N.take (j+1))).map (numE N)) z1 by rw[HSN.o,HEL.o];exact hbE);have HK7:=Zh (HKU.o.trans (KD.o.trans kE));clear hbE kE hS0 hlkU x3 d0 d1 d2 d3 KA KE;go_wp2;go_roundw
       case rel=>exact⟨j+1,by omega,by go_num,HB7,HK7⟩
       case measure=>simp[intOf];omega
      ·have t1:(y1==1)=false:=by simpa using k1
       by_cases k3:y1=3
       ·subst k3;obtain⟨i,k',j',f,b,st,e2,e3,e4,hf,hb,hs,-⟩:=Qti (show(⟨3,y2,y3,y4⟩:Qx)∈QR p by rw[HNP.o];exact HYM.o) (by simp[insN]);simp only at e2 e3 e4;subst e2 e3 e4;obtain⟨fb,fo,bv,rfl,hfb,-,g1,hbl⟩:=HC.o i f hf;obtain⟨ba,bc,rfl,-,hbc⟩:=hbl.cell;obtain⟨kb,ko,tv,rfl,hkb,-,k1',hsl⟩:=hbc k' b hb;obtain⟨sa,sc,rfl,-,hsc⟩:=hsl.cell;obtain⟨s4,s5,u,t,rfl,hs4,c0,c1,c2,c3,hu,ht⟩:=hsc j' st hs;have lt1:(i:Int)<(n:Int):=by have:=(List.getElem?_eq_some_iff.1 hf).1;have:=HL.o;omega
        obtain⟨bn,hbn⟩:=Ze f.blocks.length;obtain⟨sn,hsn⟩:=Ze b.stmts.length;have lt2:(k':Int)<(bn:Int):=by have:=(List.getElem?_eq_some_iff.1 hb).1;omega
        have lt3:(j':Int)<(sn:Int):=by have:=(List.getElem?_eq_some_iff.1 hs).1;omega
        rw[hbn] at g1;rw[hsn] at k1';obtain⟨ua,uc,rfl,-⟩:=hu.cell;obtain⟨ta,tc,rfl,-⟩:=ht.cell;obtain⟨un,hun⟩:=Ze st.uses.length;obtain⟨tn,htn⟩:=Ze st.targets.length;rw[hun] at c2;rw[htn] at c3 ht;have HBD:=Zh (show BldE q3 bt sb pb mb _ N _ (U.drewN 1) from by
         obtain⟨S,P,h1,h2⟩:=HBU.o;exact⟨S,P,h1.keep fun _ _=>rfl,h2⟩)
        have B3w:=Zh (HB3.o);have KS:=Zh (Qbr (w0:=w3) hbq HQ3.o (show Below q3 w3 (U.drewN 1) from Qp HB3U.o 1) p _ (HPP.o.keep (Qf.below (HZ.o.symm▸HB3.o)) (Qf.below (HZ.o.symm▸HB3.o)) (Qf.below (HZ.o.symm▸HB3.o)) (Qf.below (HZ.o.symm▸HB3.o))) hck0.o (HNN.o.symm▸HBD.o) (At.mk hf hb hs) (.slice ua un uc) (.slice ta tn tc) ⟨_,_,_,rfl⟩ (ht.same (Qf.below (HZ.o.symm▸HB3.o))));rw[HNN.o] at KS;have BZU:=HB3.o.trans (HB3U.o.mono (by omega:z≤q3));rw[hz] at hfb hkb hs4;have g1:=(BZU.cell (p:=⟨fb,fo+i*2+1,none⟩) hfb).trans g1;have k1':=(BZU.cell (p:=⟨kb,ko+k' * 2+1,none⟩) hkb).trans k1';have c0:=(BZU.cell (p:=⟨s4,s5+j' * 4,none⟩) hs4).trans c0;have c1:=(BZU.cell (p:=⟨s4,s5+j' * 4+1,none⟩) hs4).trans c1;have c2:=(BZU.cell (p:=⟨s4,s5+j' * 4+2,none⟩) hs4).trans c2;have c3:=(BZU.cell (p:=⟨s4,s5+j' * 4+3,none⟩) hs4).trans c3;have x0:U.cell? ⟨z,0,none⟩=some (.slice (some ⟨fb,fo,none⟩) n c):=by
         have:=(HB3U.o.cell (p:=⟨z,0,none⟩) (by show z<q3;omega)).trans ((Qd HP3.o).1 0)
         simpa using this
        have KD:=Zh (show Qbb q3 U (U.drewN 1) from⟨Qp ((Below.refl _ _).mono zU) 1,fun _ _ _=>Qf.drewN⟩);obtain⟨op,hop⟩:=Ze st.op;obtain⟨dn,hdn⟩:=Ze st.dfn;rw[hop] at c0 KS;rw[hdn] at c1 KS;clear hf hb hs hbl hbc hsl hsc hu ht hbn hsn hun htn hop hdn hfb hkb hs4 BZU;go_upto_region 18 with(fail)
        refine Zr (fun w'=>w'.cell? ⟨z,0,none⟩=some (.slice (some ⟨fb,fo,none⟩) n c)∧w'.cell? ⟨xb,0,none⟩=some (iv 3)∧w'.cell? ⟨xb,1,none⟩=some (iv i)∧w'.cell? ⟨xb,2,none⟩=some (iv k')∧w'.cell? ⟨xb,3,none⟩=some (iv j')∧w'.cell? ⟨fb,fo+i*2+1,none⟩=some (.slice (some ⟨kb,ko,none⟩) bn bc)∧w'.cell? ⟨kb,ko+k' * 2+1,none⟩=some (.slice (some ⟨s4,s5,none⟩) sn sc)∧w'.cell? ⟨s4,s5+j' * 4,none⟩=some (iv op)∧w'.cell? ⟨s4,s5+j' * 4+1,none⟩=some (sv dn)∧w'.cell? ⟨s4,s5+j' * 4+2,none⟩=some (.slice ua un uc)∧w'.cell? ⟨s4,s5+j' * 4+3,none⟩=some (.slice ta tn tc)) 19 (⟨x0,d0,d1,d2,d3,g1,k1',c0,c1,c2,c3⟩) fun hS0=>?_
        refine Yd 0 73 ?_;refine Yd 1 74 ?_;refine Yd 2 75 ?_;refine Yc 3 76 [4,7,8,9,12,13,14,17,18] ?_;refine Yc 4 77 [7,8,9,12,13,14,17,18] ?_;refine Yc 5 78 [6,7,8,9,12,13,14,17,18] ?_;refine Yc 6 79 [7,8,9,12,13,14,17,18] ?_;refine Yc 7 80 [8,9,12,13,14,17,18] ?_;refine Yc 8 81 [9,12,13,14,17,18] ?_;refine Yc 9 82 [12,13,14,17,18] ?_;refine Yc 10 83 [11,12,13,14,17,18] ?_;refine Yc 11 84 [12,13,14,17,18] ?_;refine Yc 12 85 [13,14,17,18] ?_;refine Yc 13 86 [14,17,18] ?_;refine Yc 14 87 [17,18] ?_;refine Yc 15 88 [16,17,18] ?_;refine Yc 16 89 [17,18] ?_;refine Yc 17 90 [18] ?_;refine Yd 18 91 ?_;refine QP 19 (some 92) 101 #[.pointer (some ⟨bt,0,none⟩),.agg #[.slice (some ⟨fb,fo,none⟩) n c],.agg #[iv 3,iv i,iv k',iv j'],.agg #[iv op,sv dn,.slice ua un uc,.slice ta tn tc]] rfl ZK ZK ZK rfl ?_;refine(KS.o).mono ?_;rintro e z1 ⟨rfl,hbE,kE⟩;refine⟨_,rfl,fun h=>absurd rfl h,?_⟩;refine Qu ZK ?_ _;generalize hA:Act.put _ _ _=A0;simp only[Qba,Qaa,Zu,Zv,Zw] at hA;subst hA;have HB7:=Zh (show BldE q3 bt sb pb mb _ N ((Qva p (N.take (j+1))).map (numE N)) z1 by rw[HSN.o];exact hbE);have HK7:=Zh (HKU.o.trans (KD.o.trans kE));clear hbE kE hS0 x0 d0 d1 d2 d3 g1 k1' c0 c1 c2 c3 KS k1;go_wp2;go_roundw
        case rel=>exact⟨j+1,by omega,by go_num,HB7,HK7⟩
        case measure=>simp[intOf];omega
       ·have t3:(y1==3)=false:=by simpa using k3
        have HB7:=Zh (show BldE q3 bt sb pb mb _ N ((Qva p (N.take (j+1))).map (numE N)) U by
         rw[HSN.o,show QU p ⟨y1,y2,y3,y4⟩=[] by unfold QU;rw[if_neg k1,if_neg k3]]
         simpa using HBU.o)
        clear k1 k3;go_wp2;go_roundw
        case rel=>exact⟨j+1,by omega,by go_num,HB7,HKU⟩
        case measure=>simp[intOf];omega
     ·have HBE:=Zh (show BldE q3 bt sb pb mb (.slice la m lc) N ((Qva p N).map (numE N)) wr by have h9:=HBj.o;rw[List.take_of_length_le (show N.length≤j by rw[HM.o];omega)] at h9;exact h9);obtain⟨S,P,hB0,hG0⟩:=HBE.o;have HG0:=Zh hG0;have HBS:=Zh hB0;obtain⟨we,rfl⟩:∃x:World,x=wr:=⟨_,rfl⟩;clear hB0 hG0 HBE HBj;go_wp2;go_loopw [96] (fun y wr=>∃(k:Nat) (S1 P1:List (List Int)),k≤m∧y=.int .i64 k∧Hid (Bld q3 bt sb pb mb (.slice la m lc) N S1 P1 wr)∧Hid (QAe k S S1)∧Hid (QAe k P P1)∧Hid (Qbb q3 we wr)) (fun y _=>m-(intOf y).toNat)
      case atStart=>exact⟨0,S,P,Nat.zero_le _,rfl,HBS,QAe.zero S,QAe.zero P,Qbb.refl _ _ zwx⟩
      case round=>
       obtain⟨k,S1,P1,hk,rfl,HBk,HS1,HP1,HKk⟩:=hrel;have zwk:q3≤wr.heap.size:=by have:=HKk.o.below.size;omega
       obtain⟨x0,x1,x2,x3⟩:=Qt HBk.o.bl;rw[HM.o] at x1 x2;by_cases hlt:k<m
       ·obtain⟨⟨v1,r1,hr1,e1,own1,up1⟩,-⟩:=HBk.o.put hbq zwk (a:=k) (by rw[HM.o];exact hlt);obtain⟨hs1,HS2⟩:=HS1.o.step hr1;have hl1:=HG0.o.slen hs1;have K1:=Zh (HSORT.o q3 r1 v1 wr zwk (by rw[HM.o] at hl1;omega) own1);have U1:=Zh up1;have HS2:=Zh HS2;have hltb:bt<wr.heap.size:=Qb HBk.o.bl;have hkm:(k:Int)<(m:Int):=by omega
        clear hr1 own1 up1 hs1 hl1;go_wp2_with fail;refine K1.o.mono ?_;rintro e w5 ⟨rfl,ho5,hg5⟩;obtain⟨hb5,hk5⟩:=U1.o _ w5 ho5 hg5;have HB5:=Zh hb5;have HK5:=Zh (HKk.o.trans hk5);have zw5:q3≤w5.heap.size:=by have:=HK5.o.below.size;omega
        clear ho5 hg5 hb5 hk5 x0 x1 x2 x3 e1 K1 U1;obtain⟨x0,x1,x2,x3⟩:=Qt HB5.o.bl;rw[HM.o] at x1 x2;obtain⟨-,⟨v2,r2,hr2,e2,own2,up2⟩⟩:=HB5.o.put hbq zw5 (a:=k) (by rw[HM.o];exact hlt);obtain⟨hs2,HP2⟩:=HP1.o.step hr2;have hl2:=HG0.o.plen hs2;have K2:=Zh (HSORT.o q3 r2 v2 w5 zw5 (by rw[HM.o] at hl2;omega) own2);have U2:=Zh up2;have HP2:=Zh HP2;clear hr2 own2 up2 hs2 hl2;go_wp2_with fail;refine K2.o.mono ?_;rintro e w6 ⟨rfl,ho6,hg6⟩;obtain⟨hb6,hk6⟩:=U2.o _ w6 ho6 hg6;have HB6:=Zh hb6;have HK6:=Zh (HK5.o.trans hk6);clear ho6 hg6 hb6 hk6 x0 x1 x2 x3 e2 K2 U2;go_wp2;go_roundw
        case rel=>exact⟨k+1,_,_,by omega,by go_num,HB6,HS2,HP2,HK6⟩
        case measure=>simp[intOf];omega
       ·obtain⟨es,ep⟩:=QQl hck0.o (S:=S) (P:=P) (HNN.o.symm▸HG0.o);have HSS:=Zh (show S1=Qkc p by rw[←es];exact HS1.o.all (by rw[HG0.o.sl,HM.o];omega));have HPS:=Zh (show P1=Qmc p by rw[←ep];exact HP1.o.all (by rw[HG0.o.pl,HM.o];omega));have HKF:=Zh (show Below q3 w3 wr from HK0.o.trans (HKj.o.below.trans HKk.o.below));have HRF:=Zh (show wr.heap[z+1]? = some (.cells #[.slice none 0 0,.slice none 0 0,.slice none 0 0] 46 (0,0)) from(HKF.o.block (z+1) hzq).trans HR3.o);obtain⟨vs,us,b1,b2,b3,b4,b5,b6⟩:=HBk.o.rows;rw[HM.o] at b3 b4 b5;have b7:P1.length=m:=by have:=b6.len;simp at this;omega
        have HRS:=Zh (show Qoa Qqc wr (.slice (some ⟨sb,0,none⟩) m m) (Qkc p) by
         rw[←HSS.o];exact Qsp b1 b3 (by unfold maxLen;omega) (fun i v r hv hr=>b6.own i v r (by rw[List.getElem?_append_left (List.getElem?_eq_some_iff.1 hv).1];exact hv) (by rw[List.getElem?_append_left (List.getElem?_eq_some_iff.1 hr).1];exact hr)) ZO)
        have HRP:=Zh (show Qoa Qqc wr (.slice (some ⟨pb,0,none⟩) m m) (Qmc p) by
         rw[←HPS.o];exact Qsp b2 b4 (by unfold maxLen;omega) (fun i v r hv hr=>b6.own (m+i) v r (by rw[List.getElem?_append_right ZO,b3,Nat.add_sub_cancel_left];exact hv) (by rw[List.getElem?_append_right ZO,b5,Nat.add_sub_cancel_left];exact hr)) ZO)
        obtain⟨r0,r1,r2⟩:=QHi HRF.o;have fr:=(Qa HRF.o).2;clear b1 b2 b3 b4 b5 b6 b7 es ep;go_wp2;have hz3:=QWt HRF.o (.slice la m lc) (.slice (some ⟨sb,0,none⟩) m m) (.slice (some ⟨pb,0,none⟩) m m);have tz:tyAt wr (z+1)=some 46:=Qv HRF.o ZO;have st:∀T,T≠46→Qf T wr (((wr.setCell ⟨z+1,0,none⟩ (.slice la m lc)).setCell ⟨z+1,1,none⟩ (.slice (some ⟨sb,0,none⟩) m m)).setCell ⟨z+1,2,none⟩ (.slice (some ⟨pb,0,none⟩) m m)):=fun T hT=>
         ((Qf.setCell (U:=46) tz hT).trans (Qf.setCell (U:=46) (by rw[QS];exact tz) hT)).trans (Qf.setCell (U:=46) (by rw[QS,QS];exact tz) hT)
        have BF:=(((HB3.o.trans (HKF.o.mono zw3)).setCell (p:=⟨z+1,0,none⟩) (by show z≤z+1;omega) (.slice la m lc)).setCell (p:=⟨z+1,1,none⟩) (by show z≤z+1;omega) (.slice (some ⟨sb,0,none⟩) m m)).setCell (p:=⟨z+1,2,none⟩) (by show z≤z+1;omega) (.slice (some ⟨pb,0,none⟩) m m);obtain⟨z0,z1,z2⟩:=QHi hz3;refine bodyPost_ret (v:=.tuple #[.agg #[.slice la m lc,.slice (some ⟨sb,0,none⟩) m m,.slice (some ⟨pb,0,none⟩) m m],iv 0]) (by simp[results,Tryz.results44,go_sem,z0,z1,z2]) rfl ⟨_,_,_,by rw[hck0.o],?_,?_,?_,?_⟩
        ·rw[HNP.o,HNN.o];exact(HNA.o.same (Qf.below (HQ3.o.symm▸HKF.o))).same (st _ ZD)
        ·exact HRS.o.keep fun U hU=>st U (by rcases List.mem_cons.1 hU with rfl|hU;(show IT≠46;decide);simp[Qqc] at hU;subst hU;decide)
        ·exact HRP.o.keep fun U hU=>st U (by rcases List.mem_cons.1 hU with rfl|hU;(show IT≠46;decide);simp[Qqc] at hU;subst hU;decide)
        ·rw[HZ.o];exact BF
end
section
open Go.RowKit
variable [Base]
theorem bfull_no (k:Int)(hk:QEa k=false)(w:World):Calls Tryz.prog 50 #[.int .i64 k] w (QJd 3 w):=by
 have HR:=Zh hk;clear hk;go_enter Tryz.func50,Tryz.ntmps50;go_wp2_with fail;refine(QSk k HR.o _).mono ?_;rintro e v ⟨rfl,b1⟩;have hz:w.heap.size<v.heap.size:=by have:=b1.size;simp only[World.size_alloc] at this;omega
 have L1:=Zh ((b1.block w.heap.size ZS).trans (heap_alloc_new w _));have B1:=Zh (((Below.refl _ _).alloc (Nat.le_refl _) (.cells #[.int .i64 0,.slice none 0 0] 52)).trans (b1.mono ZS));obtain⟨V,hV⟩:=Ze (v.alloc (.cells #[.int .i64 0,.slice none 0 0] 52));have hc:V.heap[v.heap.size]? = some (.cells #[.int .i64 0,.slice none 0 0] 52 (0,0)):=by rw[←hV];exact heap_alloc_new _ _
 have hr:V.heap[w.heap.size]? = some (.cells #[.int .i64 0,.slice none 0 0] 52 (0,0)):=by rw[←hV];exact Qz _ L1.o
 have BV:=Zh (show Below w.heap.size w V by rw[←hV];exact B1.o.alloc ZO _);have BF:=Zh ((BV.o.setCell (p:=⟨w.heap.size,0,none⟩) (Nat.le_refl _) (.int .i64 0)).setCell (p:=⟨w.heap.size,1,none⟩) (Nat.le_refl _) (.slice none 0 0));have x0:=(Qa hc).1 0;have x1:=(Qa hc).1 1;have y0:=(Qa hr).1 0;have y1:=(Qa hr).1 1;have f0:=(Qa hr).2 0;have f1:=(Qa hr).2 1;simp only[Zx,Zy,Zz] at x0 x1 y0 y1;have HV:=Zh hV;have hne:w.heap.size≠v.heap.size:=by omega
 clear hV hc hr b1;go_wp2_with fail;rw[show v.alloc (.cells #[.int .i64 0,.slice none 0 0] 52)=V from HV.o];refine wp_loop_rounds 1 ?_;rw[rounds_succ];go_wp2;refine bodyPost_ret (v:=.tuple #[QPd,.int .i64 3]) (by simp[results,Tryz.results50,go_sem,y0,y1]) rfl ⟨rfl,BF.o⟩
theorem Qwu (k:Int)(hk:QEa k=false)(l:List Int)(v0:Value)(w:World)(hl:QJa w v0 l):Calls Tryz.prog 115 #[.int .i64 k,v0] w (QJd 3 w):=by
 have HR:=Zh hk;obtain⟨la,lc,rfl,hlm,-,-,hcell⟩:=hl.cell;obtain⟨n,hn⟩:=Ze l.length;rw[hn] at hlm ⊢;have HN:=Zh hn;have HC:=Zh hcell;unfold maxLen at hlm;clear hl hcell hn hk;go_enter Tryz.func115,Tryz.ntmps115;go_wp2_with fail;refine(QSk k HR.o _).mono ?_;rintro e v ⟨rfl,b1⟩;have hz:w.heap.size<v.heap.size:=by have:=b1.size;simp only[World.size_alloc] at this;omega
 have L1:=Zh ((b1.block w.heap.size ZS).trans (heap_alloc_new w _));have B1:=Zh (((Below.refl _ _).alloc (Nat.le_refl _) (.cells #[.int .i64 0,.slice none 0 0] 52)).trans (b1.mono ZS));obtain⟨V,hV⟩:=Ze (v.alloc (.cells #[.int .i64 0,.slice none 0 0] 52));have hc:V.heap[v.heap.size]? = some (.cells #[.int .i64 0,.slice none 0 0] 52 (0,0)):=by rw[←hV];exact heap_alloc_new _ _
 have hr:V.heap[w.heap.size]? = some (.cells #[.int .i64 0,.slice none 0 0] 52 (0,0)):=by rw[←hV];exact Qz _ L1.o
 have BV:=Zh (show Below w.heap.size w V by rw[←hV];exact B1.o.alloc ZO _);have BF:=Zh ((BV.o.setCell (p:=⟨w.heap.size,0,none⟩) (Nat.le_refl _) (.int .i64 0)).setCell (p:=⟨w.heap.size,1,none⟩) (Nat.le_refl _) (.slice none 0 0));have x0:=(Qa hc).1 0;have x1:=(Qa hc).1 1;have y0:=(Qa hr).1 0;have y1:=(Qa hr).1 1;have f0:=(Qa hr).2 0;have f1:=(Qa hr).2 1;simp only[Zx,Zy,Zz] at x0 x1 y0 y1;have HV:=Zh hV;have hne:w.heap.size≠v.heap.size:=by omega
 clear hV hc hr b1;go_wp2_with fail;rw[show v.alloc (.cells #[.int .i64 0,.slice none 0 0] 52)=V from HV.o];refine wp_loop_rounds 1 ?_;rw[rounds_succ];rcases Nat.eq_zero_or_pos n with h0|h0
 ·subst h0;go_wp2;refine bodyPost_ret (v:=.tuple #[QPd,.int .i64 3]) (by simp[results,Tryz.results115,go_sem,y0,y1]) rfl ⟨rfl,BF.o⟩
 ·obtain⟨b,hb⟩:∃b,l[0]? = some b:=⟨_,List.getElem?_eq_getElem (show 0<l.length by have:=HN.o;omega)⟩;obtain⟨lb,lo,rfl,hlb,hlc⟩:=HC.o 0 b hb;have g0:=(BV.o.cell (p:=⟨lb,lo+0,none⟩) hlb).trans hlc;simp only[Nat.add_zero] at g0;clear hb hlc;by_cases hb0:b<0
  ·have d1:decide (b<0)=true:=by simpa using hb0
   go_wp2;refine bodyPost_ret (v:=.tuple #[QPd,.int .i64 3]) (by simp[results,Tryz.results115,go_sem,y0,y1]) rfl ⟨rfl,BF.o⟩
  ·have d1:decide (b<0)=false:=by simpa using hb0
   have d2:decide (0≤b)=true:=by simp;omega
   go_wp2;refine bodyPost_ret (v:=.tuple #[QPd,.int .i64 3]) (by simp[results,Tryz.results115,go_sem,y0,y1]) rfl ⟨rfl,BF.o⟩
theorem QXp (k:Int)(l:List Int)(v0:Value)(w:World)(hl:QJa w v0 l):Calls Tryz.prog 115 #[.int .i64 k,v0] w (SetE (ofS k l) w):=by
 by_cases h:QEa k=true
 ·have h2:=h;unfold QEa at h2;simp only[Bool.and_eq_true,decide_eq_true_eq] at h2;obtain⟨m,rfl⟩:=Int.eq_ofNat_of_zero_le h2.1;exact QLt m ZO l v0 w hl
 ·have h2:QEa k=false:=by simpa using h
  rw[Qru h2];exact(Qwu k h2 l v0 w hl).mono fun _ _ h=>h.set
end
section
open Go.RowKit
variable [Base]
theorem But.sameT {B bt:Nat}{w w':World}(ht:QZ B w bt)(h:But bt w w'){T:TypeId}(hne:T≠85):Qf T w w':=fun b c fr V hV e=>by
 rw[h.block b (Qb e) ?_]
 ·exact e
 ·rintro rfl
  obtain⟨a,n,c',i,h1,-⟩:=ht.get
  rw[h1] at e
  injection e with e
  injection e with _ e2 _
  rcases hV with hV|hV
  ·exact hne (hV.symm.trans e2.symm)
  ·have:=ht.bs;omega
theorem Qi.shape {w:World}{u:Value}{l:List Nat}(h:Qi w u l):∃a n c,u=.slice a n c:=by
 obtain⟨a,c,rfl,-⟩:=h.cell;exact⟨_,_,_,rfl⟩
theorem Qfl {s:QSet}{m:Nat}(hm:s.width=(m:Int))(b:Nat)(u:Value)(w:World)(hf:QUb s)(hb:b<m)(hu:Qi w u s.words):Calls Tryz.prog 58 #[.agg #[.int .i64 (m:Int),u],.int .i64 b] w (Qht (putS s b) w):=by
 have h:=Qvp s b u w hf ZO hu;unfold setV at h;rw[hm] at h;exact h
end
section
open Go.RowKit
variable [Base]
theorem Qts:(Tryz.prog.info? 139).map (fun i=>(i.zero,i.size,i.bytes))=some (some (Value.int .u64 0),1,8):=by kernel_rfl
def Qzu (w:World)(n:Nat)(xs:List Value)(e:Ending)(w':World):Prop:=
 ∃a c,e=.returned (.slice a n c)∧w'.ownsRow w.heap.size 139 1 (.slice a n c) n xs∧Below w.heap.size w w'
theorem Qkr (w:World):(w.alloc (.cells #[] 139)).ownsRow w.heap.size 139 1 (.slice (some ⟨w.heap.size,0,none⟩) 0 0) 0 []:=
 ⟨rfl,.inr ⟨w.heap.size,0,#[],rfl,Nat.le_refl _,heap_alloc_new w _,Nat.le_refl _,Nat.zero_le _,rfl,rfl⟩⟩
theorem QXh (v:Value)(n:Nat)(xs:List Value)(w:World)(h:Qg w 139 1 v xs)(hl:xs.length=n*1)(ho:xs.all Value.oneCell'=true)(hn:n≤1000000):
  Calls Tryz.prog 91 #[v] w (Qzu w n xs):=by
 have H:=Zh h;have L:=Zh hl;have O:=Zh ho;obtain⟨m,cap,e1,e2,e3,h4⟩:=h;have hm:m=n:=by omega
 subst hm;obtain⟨oa,oc,rfl,hoc,hnil⟩:∃oa oc,v=.slice oa m oc∧oc≤maxLen∧(oa=none→m=0∧oc=0):=by
  rcases h4 with⟨⟨a,rfl⟩,rfl⟩|⟨b,off,c,fr,rfl,hb,hc⟩
  ·exact⟨a,0,rfl,Nat.zero_le _,fun _=>⟨rfl,rfl⟩⟩
  ·exact⟨_,cap,rfl,e3,fun h=>by cases h⟩
 clear h4;rcases oa with _|oa
 ·obtain⟨rfl,rfl⟩:=hnil rfl;have hx:xs=[]:=List.length_eq_zero_iff.1 ZO;subst hx;clear hl ho e1 H L O;have q:=fun (w:World) (a:Option Addr) (n c n' c':Nat)=>Lib.run_eql_slice_nil (P:=Tryz.prog) w 50 139 a n c n' c' Tryz.underlying50
  go_enter Tryz.func91,Tryz.ntmps91;go_wp2;go_ret;exact⟨none,0,rfl,World.ownsRow_nil _ _ _ _,Below.refl _ _⟩
 ·unfold maxLen at e3 hoc;have OW:=Zh (Qkr w);clear hl ho e1 hnil;have q:=fun (w:World) (a:Option Addr) (n c n' c':Nat)=>Lib.run_eql_slice_nil (P:=Tryz.prog) w 50 139 a n c n' c' Tryz.underlying50
  go_enter Tryz.func91,Tryz.ntmps91;go_wp2_with (at_builtin;refine wpList_append_sl rfl _ _ 50 rfl w.heap.size 139 _ 1 8 Tryz.underlying50 Qts rfl ZD _ _ _ OW.o rfl _ m _ rfl (Qg.same H.o Qf.alloc) L.o O.o (by unfold maxLen;omega) ZO ZS ?_;intro g d w1 own1 gr1;simp only[Nat.zero_add,List.nil_append] at own1;have OW1:=Zh own1;have B1:=Zh (((Below.refl w.heap.size w).alloc (Nat.le_refl _) _).trans (Below.of_grown gr1 OW.o ZS));clear own1 gr1);go_ret;exact⟨_,_,by simp,OW1.o,B1.o⟩
end
section
open Go.RowKit
variable [Base]
theorem QWd {w:World}{base:Nat}{T:TypeId}{sz n c:Nat}{a:Option Addr}{xs:List Value}(h:w.ownsRow base T sz (.slice a n c) n xs)(hn:0<n)(hbs:Base.b≤base:=by omega):
  ∃g,a=some ⟨g,0,none⟩∧base≤g∧g<w.heap.size∧tyAt w g=some T∧(∀j,j<xs.length→w.cell? ⟨g,j,none⟩=xs[j]?)∧∀j,w.frozen? ⟨g,j,none⟩=false:=by
 obtain⟨h1,h2⟩:=h;rcases h2 with⟨h3,_⟩|⟨g,cap,cur,e,hb,hg,hn',hc,hs,ht⟩
 ·injection h3 with _ h3;omega
 ·injection e with e _ _
  subst e;refine⟨g,rfl,hb,Qb hg,Qv hg,fun j hj=>?_,fun j=>by simp[World.frozen?,hg]⟩;have h5:w.cell? ⟨g,j,none⟩=cur[j]?:=by simp[World.cell?,hg]
  rw[h5,←ht,List.getElem?_take_of_lt ZO];simp
theorem Qnu {base sz n:Nat}{e:TypeId}{v:Value}{xs:List Value}{w w':World}(h:w.ownsRow base e sz v n xs)(hb:Below w.heap.size w w'):w'.ownsRow base e sz v n xs:=by
 refine⟨h.1,?_⟩;rcases h.2 with hn|⟨g,cap,cur,rfl,hg,hh,rest⟩
 ·exact .inl hn
 ·exact .inr ⟨g,cap,cur,rfl,hg,(hb.block g (Qb hh)).trans hh,rest⟩
theorem Qza {w:World}{base sz n g j:Nat}{T U:TypeId}{v x:Value}{xs:List Value}(h:w.ownsRow base T sz v n xs)(hg:tyAt w g=some U)(hne:T≠U):(w.setCell ⟨g,j,none⟩ x).ownsRow base T sz v n xs:=by
 refine⟨h.1,?_⟩;rcases h.2 with hn|⟨b,cap,cur,rfl,hb,hh,rest⟩
 ·exact .inl hn
 ·exact .inr ⟨b,cap,cur,rfl,hb,(Qf.setCell (U:=U) hg hne).own hh,rest⟩
theorem Qao {w:World}{b b' sz n:Nat}{e:TypeId}{v:Value}{xs:List Value}(h:w.ownsRow b e sz v n xs)(hb:b'≤b):w.ownsRow b' e sz v n xs:=by
 refine⟨h.1,?_⟩;rcases h.2 with hn|⟨g,cap,cur,rfl,hg,rest⟩
 ·exact .inl hn
 ·exact .inr ⟨g,cap,cur,rfl,Nat.le_trans hb hg,rest⟩
theorem Qjv (w:World)(o:Obj):((w.alloc o).alloc (.cells #[] 139)).ownsRow (w.heap.size+1) 139 1 (.slice (some ⟨w.heap.size+1,0,none⟩) 0 0) 0 []:=by
 have h:=Qkr (w.alloc o);rw[World.size_alloc] at h;exact h
theorem QDh (l:List Nat):(l.map uv).all Value.oneCell'=true:=by
 rw[List.all_eq_true];intro x hx;obtain⟨y,_,rfl⟩:=List.mem_map.1 hx;rfl
structure SpIn (B bt r c:Nat)(w wx:World)(d:Int)(v:Value)(ws:List Nat):Prop where
 tape:QZ B wx bt
 but:But bt w wx
 res:wx.heap[r]? = some (.cells #[.int .i64 0,.slice none 0 0] 52 (0,0))
 cur:wx.heap[c]? = some (.cells #[.int .i64 d,v] 52 (0,0))
 own:wx.ownsRow w.heap.size 139 1 v ws.length (ws.map uv)
 ok:QLa ws
 old:w.heap.size≤r∧w.heap.size≤c∧r≠c∧bt<w.heap.size∧B≤w.heap.size
theorem SpIn.mkA {B bt r base:Nat}{w v1:World}{d:Int}{v:Value}{ws:List Nat}(ht:QZ B w bt)(hb:Below w.heap.size w v1)(hr:v1.heap[r]? = some (.cells #[.int .i64 0,.slice none 0 0] 52 (0,0)))(own:v1.ownsRow base 139 1 v ws.length (ws.map uv))(hbase:w.heap.size≤base)(ok:QLa ws)(hw:w.heap.size≤r):
  SpIn B bt r v1.heap.size w (v1.alloc (.cells #[.int .i64 d,v] 52)) d v ws:=by
 have hlt:=ht.lt;have hge:=ht.ge;have hbs:=ht.bs;exact⟨(ht.below hb).alloc _,((But.refl bt w).below hb).alloc _,Qz _ hr,heap_alloc_new _ _,Qnu (Qao own hbase) (Zb),ok,hw,hb.size,by have:=Qb hr;omega,hlt,by omega⟩
theorem SpIn.mkB {B bt r c base:Nat}{w v1:World}{d:Int}{v:Value}{ws:List Nat}(ht:QZ B w bt)(hb:Below w.heap.size w v1)(hr:v1.heap[r]? = some (.cells #[.int .i64 0,.slice none 0 0] 52 (0,0)))(hz:v1.heap[c]? = some (.cells #[.int .i64 0,.slice none 0 0] 52 (0,0)))(own:v1.ownsRow base 139 1 v ws.length (ws.map uv))(hbase:w.heap.size≤base)(ok:QLa ws)(hw:w.heap.size≤r)(hc:w.heap.size≤c)(hrc:r≠c):
  SpIn B bt r c w ((v1.setCell ⟨c,0,none⟩ (.int .i64 d)).setCell ⟨c,1,none⟩ v) d v ws:=by
 have hlt:=ht.lt;have hge:=ht.ge;have hbs:=ht.bs;have hty:tyAt v1 c=some 52:=Qv hz;refine⟨((ht.below hb).setCell (by show c≠bt;omega) (by show B≤c;omega) _).setCell (by show c≠bt;omega) (by show B≤c;omega) _,((((But.refl bt w).below hb).setCell ⟨c,0,none⟩ (.inr hc) _).setCell ⟨c,1,none⟩ (.inr hc) _),?_,?_,Qza (Qza (Qao own hbase) hty ZD) ((QS c).trans hty) ZD,ok,hw,hc,hrc,hlt,by omega⟩
 ·rw[Below.heap_setCell _ _ _ _ (by show r≠c;omega),Below.heap_setCell _ _ _ _ (by show r≠c;omega)];exact hr
 ·simp[World.setCell,Array.getElem?_modify,hz]
theorem But.undrew1 {bt n:Nat}{w w':World}(h:But bt (w.drewN n) w'):But bt w w':=⟨h.os,h.tape,h.output,h.size,h.block⟩
def Qbw (B bt:Nat)(n:Int)(w:World)(e:Ending)(w':World):Prop:=∃r:Int,0≤r∧r<n∧e=.returned (.int .i64 r)∧QZ B w' bt∧But bt w w'
theorem QLu {B bt:Nat}{w:World}(ht:QZ B w bt)(n:Int)(hn:1≤n)(hn':n≤9223372036854775807):
  Calls Tryz.prog 16 #[.pointer (some ⟨bt,0,none⟩),.int .i64 n] w (Qbw B bt n w):=
 (QMc ht n hn').mono fun _ _ ⟨r,h1,h2,h3,h4,h5⟩=>⟨r,h1,by omega,h3,h4,h5⟩
theorem SpIn.next {B bt r c:Nat}{w wr w2:World}{d:Int}{v:Value}{ws:List Nat}(h:SpIn B bt r c w wr d v ws)(ht:QZ B w2 bt)(hb:But bt wr w2):SpIn B bt r c w w2 d v ws:=by
 obtain⟨o1,o2,o3,o4,o5⟩:=h.old;have hbs:=h.tape.bs;refine⟨ht,h.but.trans hb,(hb.block r (Qb h.res) ZO).trans h.res,(hb.block c (Qb h.cur) ZO).trans h.cur,?_,h.ok,h.old⟩;refine⟨h.own.1,?_⟩;rcases h.own.2 with hn|⟨g,cap,cur,rfl,hg,hh,rest⟩
 ·exact .inl hn
 ·exact .inr ⟨g,cap,cur,rfl,hg,(hb.block g (Qb hh) ZO).trans hh,rest⟩
theorem SpIn.setw {B bt r c:Nat}{w wx:World}{d d2:Int}{v:Value}{ws:List Nat}(h:SpIn B bt r c w wx d v ws):SpIn B bt r c w (wx.setCell ⟨c,0,none⟩ (.int .i64 d2)) d2 v ws:=by
 obtain⟨o1,o2,o3,o4,o5⟩:=h.old;have hbs:=h.tape.bs;have hc:=h.cur;refine⟨h.tape.setCell (by show c≠bt;omega) (by show B≤c;omega) _,h.but.setCell ⟨c,0,none⟩ (.inr o2) _,?_,?_,Qza h.own (Qv h.cur) ZD,h.ok,h.old⟩
 ·rw[Below.heap_setCell _ _ _ _ (by show r≠c;omega)];exact h.res
 ·simp[World.setCell,Array.getElem?_modify,hc]
theorem SpIn.fin {B bt r c:Nat}{w wx:World}{d:Int}{v x y:Value}{ws:List Nat}(h:SpIn B bt r c w wx d v ws):Qi ((wx.setCell ⟨r,0,none⟩ x).setCell ⟨r,1,none⟩ y) v ws∧QZ B ((wx.setCell ⟨r,0,none⟩ x).setCell ⟨r,1,none⟩ y) bt∧But bt w ((wx.setCell ⟨r,0,none⟩ x).setCell ⟨r,1,none⟩ y):=by
 obtain⟨o1,o2,o3,o4,o5⟩:=h.old;have hbs:=h.tape.bs;have hty:=Qv h.res;exact⟨Qi.keep ⟨Qg.of_owns h.own,h.ok⟩ (Qf.trans (Qf.setCell (U:=52) hty ZD) (Qf.setCell (U:=52) ((QS r).trans hty) ZD)),
  (h.tape.setCell (by show r≠bt;omega) (by show B≤r;omega) _).setCell (by show r≠bt;omega) (by show B≤r;omega) _,
  (h.but.setCell ⟨r,0,none⟩ (.inr o1) _).setCell ⟨r,1,none⟩ (.inr o1) _⟩
theorem SpIn.push {B bt r c:Nat}{w wx w4:World}{d:Int}{v v2:Value}{ws:List Nat}{x:Nat}(h:SpIn B bt r c w wx d v ws)(hx:x<18446744073709551616)(own:w4.ownsRow w.heap.size 139 1 v2 (ws.length+1) (ws.map uv++[uv x]))(hg:wx.grownBy w4 v.ownBlock):
  SpIn B bt r c w (w4.setCell ⟨c,1,none⟩ v2) d v2 (ws++[x]):=by
 obtain⟨o1,o2,o3,o4,o5⟩:=h.old;have hbs:=h.tape.bs;have hge:=h.tape.ge;have hb:Below w.heap.size wx w4:=Below.of_grown hg h.own (by have:=h.but.size;omega);have hc:w4.heap[c]? = _:=(Qf.grown hg h.own ZD).own h.cur;have hr:w4.heap[r]? = _:=(Qf.grown hg h.own ZD).own h.res;have ht:QZ B w4 bt:=h.tape.keep (hb.block bt o4) (fun k hk=>hb.block k ZO) hb.size;have hbut:But bt w w4:=⟨hb.os.trans h.but.os,hb.tape.trans h.but.tape,hb.output.trans h.but.output,Nat.le_trans h.but.size hb.size,fun k hk hn=>(hb.block k hk).trans (h.but.block k hk hn)⟩;refine⟨ht.setCell (by show c≠bt;omega) (by show B≤c;omega) _,hbut.setCell ⟨c,1,none⟩ (.inr o2) _,?_,?_,?_,?_,h.old⟩
 ·rw[Below.heap_setCell _ _ _ _ (by show r≠c;omega)];exact hr
 ·simp[World.setCell,Array.getElem?_modify,hc]
 ·rw[List.length_append,List.map_append];exact Qza own (Qv hc) ZD
 ·intro y hy;rcases List.mem_append.1 hy with hy|hy
  ·exact h.ok y hy
  ·simp at hy;omega
theorem Qvd {w:World}{base sz g n c:Nat}{T:TypeId}{xs:List Value}(h:w.ownsRow base T sz (.slice (some ⟨g,0,none⟩) n c) n xs)(j:Nat)(v:Value):(w.setCell ⟨g,j,none⟩ v).ownsRow base T sz (.slice (some ⟨g,0,none⟩) n c) n (xs.set j v):=by
 refine⟨by rw[List.length_set];exact h.1,?_⟩;rcases h.2 with⟨h1,_⟩|⟨g',cap,cur,e,hg,hh,h1,h2,h3,h4⟩
 ·cases h1
 ·injection e with e1 _ e2
  injection e1 with e1
  injection e1 with e1
  subst e1 e2;refine .inr ⟨g,c,cur.setIfInBounds j v,rfl,hg,by simp[World.setCell,Array.getElem?_modify,hh],h1,h2,by rw[Array.size_setIfInBounds];exact h3,?_⟩;rw[Array.toList_setIfInBounds,List.take_set,h4]
theorem SpIn.word {B bt r c g k j y:Nat}{w wx:World}{d:Int}{ws:List Nat}(h:SpIn B bt r c w wx d (.slice (some ⟨g,0,none⟩) ws.length k) ws)(hg:w.heap.size≤g)(hty:tyAt wx g=some 139)(hy:y<18446744073709551616):
  SpIn B bt r c w (wx.setCell ⟨g,j,none⟩ (.int .u64 (y:Int))) d (.slice (some ⟨g,0,none⟩) ws.length k) (ws.set j y):=by
 obtain⟨o1,o2,o3,o4,o5⟩:=h.old;have hbs:=h.tape.bs;have hge:=h.tape.ge;have hcg:c≠g:=by rintro rfl;rw[Qv h.cur] at hty;injection hty with hty;exact absurd hty ZD
 have hrg:r≠g:=by rintro rfl;rw[Qv h.res] at hty;injection hty with hty;exact absurd hty ZD
 refine⟨h.tape.setCell (by show g≠bt;omega) (by show B≤g;omega) _,h.but.setCell ⟨g,j,none⟩ (.inr hg) _,?_,?_,?_,?_,h.old⟩
 ·rw[Below.heap_setCell _ _ _ _ hrg];exact h.res
 ·rw[Below.heap_setCell _ _ _ _ hcg];exact h.cur
 ·rw[List.length_set,List.map_set];exact Qvd h.own j _
 ·intro x hx;rcases List.mem_or_eq_of_mem_set hx with hx|rfl
  ·exact h.ok x hx
  ·exact hy
theorem Qcw (x q:Nat)(hx:x<18446744073709551616):∃y:Nat,bits .or .u64 (x:Int) (IntKind.u64.wrap (2 ^ q))=(y:Int)∧y<18446744073709551616:=by
 obtain⟨z,hz⟩:∃z:Nat,IntKind.u64.wrap (2 ^ q)=(z:Int)∧z<18446744073709551616:=by
  rw[IntKind.wrap_u64];generalize (2:Int) ^ q=p;exact⟨(p % 18446744073709551616).toNat,by omega,by omega⟩
 rw[hz.1,Qhl x z hx hz.2];exact⟨_,rfl,Qxm hx hz.2⟩
def Qav (B bt:Nat)(w:World)(e:Ending)(w':World):Prop:=∃s u,e=.returned (setV s u)∧Qi w' u s.words∧QZ B w' bt∧But bt w w'
theorem QVu {B bt:Nat}(s:QSet)(u:Value)(w:World)(ht:QZ B w bt)(hu:Qi w u s.words)(hd1:-1000≤s.width)(hd2:s.width≤1000)(hl:s.words.length≤1000):Calls Tryz.prog 25 #[.pointer (some ⟨bt,0,none⟩),setV s u] w (Qav B bt w):=by
 have hlt:=ht.lt;have hbs:=ht.bs;have HT:=Zh ht;obtain⟨ua,uc,rfl,-,-⟩:=hu.cell;obtain⟨n,hn⟩:=Ze s.words.length;rw[hn] at hu hl ⊢;obtain⟨W,hW⟩:=Ze ((w.alloc (.cells #[.int .i64 s.width,.slice ua n uc] 52)).alloc (.cells #[.int .i64 0,.slice none 0 0] 52));have B0:Below w.heap.size w W:=by rw[←hW];exact(Zb).alloc ZS _
 have HB1:W.heap[w.heap.size]? = some (.cells #[.int .i64 s.width,.slice ua n uc] 52 (0,0)):=by rw[←hW];exact Qz _ (heap_alloc_new _ _)
 have HB2:W.heap[w.heap.size+1]? = some (.cells #[.int .i64 0,.slice none 0 0] 52 (0,0)):=by rw[←hW];exact Qda _ _
 have x0:=(Qa HB1).1 0;have x1:=(Qa HB1).1 1;simp only[Zx,Zy,Zz] at x0 x1;have H1:=Zh HB1;have H2:=Zh HB2;have HW:=Zh hW;have BB:=Zh B0;have HU:=Zh hu;have HN:=Zh hn;have hz1:=Qb HB1;have hz2:=Qb HB2;have SA:=Zh (hu.below B0).1;have OC:=Zh (QDh s.words);have LN:=Zh (show(s.words.map uv).length=n*1 by rw[List.length_map,hn,Nat.mul_one]);clear hW HB1 HB2 B0 hn hu ht;go_enter Tryz.func25,Tryz.ntmps25;go_upto_region 1 with fail
 rw[show(w.alloc (.cells #[.int .i64 s.width,.slice ua n uc] 52)).alloc (.cells #[.int .i64 0,.slice none 0 0] 52)=W from HW.o];go_cut [5] from 6 to 13 (fun y5 wx=>∃c v wy,wy=wx∧y5=.pointer (some ⟨c,0,none⟩)∧Hid (SpIn B bt (w.heap.size+1) c w wy s.width v s.words))
 case first=>
  go_region_held3 (fun w'=>w'.cell? ⟨w.heap.size,0,none⟩=some (.int .i64 s.width)∧w'.cell? ⟨w.heap.size,1,none⟩=some (.slice ua n uc)) (first|go_keep|exact⟨Qqa ZO (Qqa ZO p0),Qqa ZO (Qqa ZO p1)⟩) ((first|(refine QNu rfl (.tmp 8) (.tmp 10) 50 rfl W.drew.heap.size 139 _ 1 8 Tryz.underlying50 Qts rfl ZD _ _ _ (Qkr W.drew) rfl _ n (s.words.map uv) rfl (Qg.same (w:=W.drew) SA.o Qf.alloc) LN.o OC.o (by unfold maxLen;omega) ZO (by first|(simp;done)|(simp;omega)) ?_;intro g1 d1 v1 own1 gr1;simp only[Nat.zero_add,List.nil_append] at own1;have OW1:=Zh own1;have BV1:=Zh (show Below W.drew.heap.size W.drew v1 from((Below.refl W.drew.heap.size W.drew).alloc (Nat.le_refl _) (.cells #[] 139)).trans (Below.of_grown gr1 (Qkr W.drew) (by first|(simp;done)|(simp;omega))));have b0:=Qc (w:=W.drew) H1.o BV1.o hz1;have p0:=(Qa b0).1 0;have p1:=(Qa b0).1 1;simp only[Zx,Zy,Zz] at p0 p1;skip;clear own1 gr1 b0)|(refine QNu rfl (.tmp 8) (.tmp 10) 50 rfl W.drew.heap.size 139 _ 1 8 Tryz.underlying50 Qts rfl ZD _ _ _ ((Qkr W.drew).alloc (.cells #[.int .i64 0,.slice none 0 0] 52)) rfl _ n (s.words.map uv) rfl (Qg.same (w:=W.drew) SA.o (Qf.trans Qf.alloc Qf.alloc)) LN.o OC.o (by unfold maxLen;omega) ZO (by first|(simp;done)|(simp;omega)) ?_;intro g1 d1 v1 own1 gr1;simp only[Nat.zero_add,List.nil_append] at own1;have OW1:=Zh own1;have BV1:=Zh (show Below W.drew.heap.size W.drew v1 from(((Below.refl W.drew.heap.size W.drew).alloc (Nat.le_refl _) (.cells #[] 139)).alloc (by first|(simp;done)|(simp;omega)) (.cells #[.int .i64 0,.slice none 0 0] 52)).trans (Below.of_grown gr1 ((Qkr W.drew).alloc (.cells #[.int .i64 0,.slice none 0 0] 52)) (by first|(simp;done)|(simp;omega))));have b0:=Qc (w:=W.drew) H1.o BV1.o hz1;have p0:=(Qa b0).1 0;have p1:=(Qa b0).1 1;simp only[Zx,Zy,Zz] at p0 p1;have hz:=(gr1.block (W.heap.size+1) (Qb (Qda (w:=W.drew) (.cells #[] 139) (.cells #[.int .i64 0,.slice none 0 0] 52))) (by show ¬some (W.heap.size+1)=some W.heap.size;simp)).trans (Qda (w:=W.drew) (.cells #[] 139) (.cells #[.int .i64 0,.slice none 0 0] 52));have z0:=(Qa hz).1 0;have z1:=(Qa hz).1 1;have f0:=(Qa hz).2 0;have f1:=(Qa hz).2 1;simp only[Zx,Zy,Zz] at z0 z1;have HZ:=Zh hz;clear hz;clear own1 gr1 b0)|(refine QNu rfl (.tmp 8) (.tmp 10) 50 rfl (W.drew.heap.size+1) 139 _ 1 8 Tryz.underlying50 Qts rfl ZD _ _ _ (Qjv W.drew (.cells #[.int .i64 0,.slice none 0 0] 52)) rfl _ n (s.words.map uv) rfl (Qg.same (w:=W.drew) SA.o (Qf.trans Qf.alloc Qf.alloc)) LN.o OC.o (by unfold maxLen;omega) ZO (by first|(simp;done)|(simp;omega)) ?_;intro g1 d1 v1 own1 gr1;simp only[Nat.zero_add,List.nil_append] at own1;have OW1:=Zh own1;have BV1:=Zh (show Below W.drew.heap.size W.drew v1 from(((Below.refl W.drew.heap.size W.drew).alloc (Nat.le_refl _) (.cells #[.int .i64 0,.slice none 0 0] 52)).alloc (by first|(simp;done)|(simp;omega)) (.cells #[] 139)).trans ((Below.of_grown gr1 (Qjv W.drew (.cells #[.int .i64 0,.slice none 0 0] 52)) (by first|(simp;done)|(simp;omega))).mono (Nat.le_succ _)));have b0:=Qc (w:=W.drew) H1.o BV1.o hz1;have p0:=(Qa b0).1 0;have p1:=(Qa b0).1 1;simp only[Zx,Zy,Zz] at p0 p1;have hz:=(gr1.block W.heap.size (Qb (Qz (.cells #[] 139) (heap_alloc_new W.drew (.cells #[.int .i64 0,.slice none 0 0] 52)))) (by show ¬some W.heap.size=some (W.heap.size+1);simp)).trans (Qz (.cells #[] 139) (heap_alloc_new W.drew (.cells #[.int .i64 0,.slice none 0 0] 52)));have z0:=(Qa hz).1 0;have z1:=(Qa hz).1 1;have f0:=(Qa hz).2 0;have f1:=(Qa hz).2 1;simp only[Zx,Zy,Zz] at z0 z1;have HZ:=Zh hz;clear hz;clear own1 gr1 b0)))
  ·go_wp2_with fail;go_meet
   case rel=>exact⟨_,_,_,rfl,rfl,SpIn.mkA HT.o (BB.o.drew.trans (BV1.o.mono BB.o.size)) ((BV1.o.block (w.heap.size+1) hz2).trans H2.o) (by rw[HN.o];exact OW1.o) BB.o.size HU.o.2 (Nat.le_succ _)⟩
  ·go_wp2_with fail;go_meet
   case rel=>exact⟨_,_,_,rfl,rfl,SpIn.mkB HT.o (BB.o.drew.trans (BV1.o.mono BB.o.size)) ((BV1.o.block (w.heap.size+1) hz2).trans H2.o) HZ.o (by rw[HN.o];exact OW1.o) BB.o.size HU.o.2 (Nat.le_succ _) ZO ZO⟩
  ·go_wp2_with fail;go_meet
   case rel=>exact⟨_,_,_,rfl,rfl,SpIn.mkB HT.o (BB.o.drew.trans (BV1.o.mono BB.o.size)) ((BV1.o.block (w.heap.size+1) hz2).trans H2.o) HZ.o (by rw[HN.o];exact OW1.o) (Nat.le_succ_of_le BB.o.size) HU.o.2 (Nat.le_succ _) ZO ZO⟩
 case rest=>
  clear x0 x1 hz1 hz2 SA OC LN;obtain⟨c,v,wy,rfl,rfl,J0⟩:=hcut;obtain⟨d,hd⟩:=Ze s.width;obtain⟨ws,hws⟩:=Ze s.words;have hn2:=HN.o;rw[hd] at hd1 hd2 J0;rw[hws] at J0 hn2;obtain⟨va,vc,rfl,hvc,hvm⟩:=QXa J0.o.own;rw[hn2] at hvc J0;have HN2:=Zh hn2;unfold maxLen at hvm;clear HN hws hd hn2 H1 H2 HW BB HU;go_wp2_with fail;refine(QLu J0.o.tape 4 ZO ZO).mono ?_;rintro e w2 ⟨z,z1,z2,rfl,t2,b2⟩;have J:=Zh (J0.o.next t2 b2);have hlt2:=J.o.old.2.2.2.1;have hcr:=J.o.old.2.2.1;clear t2 b2 J0;have k0:=(Qa J.o.cur).1 0;have k1:=(Qa J.o.cur).1 1;have k2:=(Qa J.o.cur).2 0;have k3:=(Qa J.o.cur).2 1;have r0:=(Qa J.o.res).1 0;have r1:=(Qa J.o.res).1 1;have r2:=(Qa J.o.res).2 0;have r3:=(Qa J.o.res).2 1;simp only[Zx,Zy,Zz] at k0 k1 r0 r1;by_cases h0:z=0
  ·subst h0;go_wp2_with fail;go_region_law (first|(go_simp;go_at_call 16;go_must (refine(QLu (J.o.tape.drewN 1) 5 ZO ZO).mono ?_;rintro e w3 ⟨q,q1,q2,rfl,t3,b3⟩;have J3:=Zh (J.o.next t3 (But.undrew1 b3));clear t3 b3;have e1:IntKind.i64.wrap (q-2)=q-2:=IntWalk.i64_in _ ZO;have e2:IntKind.i64.wrap (d+(q-2))=d+(q-2):=IntWalk.i64_in _ ZO;clear k0 k1 k2 k3 r0 r1 r2 r3;have k0:=(Qa J3.o.cur).1 0;have k1:=(Qa J3.o.cur).1 1;have k2:=(Qa J3.o.cur).2 0;have k3:=(Qa J3.o.cur).2 1;have r0:=(Qa J3.o.res).1 0;have r1:=(Qa J3.o.res).1 1;have r2:=(Qa J3.o.res).2 0;have r3:=(Qa J3.o.res).2 1;simp only[Zx,Zy,Zz] at k0 k1 r0 r1))|fail)
   all_goals
    go_wp2;refine bodyPost_ret (v:=.agg #[.int .i64 (d+(q-2)),.slice va n vc]) (by simp[results,Tryz.results25,go_sem,k0,k1,r0,r1,hcr,Ne.symm hcr]) rfl ⟨⟨d+(q-2),ws⟩,_,rfl,(J3.o.setw (d2:=d+(q-2))).fin.1,(J3.o.setw (d2:=d+(q-2))).fin.2.1,(J3.o.setw (d2:=d+(q-2))).fin.2.2⟩
  by_cases h1:z=1
  ·subst h1;go_wp2_with fail;go_region_law (first|(go_simp;go_at_call 16;go_must (refine(QLu (J.o.tape.drewN 1) 2 ZO ZO).mono ?_;rintro e w3 ⟨q,q1,q2,rfl,t3,b3⟩;obtain⟨q,rfl⟩:=Int.eq_ofNat_of_zero_le q1;have J3:=Zh (J.o.next t3 (But.undrew1 b3));clear t3 b3 q1;have hcz:=Qb J3.o.cur;have e1:IntKind.u64.wrap (q:Int)=(q:Int):=(by rw[IntKind.wrap_u64];omega);clear k0 k1 k2 k3 r0 r1 r2 r3;have k0:=(Qa J3.o.cur).1 0;have k1:=(Qa J3.o.cur).1 1;have k2:=(Qa J3.o.cur).2 0;have k3:=(Qa J3.o.cur).2 1;have r0:=(Qa J3.o.res).1 0;have r1:=(Qa J3.o.res).1 1;have r2:=(Qa J3.o.res).2 0;have r3:=(Qa J3.o.res).2 1;simp only[Zx,Zy,Zz] at k0 k1 r0 r1))|(go_must (refine QYu [uv q] rfl (.tmp 33) (.tmp 37) 50 (by rfl) w.heap.size 139 _ 1 8 Tryz.underlying50 Qts rfl ZO _ n _ (by rw[←HN2.o];exact J3.o.own) (by rfl) (by rfl) rfl rfl (by unfold maxLen;omega) ZO (by have:=J3.o.but.size;omega) ?_;intro g cap w4 own4 gr4 g1 g2;have OW4:=Zh own4;have GR4:=Zh gr4;have c4:w4.heap[c]? = _:=(Qf.grown GR4.o J3.o.own ZD).own J3.o.cur;have r4:w4.heap[w.heap.size+1]? = _:=(Qf.grown GR4.o J3.o.own ZD).own J3.o.res;clear k0 k1 k2 k3 r0 r1 r2 r3;have k0:=(Qa c4).1 0;have k1:=(Qa c4).1 1;have k2:=(Qa c4).2 0;have k3:=(Qa c4).2 1;have r0:=(Qa r4).1 0;have r1:=(Qa r4).1 1;have r2:=(Qa r4).2 0;have r3:=(Qa r4).2 1;simp only[Zx,Zy,Zz] at k0 k1 r0 r1;clear own4 gr4 g1 g2 c4 r4))|fail)
   all_goals
    go_wp2;have J4:=Zh (J3.o.push (x:=q) ZO (by rw[HN2.o];exact OW4.o) GR4.o);refine bodyPost_ret (v:=.agg #[.int .i64 d,.slice (some ⟨g,0,none⟩) (n+1) cap]) (by simp[results,Tryz.results25,go_sem,k0,k1,r0,r1,hcr,Ne.symm hcr]) rfl ⟨⟨d,ws++[q]⟩,_,rfl,J4.o.fin.1,J4.o.fin.2.1,J4.o.fin.2.2⟩
  by_cases h2:z=2
  ·subst h2;by_cases hn0:n=0
   ·subst hn0;go_wp2;refine bodyPost_ret (v:=.agg #[.int .i64 d,.slice va 0 vc]) (by simp[results,Tryz.results25,go_sem,k0,k1,r0,r1,hcr,Ne.symm hcr]) rfl ⟨⟨d,ws⟩,_,rfl,J.o.fin.1,J.o.fin.2.1,J.o.fin.2.2⟩
   have hpos:0<n:=by omega
   have hpi:(0:Int)<(n:Int):=by omega
   obtain⟨g,hgv,hg1,hg2,hty,hgc,hgf⟩:=QWd (by have:=J.o.own;rw[HN2.o] at this;exact this) hpos;subst hgv;obtain⟨x,hx⟩:∃x,ws[n-1]? = some x:=⟨_,List.getElem?_eq_getElem (show n-1<ws.length by have:=HN2.o;omega)⟩;have hxl:x<18446744073709551616:=J.o.ok x (List.mem_of_getElem? hx);have m0:=hgc (n-1) (by rw[List.length_map];have:=HN2.o;omega);rw[List.getElem?_map,hx] at m0;simp only[Option.map_some] at m0;have m1:=hgf (n-1);have hgb:g≠bt:=by have:=J.o.old.2.2.2.1;omega
   have s1:IntKind.i64.wrap ((n:Int)-1)=(n:Int)-1:=IntWalk.i64_in _ ZO;have s2:0≤(n:Int)-1:=by omega
   have s3:((n:Int)-1).toNat=n-1:=by omega
   have s4:(n:Int)-1<(n:Int):=by omega
   have s5:(1:Int)≤(n:Int):=by omega
   have hcg:c≠g:=by rintro rfl;rw[Qv J.o.cur] at hty;injection hty with hty;exact absurd hty ZD
   have hrg:w.heap.size+1≠g:=by intro e;rw[←e,Qv J.o.res] at hty;injection hty with hty;exact absurd hty ZD
   clear hgc hgf hx hn0;go_wp2_with fail;go_region_law (first|(go_simp;go_at_call 16;go_must (refine(QLu (J.o.tape.drewN 1) 64 ZO ZO).mono ?_;rintro e w3 ⟨q,q1,q2,rfl,t3,b3⟩;obtain⟨q,rfl⟩:=Int.eq_ofNat_of_zero_le q1;have b3:=But.undrew1 b3;have J3:=Zh (J.o.next t3 b3);have m2:=(b3.cell g (n-1) hg2 hgb).trans m0;have m3:=(b3.frozen g (n-1) hg2 hgb).trans m1;have TY:=Zh ((QJv (b3.block g hg2 hgb)).trans hty);obtain⟨y,hy,hyl⟩:=Qcw x q hxl;have e1:IntKind.u64.wrap (q:Int)=(q:Int):=(by rw[IntKind.wrap_u64];omega);clear t3 b3 q1;clear k0 k1 k2 k3 r0 r1 r2 r3;have k0:=(Qa J3.o.cur).1 0;have k1:=(Qa J3.o.cur).1 1;have k2:=(Qa J3.o.cur).2 0;have k3:=(Qa J3.o.cur).2 1;have r0:=(Qa J3.o.res).1 0;have r1:=(Qa J3.o.res).1 1;have r2:=(Qa J3.o.res).2 0;have r3:=(Qa J3.o.res).2 1;simp only[Zx,Zy,Zz] at k0 k1 r0 r1))|fail)
   all_goals
    go_wp2;have J4:=SpIn.word (k:=vc) (j:=n-1) (y:=y) (ws:=ws) (by rw[HN2.o];exact J3.o) hg1 TY.o hyl;rw[HN2.o] at J4;refine bodyPost_ret (v:=.agg #[.int .i64 d,.slice (some ⟨g,0,none⟩) n vc]) (by simp[results,Tryz.results25,go_sem,k0,k1,r0,r1,hcr,Ne.symm hcr,hcg,hrg,Ne.symm hcg,Ne.symm hrg]) rfl ⟨⟨d,ws.set (n-1) y⟩,_,rfl,J4.fin.1,J4.fin.2.1,J4.fin.2.2⟩
  obtain rfl:z=3:=by omega
  clear h0 h1 h2;go_wp2_with fail;refine(QLu (J.o.tape.alloc _) 4 ZO ZO).mono ?_;rintro e w3 ⟨q,q1,q2,rfl,t3,b3⟩;have hc:∀o,w3.cell? ⟨w2.heap.size,o,none⟩=_:=fun o=>b3.cell w2.heap.size o ZS (by have:=J.o.but.size;omega)
  have J3:=Zh (J.o.next t3 (((But.refl bt w2).alloc _).trans b3));clear k0 k1 k2 k3 r0 r1 r2 r3;have k0:=(Qa J3.o.cur).1 0;have k1:=(Qa J3.o.cur).1 1;have k2:=(Qa J3.o.cur).2 0;have k3:=(Qa J3.o.cur).2 1;have r0:=(Qa J3.o.res).1 0;have r1:=(Qa J3.o.res).1 1;have r2:=(Qa J3.o.res).2 0;have r3:=(Qa J3.o.res).2 1;simp only[Zx,Zy,Zz] at k0 k1 r0 r1;clear t3 b3;have hq:q=0∨q=1∨q=2∨q=3:=by omega
  rcases hq with rfl|rfl|rfl|rfl
  ·go_wp2;refine bodyPost_ret (v:=.agg #[.int .i64 (-1),.slice va n vc]) (by simp[results,Tryz.results25,go_sem,k0,k1,r0,r1,hcr,Ne.symm hcr]) rfl ⟨⟨-1,ws⟩,_,rfl,(J3.o.setw (d2:=-1)).fin.1,(J3.o.setw (d2:=-1)).fin.2.1,(J3.o.setw (d2:=-1)).fin.2.2⟩
  ·go_wp2;refine bodyPost_ret (v:=.agg #[.int .i64 (257),.slice va n vc]) (by simp[results,Tryz.results25,go_sem,k0,k1,r0,r1,hcr,Ne.symm hcr]) rfl ⟨⟨257,ws⟩,_,rfl,(J3.o.setw (d2:=257)).fin.1,(J3.o.setw (d2:=257)).fin.2.1,(J3.o.setw (d2:=257)).fin.2.2⟩
  ·go_wp2;refine bodyPost_ret (v:=.agg #[.int .i64 (320),.slice va n vc]) (by simp[results,Tryz.results25,go_sem,k0,k1,r0,r1,hcr,Ne.symm hcr]) rfl ⟨⟨320,ws⟩,_,rfl,(J3.o.setw (d2:=320)).fin.1,(J3.o.setw (d2:=320)).fin.2.1,(J3.o.setw (d2:=320)).fin.2.2⟩
  ·go_wp2;refine bodyPost_ret (v:=.agg #[.int .i64 (0),.slice va n vc]) (by simp[results,Tryz.results25,go_sem,k0,k1,r0,r1,hcr,Ne.symm hcr]) rfl ⟨⟨0,ws⟩,_,rfl,(J3.o.setw (d2:=0)).fin.1,(J3.o.setw (d2:=0)).fin.2.1,(J3.o.setw (d2:=0)).fin.2.2⟩
end
section
open Go.RowKit
variable [Base]
abbrev CT:TypeId:=119
def copV (c:Cp):List Value:=[iv c.1,iv c.2]
def QHa (l:List Cp):List Value:=(l.map copV).flatten
def QKc (w:World)(v:Value)(l:List Cp):Prop:=Qg w CT 2 v (QHa l)
def Qya (z:Nat)(w:World)(v:Value)(l:List Cp):Prop:=w.ownsRow z CT 2 v l.length (QHa l)
theorem QJk (l:List Cp):∀x∈l.map copV,x.length=2:=fun x hx=>by
 obtain⟨n,-,rfl⟩:=List.mem_map.1 hx
 rfl
theorem QYf (a b:List Cp):QHa (a++b)=QHa a++QHa b:=by simp[QHa]
theorem Qya.at_ {z:Nat}{w:World}{v:Value}{l:List Cp}(h:Qya z w v l):QKc w v l:=Qg.of_owns h
theorem Qya.below {z:Nat}{w w':World}{v:Value}{l:List Cp}(h:Qya z w v l)(b:Below w.heap.size w w'):Qya z w' v l:=QZd h b
theorem Qya.nil {z:Nat}{w:World}:Qya z w (.slice none 0 0) []:=by simp[Qya,World.ownsRow,QHa]
theorem Qya.push {z g cap:Nat}{w:World}{l:List Cp}{n:Cp}(h:w.ownsRow z CT 2 (.slice (some ⟨g,0,none⟩) (l.length+1) cap) (l.length+1) (QHa l++copV n)):Qya z w (.slice (some ⟨g,0,none⟩) (l.length+1) cap) (l++[n]):=by
 unfold Qya;rw[QYf,List.length_append]
 simpa [QHa] using h
theorem QKc.nil {w:World}:QKc w (.slice none 0 0) []:=Qg.nil
theorem QKc.below {w w':World}{v:Value}{l:List Cp}(h:QKc w v l)(b:Below w.heap.size w w'):QKc w' v l:=h.same (Qf.below b)
theorem QKc.cell {w:World}{v:Value}{l:List Cp}(h:QKc w v l):∃a c,v=.slice a l.length c∧l.length≤maxLen∧l.length≤c∧c≤maxLen∧∀k n,l[k]? = some n→∃b off,a=some ⟨b,off,none⟩∧b<w.heap.size ∧
  w.cell? ⟨b,off+k*2,none⟩=some (iv n.1)∧w.cell? ⟨b,off+k*2+1,none⟩=some (iv n.2):=by
 obtain⟨a,c,e,hm,h3,h4,hc⟩:=QYg h (QJk l) ZO;rw[List.length_map] at e hm h3;refine⟨a,c,e,hm,h3,h4,fun k n hk=>?_⟩;have hx:(l.map copV)[k]? = some (copV n):=by rw[List.getElem?_map,hk];rfl
 obtain⟨b,off,rfl,hlt,_,hc2⟩:=hc k _ hx;exact⟨b,off,rfl,hlt,hc2 0 ZO,hc2 1 ZO⟩
theorem Qbf:(Tryz.prog.info? CT).map (fun i=>(i.zero,i.size,i.bytes))=some (some (Value.agg #[iv 0,iv 0]),2,16):=by kernel_rfl
structure Qja (w:World)(gu ku cu:Value)(t:Qw):Prop where
 gen:Qi w gu t.gen.words
 kill:Qi w ku t.kill.words
 cops:QKc w cu t.cops
abbrev trV (t:Qw)(gu ku cu:Value):Value:=.agg #[iv t.gen.width,gu,iv t.kill.width,ku,cu]
theorem Qja.below {w w':World}{gu ku cu:Value}{t:Qw}(h:Qja w gu ku cu t)(b:Below w.heap.size w w'):Qja w' gu ku cu t:=⟨h.gen.below b,h.kill.below b,h.cops.below b⟩
theorem Qja.keep {w w':World}{gu ku cu:Value}{t:Qw}(h:Qja w gu ku cu t)(h1:Qf 139 w w')(h2:Qf CT w w'):Qja w' gu ku cu t:=⟨h.gen.keep h1,h.kill.keep h1,h.cops.same h2⟩
def Qsa:Qlg QSet where
 T:=52
 sz:=2
 pos:=by omega
 C:=fun w cs s=>∃u,cs=[iv s.width,u]∧Qi w u s.words
 inner:=[139]
 len:=fun {w cs x} h=>by obtain⟨u,rfl,-⟩:=h;rfl
 keep:=fun {w w' cs x} hs h=>by
  obtain⟨u,rfl,h⟩:=h
  exact⟨u,rfl,h.keep (hs _ ZS)⟩
def trEl:Qlg Qw where
 T:=55
 sz:=5
 pos:=by omega
 C:=fun w cs t=>∃gu ku cu,cs=[iv t.gen.width,gu,iv t.kill.width,ku,cu]∧Qja w gu ku cu t
 inner:=[139,CT]
 len:=fun {w cs x} h=>by obtain⟨gu,ku,cu,rfl,-⟩:=h;rfl
 keep:=fun {w w' cs x} hs h=>by
  obtain⟨gu,ku,cu,rfl,h⟩:=h
  exact⟨gu,ku,cu,rfl,h.keep (hs _ ZS) (hs _ ZS)⟩
theorem QJ {b:Nat}{w:World}{v0 v1 v2 v3 v4:Value}{t:TypeId}(h:w.heap[b]? = some (.cells #[v0,v1,v2,v3,v4] t (0,0))):
  w.cell? ⟨b,0,none⟩=some v0∧w.cell? ⟨b,1,none⟩=some v1∧w.cell? ⟨b,2,none⟩=some v2∧w.cell? ⟨b,3,none⟩=some v3∧w.cell? ⟨b,4,none⟩=some v4:=by
 simp[World.cell?,h]
def bitB (m x:Int):Bool:=decide (0≤x)&&decide (x<m)
theorem QJl (t:Qw)(ga ka ca:Option Addr)(gn gc kn kc cn cc:Nat)(x:Int)(w:World):Calls Tryz.prog 137 #[trV t (.slice ga gn gc) (.slice ka kn kc) (.slice ca cn cc),iv x] w (Qia (bitB t.gen.width x) w):=by
 obtain⟨⟨gw,gl⟩,⟨kw,kl⟩,cs⟩:=t;simp only[trV];unfold bitB;by_cases h0:0≤x
 ·by_cases h1:x<gw
  ·rw[show decide (0≤x)=true by simpa using h0,show decide (x<gw)=true by simpa using h1];go_enter Tryz.func137,Tryz.ntmps137;go_wp2;go_ret;exact⟨rfl,Zb⟩
  ·rw[show decide (0≤x)=true by simpa using h0,show decide (x<gw)=false by simpa using h1];go_enter Tryz.func137,Tryz.ntmps137;go_wp2;go_ret;exact⟨rfl,Zb⟩
 ·rw[show decide (0≤x)=false by simpa using h0];go_enter Tryz.func137,Tryz.ntmps137;go_wp2;go_ret;exact⟨rfl,Zb⟩
def cmpI (x y:Int):Int:=if x<y then -1 else if y<x then 1 else 0
theorem QRh (x:Int)(w:World):Calls Tryz.prog 226 #[iv x] w (fun e w'=>e=.returned (.bool false)∧w'=w):=by
 go_enter Tryz.func226,Tryz.ntmps226;go_wp2;go_ret;exact⟨by simp,rfl⟩
theorem QSp (x y:Int)(w:World):Calls Tryz.prog 179 #[iv x,iv y] w (fun e w'=>e=.returned (iv (cmpI x y))∧w'=w):=by
 unfold cmpI;by_cases h1:x<y
 ·rw[if_pos h1];go_enter Tryz.func179,Tryz.ntmps179;go_wp2_with (go_at_call 226;refine(QRh _ _).mono ?_;rintro e w' ⟨rfl,rfl⟩);go_ret;exact⟨rfl,rfl⟩
 ·rw[if_neg h1];by_cases h2:y<x
  ·rw[if_pos h2];go_enter Tryz.func179,Tryz.ntmps179;go_wp2_with (go_at_call 226;refine(QRh _ _).mono ?_;rintro e w' ⟨rfl,rfl⟩);go_ret;exact⟨rfl,rfl⟩
  ·rw[if_neg h2];go_enter Tryz.func179,Tryz.ntmps179;go_wp2_with (go_at_call 226;refine(QRh _ _).mono ?_;rintro e w' ⟨rfl,rfl⟩);go_ret;exact⟨rfl,rfl⟩
end
end Go.Proofs.YtijekimobahgpaaGreatDoor
namespace Go.Proofs
open Go.Shelf
def Tryz.laysSlsf6_ren:Go.Shelf.Ren:=⟨fun|6=>112|15=>166|14=>167|28=>206|29=>207|20=>208|21=>209|22=>210|23=>211|24=>212|25=>213|26=>214|27=>215|46=>241|47=>237|48=>238|49=>242|50=>243|57=>253|n=>n,fun|22=>53|24=>119|25=>175|3=>3|39=>140|0=>0|53=>253|55=>139|4=>4|46=>246|45=>245|50=>250|5=>5|9=>9|66=>269|70=>273|76=>281|77=>188|n=>n,fun|n=>n⟩
theorem Tryz.laysSlsf6:Go.Proofs.SlLaysF0.n6 Tryz.prog Tryz.laysSlsf6_ren:={
 mixed:=by kernel_rfl
 f6:=⟨Tryz.f112.name,by decide,Tryz.func112.trans (congrArg some (by kernel_rfl))⟩
 f14:=⟨Tryz.f167.name,by decide,Tryz.func167.trans (congrArg some (by kernel_rfl))⟩
 f15:=Tryz.func166.trans (congrArg some (by kernel_rfl))
 f20:=⟨Tryz.f208.name,by decide,Tryz.func208.trans (congrArg some (by kernel_rfl))⟩
 f21:=⟨Tryz.f209.name,by decide,Tryz.func209.trans (congrArg some (by kernel_rfl))⟩
 f22:=⟨Tryz.f210.name,by decide,Tryz.func210.trans (congrArg some (by kernel_rfl))⟩
 f23:=⟨Tryz.f211.name,by decide,Tryz.func211.trans (congrArg some (by kernel_rfl))⟩
 f24:=⟨Tryz.f212.name,by decide,Tryz.func212.trans (congrArg some (by kernel_rfl))⟩
 f25:=⟨Tryz.f213.name,by decide,Tryz.func213.trans (congrArg some (by kernel_rfl))⟩
 f26:=⟨Tryz.f214.name,by decide,Tryz.func214.trans (congrArg some (by kernel_rfl))⟩
 f27:=⟨Tryz.f215.name,by decide,Tryz.func215.trans (congrArg some (by kernel_rfl))⟩
 f28:=Tryz.func206.trans (congrArg some (by kernel_rfl))
 f29:=Tryz.func207.trans (congrArg some (by kernel_rfl))
 f46:=⟨Tryz.f241.name,by decide,Tryz.func241.trans (congrArg some (by kernel_rfl))⟩
 f47:=Tryz.func237.trans (congrArg some (by kernel_rfl))
 f48:=Tryz.func238.trans (congrArg some (by kernel_rfl))
 f49:=⟨Tryz.f242.name,by decide,Tryz.func242.trans (congrArg some (by kernel_rfl))⟩
 f50:=⟨Tryz.f243.name,by decide,Tryz.func243.trans (congrArg some (by kernel_rfl))⟩
 f57:=⟨Tryz.f253.name,by decide,Tryz.func253.trans (congrArg some (by kernel_rfl))⟩
 t0:=Tryz.underlying0
 a0:=Tryz.isAgg0
 z0:=Tryz.sizeOf0
 v0:=Tryz.zeroValue0
 t3:=Tryz.underlying3
 a3:=Tryz.isAgg3
 z3:=Tryz.sizeOf3
 v3:=Tryz.zeroValue3
 t4:=Tryz.underlying4
 a4:=Tryz.isAgg4
 z4:=Tryz.sizeOf4
 v4:=Tryz.zeroValue4
 t5:=Tryz.underlying5
 a5:=Tryz.isAgg5
 z5:=Tryz.sizeOf5
 v5:=Tryz.zeroValue5
 t9:=Tryz.underlying9
 a9:=Tryz.isAgg9
 z9:=Tryz.sizeOf9
 v9:=Tryz.zeroValue9
 t22:=Tryz.underlying53
 a22:=Tryz.isAgg53
 z22:=Tryz.sizeOf53
 v22:=Tryz.zeroValue53
 t25:=Tryz.underlying175
 a25:=Tryz.isAgg175
 z25:=Tryz.sizeOf175
 v25:=Tryz.zeroValue175
 t39:=Tryz.underlying140
 a39:=Tryz.isAgg140
 z39:=Tryz.sizeOf140
 v39:=Tryz.zeroValue140
 t45:=Tryz.underlying245
 a45:=Tryz.isAgg245
 z45:=Tryz.sizeOf245
 v45:=Tryz.zeroValue245
 t46:=Tryz.underlying246
 a46:=Tryz.isAgg246
 z46:=Tryz.sizeOf246
 v46:=Tryz.zeroValue246
 t50:=Tryz.underlying250
 a50:=Tryz.isAgg250
 z50:=Tryz.sizeOf250
 v50:=Tryz.zeroValue250
 t53:=Tryz.underlying253
 a53:=Tryz.isAgg253
 z53:=Tryz.sizeOf253
 v53:=Tryz.zeroValue253
 t55:=Tryz.underlying139
 a55:=Tryz.isAgg139
 z55:=Tryz.sizeOf139
 v55:=Tryz.zeroValue139
 t66:=Tryz.underlying269
 a66:=Tryz.isAgg269
 z66:=Tryz.sizeOf269
 v66:=Tryz.zeroValue269
 t70:=Tryz.underlying273
 a70:=Tryz.isAgg273
 z70:=Tryz.sizeOf273
 v70:=Tryz.zeroValue273
 t76:=Tryz.underlying281
 a76:=Tryz.isAgg281
 z76:=Tryz.sizeOf281
 v76:=Tryz.zeroValue281
 t77:=Tryz.underlying188
 a77:=Tryz.isAgg188
 z77:=Tryz.sizeOf188
 v77:=Tryz.zeroValue188 }
def Tryz.lays125_ren:Go.Shelf.Ren:=⟨fun|125=>166|128=>206|129=>207|n=>n,fun|46=>140|3=>3|51=>253|53=>139|4=>4|5=>5|9=>9|n=>n,fun|n=>n⟩
theorem Tryz.lays125:Go.Proofs.Lays.n125 Tryz.prog Tryz.lays125_ren:={
 mixed:=by kernel_rfl
 f125:=Tryz.func166.trans (congrArg some (by kernel_rfl))
 f128:=Tryz.func206.trans (congrArg some (by kernel_rfl))
 f129:=Tryz.func207.trans (congrArg some (by kernel_rfl))
 t3:=Tryz.underlying3
 a3:=Tryz.isAgg3
 z3:=Tryz.sizeOf3
 v3:=Tryz.zeroValue3
 t4:=Tryz.underlying4
 a4:=Tryz.isAgg4
 z4:=Tryz.sizeOf4
 v4:=Tryz.zeroValue4
 t5:=Tryz.underlying5
 a5:=Tryz.isAgg5
 z5:=Tryz.sizeOf5
 v5:=Tryz.zeroValue5
 t9:=Tryz.underlying9
 a9:=Tryz.isAgg9
 z9:=Tryz.sizeOf9
 v9:=Tryz.zeroValue9
 t46:=Tryz.underlying140
 a46:=Tryz.isAgg140
 z46:=Tryz.sizeOf140
 v46:=Tryz.zeroValue140
 t51:=Tryz.underlying253
 a51:=Tryz.isAgg253
 z51:=Tryz.sizeOf253
 v51:=Tryz.zeroValue253
 t53:=Tryz.underlying139
 a53:=Tryz.isAgg139
 z53:=Tryz.sizeOf139
 v53:=Tryz.zeroValue139 }
end Go.Proofs
namespace Go.Proofs.YtijekimobahgpaaGreatDoor
section
open Go.RowKit
variable [Base]
abbrev CpR:={c:Cp // 0≤c.1∧c.1≤1000}
instance:Inhabited CpR:=⟨⟨(0,0),by simp⟩⟩
def encR (x:CpR):List Value:=copV x.1
def cfR (x y:CpR):Int:=x.1.1-y.1.1
theorem ltR (x y:CpR):ltOf cfR x y=decide (x.1.1<y.1.1):=by
 unfold ltOf cfR;rw[decide_eq_decide];omega
theorem swoR:Go.Sort.SWO (ltOf cfR):=by
 refine⟨fun x=>?_,fun x y z h1 h2=>?_,fun x y z h1 h2=>?_⟩
 ·rw[ltR];simp
 ·rw[ltR] at h1 h2 ⊢;simp only[decide_eq_true_eq] at h1 h2 ⊢;omega
 ·rw[ltR] at h1 h2 ⊢;simp only[decide_eq_false_iff_not] at h1 h2 ⊢;omega
theorem QKk:∀(l:List Cp) (t:Nat) (c:Cp),l[t / 2]? = some c→(QHa l)[t]? = some (if t % 2=0 then iv c.1 else iv c.2)
|[],t,c,h=>by simp at h
|x::r,0,c,h=>by simp at h;subst h;rfl
|x::r,1,c,h=>by simp at h;subst h;rfl
|x::r,t+2,c,h=>by
  rw[show(t+2) / 2=t / 2+1 by omega,List.getElem?_cons_succ] at h
  have ih:=QKk r t c h
  rw[show(t+2) % 2=t % 2 by omega]
  simpa [QHa,copV] using ih
theorem QHk (d:List CpR)(t:Nat)(ht:t<d.length*2):(QHa (d.map Subtype.val))[t]? = some ((Go.Sort.flatK encR 2 d.toArray)[t]!):=by
 have hlt:t / 2<d.length:=by omega
 rw[Go.Sort.get_flatK _ _ _ _ (by simpa using ht)];have e:(d.map Subtype.val)[t / 2]? = some (d[t / 2]).1:=by simp[hlt]
 rw[QKk _ _ _ e];have e2:d.toArray[t / 2]! = d[t / 2]:=by simp[hlt]
 rw[e2];unfold encR copV;rcases Nat.mod_two_eq_zero_or_one t with h|h
 ·rw[h];rfl
 ·rw[h];rfl
theorem QJo {w:World}{n g:Nat}{F:Array Value}{os:Array Obj}{cur:Array Value}{t:TypeId}{fr:Nat×Nat}(hg:w.heap[g]? = some (.cells cur t fr)):
  (Sort.grow (Sort.putRow id (Sort.ahead w n) g 0 F) os).heap[g]? = some (.cells (Sort.putCells id 0 F cur) t fr):=by
 have hlt:=Qb hg;rw[Sort.heap_grow_old _ _ (by simpa using hlt)];unfold Sort.putRow Sort.mapBlock;simp[Array.getElem?_modify,Sort.ahead,hg,Sort.onCells]
theorem QOm {w:World}{n g k:Nat}{F:Array Value}{os:Array Obj}(hk:k<w.heap.size)(hne:k≠g):
  (Sort.grow (Sort.putRow id (Sort.ahead w n) g 0 F) os).heap[k]? = w.heap[k]?:=by
 rw[Sort.heap_grow_old _ _ (by simpa using hk)];unfold Sort.putRow Sort.mapBlock;simp[Array.getElem?_modify,Sort.ahead,Ne.symm hne]
theorem Qpt (a1 a2 b1 b2:Int)(ha:0≤a1∧a1≤1000)(hb:0≤b1∧b1≤1000)(w:World):
  Calls Tryz.prog 113 #[.agg #[iv a1,iv a2],.agg #[iv b1,iv b2]] w fun e w'=>e=.returned (iv (a1-b1))∧∃q os',w'=Sort.grow (w.drewN q) os':=by
 have hw:IntKind.i64.wrap (a1-b1)=a1-b1:=by apply IntWalk.i64_in <;> omega
 go_enter Tryz.func113,Tryz.ntmps113;go_wp2;go_ret;exact⟨rfl,0,_,by rw[Go.Sort.alloc_eq_grow,Go.Sort.alloc_eq_grow,Go.Sort.grow_grow];rfl⟩
theorem QLs (g off size:Nat)(w:World):CmpLays Tryz.prog 113 #[] encR 2 cfR g off size w:=
 fun _ _ _ _ x y=>Qpt x.1.1 x.1.2 y.1.1 y.1.2 x.2 y.2 _
theorem QIp (n:Nat)(W:World)(h:n≤12):Calls Tryz.prog 166 #[.int .u64 n] W fun e w'=>(∃l:Int,e=.returned (.int .i64 l))∧w'=W:=
 (Any.bits_Len Tryz.lays125 n W ZO ZO).mono fun _ _ ⟨he,hw⟩=>⟨⟨_,he⟩,hw⟩
theorem QFm (p:Option Addr)(cap:Nat)(fv:Value)(w:World):Calls Tryz.prog 208 #[.slice p 0 cap,iv 0,iv 0,fv] w fun e w'=>e=.returned (.tuple #[])∧w'=w:=by
 go_enter Tryz.func208,Tryz.ntmps208;go_wp2;refine wp_loop_rounds 1 ?_;rw[rounds_succ];go_wp2;go_end0;exact⟨rfl,rfl⟩
theorem Qhm (p:Option Addr)(cap:Nat)(lim:Int)(fv:Value)(w:World):Calls Tryz.prog 167 #[.slice p 0 cap,iv 0,iv 0,iv lim,fv] w fun e w'=>e=.returned (.tuple #[])∧w'=w:=by
 have K:=fun W=>QFm p cap fv W
 go_enter Tryz.func167,Tryz.ntmps167;go_wp2;refine wp_loop_rounds 1 ?_;rw[rounds_succ];go_wp2_with (go_at_call 208;refine(K _).mono ?_;rintro e w' ⟨rfl,rfl⟩)
 (try simp only[Exit.inBlock,Exit.then]);refine bodyPost_ret (results_none rfl _ _ _) rfl ?_
 exact⟨rfl,rfl⟩
theorem Qal (p:Option Addr)(cap:Nat)(fv:Value)(w:World):Calls Tryz.prog 112 #[.slice p 0 cap,fv] w fun e w'=>e=.returned (.tuple #[])∧w'=w:=by
 have K:=fun lim W=>Qhm p cap lim fv W
 have KL:=QIp 0 w ZO;go_enter Tryz.func112,Tryz.ntmps112;go_wp2_with (first|(go_at_call 166;refine KL.mono ?_;rintro e w' ⟨⟨l,rfl⟩,rfl⟩)|(go_at_call 167;refine(K _ _).mono ?_;rintro e w' ⟨rfl,rfl⟩));go_end0;exact⟨rfl,rfl⟩
theorem Qpq {z:Nat}(l:List Cp)(v:Value)(w:World)(hin:∀c∈l,0≤c.1∧c.1≤1000)(hl:l.length≤12)(ho:Qya z w v l):
  Calls Tryz.prog 112 #[v,.func (.func 113) #[] #[]] w
   fun e w'=>e=.returned (.tuple #[])∧∃l',Qya z w' v l'∧l'.Perm l∧(l'.Pairwise fun a b=>a.1≤b.1)∧w.grownBy w' v.ownBlock:=by
 obtain⟨h1,h2⟩:=ho;rcases h2 with⟨rfl,h0⟩|⟨g,cap,cur,rfl,hg,hh,hn,hc,hs,ht⟩
 ·have hl0:l=[]:=List.length_eq_zero_iff.1 h0;subst hl0;refine(Qal none 0 _ w).mono ?_;rintro e w' ⟨rfl,rfl⟩;exact⟨rfl,[],Qya.nil,List.Perm.nil,List.Pairwise.nil,⟨rfl,rfl,rfl,Nat.le_refl _,fun _ _ _=>rfl⟩⟩
 ·obtain⟨L,hL⟩:∃L:List CpR,L.map Subtype.val=l:=⟨l.pmap Subtype.mk hin,by simp[List.map_pmap]⟩;have hLl:L.length=l.length:=by rw[←hL,List.length_map]
  have hlt:=Qb hh;have hcur:∀j,j<l.length*2→cur[j]? =(QHa l)[j]?:=fun j hj=>by
   have e:(cur.toList.take (l.length*2))[j]? =(QHa l)[j]?:=by rw[ht]
   rw[List.getElem?_take_of_lt hj] at e
   simpa using e
  have hH:Go.Sort.HoldsK encR 2 w g 0 L.toArray:=fun j hj=>by
   have hj':j<l.length*2:=by simpa [hLl] using hj
   refine⟨?_,by simp[World.frozen?,hh]⟩;have h3:=QHk L j (by rw[hLl];exact hj');rw[hL,←hcur j hj'] at h3;simp only[Nat.zero_add,World.cell?,hh]
   simpa using h3
  have hcon:=AnyQ.slices_SortFunc_small Tryz.laysSlsf6 2 Tryz.isAgg119 Tryz.sizeOf119 encR (fun _=>rfl) (fun x v hv=>by simp[encR,copV] at hv;rcases hv with rfl|rfl <;> rfl) cfR 113 #[] g 0 cap L.toArray w (enters_of Tryz.func113 ZK rfl) (QLs g 0 _ w) hH hlt (by simp[hLl];omega) QIp
  change Calls Tryz.prog 112 #[.slice (some ⟨g,0,none⟩) L.length cap,_] _ _ at hcon
  rw[hLl] at hcon;refine hcon.mono ?_;rintro e w' ⟨rfl,n,os,rfl⟩;obtain⟨hp,hso⟩:=Go.Sort.insertionSort_holds swoR L.toArray 0 L.toArray.size (Nat.zero_le _) (Nat.le_refl _);obtain⟨R,hR⟩:∃R:List CpR,Go.Sort.insertionSort (ltOf cfR) L.toArray 0 L.toArray.size=R.toArray:=⟨_,(Array.toArray_toList).symm⟩;rw[hR] at hp hso ⊢;have hRl:R.length=L.length:=by simpa using hp.1
  have hperm:R.Perm L:=by
   have h3:=hp.2.2;have h4:(List.take L.length R).Perm L:=by simpa using h3
   rwa [List.take_of_length_le ZO] at h4
  refine⟨rfl,R.map Subtype.val,⟨?_,.inr ⟨g,cap,Sort.putCells id 0 (Go.Sort.flatK encR 2 R.toArray) cur,by rw[List.length_map,hRl,hLl],hg,QJo hh,by rw[List.length_map,hRl,hLl];exact hn,hc,by simp[Sort.putCells,hs],?_⟩⟩,?_,?_,?_⟩
  ·rw[QHa,List.length_flatten,List.map_map];have:∀l:List Cp,(l.map (List.length ∘ copV)).sum=l.length*2:=fun l=>by
    induction l with
   |nil=>rfl
   |cons c r ih=>simp[ih,copV];omega
   exact this _
  ·apply List.ext_getElem?;intro j;have hsz:cur.size=cap*2:=hs;rcases Nat.lt_or_ge j (R.length*2) with hj|hj
   ·rw[List.getElem?_take_of_lt (by rw[List.length_map];exact hj),QHk R j hj];have hjc:j<cur.size:=by omega
    simp[Sort.putCells,hjc,hj]
   ·rw[List.getElem?_eq_none (by rw[List.length_take,List.length_map];omega)];rw[List.getElem?_eq_none];have:∀l:List Cp,(QHa l).length=l.length*2:=fun l=>by
     induction l with
    |nil=>rfl
    |cons c r ih=>simp[QHa,copV] at ih ⊢;omega
    rw[this,List.length_map];exact hj
  ·rw[←hL];exact hperm.map _
  ·rw[List.pairwise_map,List.pairwise_iff_getElem];intro i j hi hj hij;have h3:=hso i j (Nat.zero_le _) hij (by simp;omega);have e1:R.toArray[i]! = R[i]:=by simp[hi]
   have e2:R.toArray[j]! = R[j]:=by simp[hj]
   rw[e1,e2] at h3;rw[ltR] at h3;simp only[decide_eq_false_iff_not] at h3;omega
  ·exact⟨rfl,rfl,rfl,by show _≤(Sort.grow (Sort.putRow id (Sort.ahead w n) g 0 _) os).heap.size;simp,fun k hk hne=>QOm hk fun e=>hne (by rw[e];rfl)⟩
end
end Go.Proofs.YtijekimobahgpaaGreatDoor
