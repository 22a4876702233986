/- A part of the proof. -/
import Derived.Test.YtijekimobahgpaaGreatDoorVa24
set_option linter.unusedVariables false
set_option linter.unusedSimpArgs false
set_option linter.unusedSectionVars false
set_option maxRecDepth 100000
set_option maxHeartbeats 16000000
namespace Go.Proofs.YtijekimobahgpaaGreatDoor
section
open Go.RowKit
variable [Base]
def rz (m:Nat):Array Value:=(List.replicate m (Value.slice none 0 0)).toArray
theorem Qus:(Tryz.prog.info? IT).map (fun i=>(i.zero,i.size,i.bytes))=some (some (Value.slice none 0 0),1,24):=by kernel_rfl
theorem Qak (k:Nat)(hk:k≤1000)(w:World):
  (Instr.makeSlice 32 (.int .i64 (k:Int)) (.int .i64 (k:Int))).run Tryz.prog w=.ok (.slice (some ⟨w.heap.size,0,none⟩) k k) (w.alloc (.cells (rz k) IT)):=by
 obtain⟨i,hi,hz,hs1,hs2⟩:=info_parts Qus;have h:=run_makeSlice (P:=Tryz.prog) w 32 IT i _ Tryz.underlying32 hi hz .i64 .i64 (k:Int) (k:Int) ZO (Int.le_refl _) (by rw[hs1];omega) (by rw[hs2];omega) ZO;rw[h,hs1];simp only[Int.toNat_natCast,Nat.mul_one]
 congr 3
 unfold rz madeCells;apply Array.ext
 ·simp[Value.cells]
 ·intro j h1 h2;simp[Value.cells,Nat.mod_one]
theorem QHi {b:Nat}{w:World}{v0 v1 v2:Value}{t:TypeId}(h:w.heap[b]? = some (.cells #[v0,v1,v2] t (0,0))):
  w.cell? ⟨b,0,none⟩=some v0∧w.cell? ⟨b,1,none⟩=some v1∧w.cell? ⟨b,2,none⟩=some v2:=by
 simp[World.cell?,h]
theorem QWt {w:World}{b:Nat}{a0 a1 a2:Value}{t:TypeId}{fr:Nat×Nat}(h:w.heap[b]? = some (.cells #[a0,a1,a2] t fr))(x0 x1 x2:Value):
  (((w.setCell ⟨b,0,none⟩ x0).setCell ⟨b,1,none⟩ x1).setCell ⟨b,2,none⟩ x2).heap[b]? = some (.cells #[x0,x1,x2] t fr):=by
 simp[World.setCell,Array.getElem?_modify,h]
def Qit (p:List Qo)(w:World)(e:Ending)(w':World):Prop:=∃nv sv pv,e=.returned (.tuple #[.agg #[nv,sv,pv],iv (QFa p)])∧QJi w' nv (QR p)∧Qoa Qqc w' sv (Qkc p)∧Qoa Qqc w' pv (Qmc p)∧Below w.heap.size w w'
theorem new3 (w:World)(a b c:Obj):(((w.alloc a).alloc b).alloc c).heap[w.heap.size]? = some a∧(((w.alloc a).alloc b).alloc c).heap[w.heap.size+1]? = some b∧(((w.alloc a).alloc b).alloc c).heap[w.heap.size+1+1]? = some c∧(((w.alloc a).alloc b).alloc c).heap.size=w.heap.size+1+1+1∧Below w.heap.size w (((w.alloc a).alloc b).alloc c):=by
 refine⟨Qfa _ (Qfa _ (heap_alloc_new w a)),Qfa _ ?_,?_,by simp,((Zb).alloc ZS _).alloc (by simp;omega) _⟩
 ·have:=heap_alloc_new (w.alloc a) b
  rwa [World.size_alloc] at this
 ·have:=heap_alloc_new ((w.alloc a).alloc b) c
  rwa [World.size_alloc,World.size_alloc] at this
structure QBh (z bt sb pb mb m:Nat)(nv:Value)(w w':World):Prop where
 bl:w'.heap[bt]? = some (.cells #[nv,.slice (some ⟨sb,0,none⟩) m m,.slice (some ⟨pb,0,none⟩) m m,.map (some mb)] BT (0,0))
 sl:w'.heap[sb]? = some (.cells (rz m) IT (0,0))
 pl:w'.heap[pb]? = some (.cells (rz m) IT (0,0))
 ml:NumM w' mb 0 []
 zs:z≤bt∧z≤sb∧z≤pb∧z≤mb
 ne:sb≠pb
 below:Below z w w'
theorem QBh.mk3 {z bt sb pb mb m:Nat}{nv:Value}{w V:World}(hs:V.heap[sb]? = some (.cells (rz m) IT (0,0)))(hp:V.heap[pb]? = some (.cells (rz m) IT (0,0)))(hm:V.heap[mb]? = some (.map #[] 0))(hz:z≤sb∧z≤pb∧z≤mb)(hne:sb≠pb)(hb:Below z w V)(hbt:V.heap.size=bt):
  QBh z bt sb pb mb m nv w (V.alloc (.cells #[nv,.slice (some ⟨sb,0,none⟩) m m,.slice (some ⟨pb,0,none⟩) m m,.map (some mb)] BT)):=by
 subst hbt;have hlt:=Qb hs;refine⟨heap_alloc_new _ _,Qfa _ hs,Qfa _ hp,?_,⟨by omega,hz.1,hz.2.1,hz.2.2⟩,hne,hb.alloc ZO _⟩;obtain⟨th,h⟩:∃th,MapG QDp Qwo V mb 0 (numN []) th:=by
  refine⟨fun _=>false,.map [],⟨#[],0,hm,?_⟩,fun k _ l _=>⟨?_,rfl⟩⟩
  ·have:=(World.ownsMap_made V Tryz.prog NT Qwo.R);obtain⟨es,c,h1,h2⟩:=this;rw[heap_alloc_new] at h1;injection h1 with h1
   injection h1 with h1 h3
   subst h1 h3;exact h2
  ·rw[Qds];rfl
 exact⟨th,h.block (Below.heap_alloc _ _ _ (Qb hm))⟩
theorem Qvk {p:List Qo}(hck:QFa p=0){n:Qx}(h:n∈QB p 0):fitN n:=by
 have hfew:=QUc (Qzb hck).valid;obtain⟨i,f,hf,h⟩:=QLb.1 h;have hi:i<p.length:=(List.getElem?_eq_some_iff.1 hf).1;have hff:=hfew.2 f (List.mem_of_getElem? hf);rcases h with rfl|rfl|⟨k,b,j,s,hb,hs,h⟩
 ·exact⟨by unfold fitI;dsimp only;omega,by unfold fitI;dsimp only;omega,by unfold fitI;dsimp only;omega,by unfold fitI;dsimp only;omega⟩
 ·exact⟨by unfold fitI;dsimp only;omega,by unfold fitI;dsimp only;omega,by unfold fitI;dsimp only;omega,by unfold fitI;dsimp only;omega⟩
 ·have hk:k<f.blocks.length:=(List.getElem?_eq_some_iff.1 hb).1;have hj:j<b.stmts.length:=(List.getElem?_eq_some_iff.1 hs).1;have hb32:=hff.2 b (List.mem_of_getElem? hb);rcases h with rfl|⟨-,rfl⟩
  ·exact⟨by unfold fitI;dsimp only;omega,by unfold fitI;dsimp only;omega,by unfold fitI;dsimp only;omega,by unfold fitI;dsimp only;omega⟩
  ·exact⟨by unfold fitI;dsimp only;omega,by unfold fitI;dsimp only;omega,by unfold fitI;dsimp only;omega,by unfold fitI;dsimp only;omega⟩
theorem Qzq (z:Nat)(w:World){m k:Nat}(hk:k=m):QRd z w (List.replicate m (Value.slice none 0 0)++List.replicate m (Value.slice none 0 0)) (List.replicate k []++List.replicate k []):=by
 subst hk;have hv:∀(i:Nat) (v:Value),(List.replicate k (Value.slice none 0 0)++List.replicate k (Value.slice none 0 0))[i]? = some v→v=.slice none 0 0:=fun i v h=>by
  have:=List.mem_of_getElem? h;simp at this;exact this.2
 refine⟨by simp,fun i v r h1 h2=>?_,fun i j v u b _ h1 h2 h3=>?_⟩
 ·obtain rfl:=hv i v h1;have:=List.mem_of_getElem? h2;simp at this;obtain rfl:r=[]:=this.2;simp[World.ownsRow]
 ·obtain rfl:=hv i v h1;simp[Value.ownBlock] at h3
theorem Qrr {B:Nat}{w:World}(kw:KwIn B w)(hB:B≤w.heap.size)(p:List Qo)(v:Value)(h:QAa w v p)(hf:∀f∈p,∀b∈f.blocks,∀s∈b.stmts,FitS s):
  Calls Tryz.prog 44 #[.agg #[v]] w (Qit p w):=by
 obtain⟨z,hz⟩:=Ze w.heap.size;have hbz:Base.b≤z:=by have:=kw.bs;omega
 have HV:=Zh (fun (x:World) (b:Below z w x)=>QYh (kw.keep fun k hk=>b.block k ZO) (by have:=b.size;omega) p v (h.keep (Qf.below (hz▸b)) (Qf.below (hz▸b)) (Qf.below (hz▸b)) (Qf.below (hz▸b))) hf);have HLI:=Zh (fun (x:World) (b:Below z w x)=>Qyj (kw.keep fun k hk=>b.block k ZO) (by have:=b.size;omega) p v (h.keep (Qf.below (hz▸b)) (Qf.below (hz▸b)) (Qf.below (hz▸b)) (Qf.below (hz▸b))) hf);have HPP:=Zh h;have HSORT:=Zh Qqt;obtain⟨a,c,rfl,hn,hc⟩:=h.cell;have HC:=Zh hc;obtain⟨n,hl⟩:=Ze p.length;rw[hl] at hn HV HLI HPP ⊢;have HL:=Zh hl;obtain⟨W,hW⟩:=Ze ((w.alloc (.cells #[.slice a n c] 25)).alloc (.cells #[.slice none 0 0,.slice none 0 0,.slice none 0 0] 46));have HPB:=Zh (show W.heap[z]? = some (.cells #[.slice a n c] 25 (0,0)) by rw[←hW,←hz];exact Qfa _ (heap_alloc_new _ _));have HRB:=Zh (show W.heap[z+1]? = some (.cells #[.slice none 0 0,.slice none 0 0,.slice none 0 0] 46 (0,0)) by rw[←hW,←hz];have:=heap_alloc_new (w.alloc (.cells #[.slice a n c] 25)) (.cells #[.slice none 0 0,.slice none 0 0,.slice none 0 0] 46);rwa [World.size_alloc] at this);have BW:=Zh (show Below z w W by rw[←hW,←hz];exact(Zb).alloc ZS _);have HWW:=Zh hW;have HZ:=Zh hz;obtain⟨er,her⟩:=Ze (QFa p);rw[her] at HV;have HER:=Zh her;clear h hc hW kw hf hl her;have x0:=(Qd HPB.o).1 0;simp at x0;go_enter Tryz.func44,Tryz.ntmps44;go_upto_region 1 with(fail)
 rw[show(w.alloc (.cells #[.slice a n c] 25)).alloc (.cells #[.slice none 0 0,.slice none 0 0,.slice none 0 0] 46)=W from HWW.o]
 try rw[hz]
 go_wp2_with fail;refine(HV.o W BW.o).mono ?_;rintro e w1 ⟨na,nb,nc,nd,rfl,b1⟩;have b2:=b1.trans (((Below.refl w1.heap.size w1).alloc (Nat.le_refl _) (.cells #[iv na,iv nb,iv nc,iv nd] 108)).mono b1.size);obtain⟨w2,hw2⟩:=Ze (w1.alloc (.cells #[iv na,iv nb,iv nc,iv nd] 108));have HW2:=Zh hw2;rw[hw2] at b2;have HP2:=Zh (Qc HPB.o b2 (Qb HPB.o));have HR2:=Zh (Qc HRB.o b2 (Qb HRB.o));have zW:z≤W.heap.size:=by have:=BW.o.size;omega
 have HB2:=Zh (BW.o.trans (b2.mono zW));have zw2:z≤w2.heap.size:=by have:=HB2.o.size;omega
 clear b1 b2 hw2 x0 zW;by_cases he:er=0;rotate_left
 ·have hne:(er != 0)=true:=by simpa using he
  have HNP:=Zh (show QR p=[] by unfold QR;rw[HER.o,if_neg he]);have HSP:=Zh (show Qkc p=[] by unfold Qkc;rw[HNP.o];rfl);have HPD:=Zh (show Qmc p=[] by unfold Qmc;rw[HNP.o];rfl);clear he;obtain⟨r0,r1,r2⟩:=QHi HR2.o;have fr:=(Qa HR2.o).2;go_upto_region 2 with(fail)
  rw[show w1.alloc (.cells #[iv na,iv nb,iv nc,iv nd] 108)=w2 from HW2.o];go_wp2;obtain⟨z0,z1,z2⟩:=QHi (QWt HR2.o (.slice none 0 0) (.slice none 0 0) (.slice none 0 0));refine bodyPost_ret (v:=.tuple #[.agg #[.slice none 0 0,.slice none 0 0,.slice none 0 0],iv er]) (by simp[results,Tryz.results44,go_sem,z0,z1,z2]) rfl ⟨_,_,_,by rw[HER.o],?_,?_,?_,?_⟩
  ·rw[HNP.o];exact Qg.nil
  ·rw[HSP.o];exact Qoa.nil
  ·rw[HPD.o];exact Qoa.nil
  ·rw[HZ.o];exact(((HB2.o).setCell (by show z≤z+1;omega) _).setCell (by show z≤z+1;omega) _).setCell (by show z≤z+1;omega) _
 have hne:(er != 0)=false:=by simpa using he
 have hck0:=Zh (show QFa p=0 by rw[HER.o,he]);have HNP:=Zh (show QR p=QB p 0 from Qne hck0.o);have hle:(QB p 0).length≤256:=by rw[←HNP.o];exact Qme
 have hpos:1≤(QB p 0).length:=by rw[←HNP.o];exact Quk hck0.o
 clear he;go_upto_region 4 with(fail)
 rw[show w1.alloc (.cells #[iv na,iv nb,iv nc,iv nd] 108)=w2 from HW2.o];have x0:=(Qd HP2.o).1 0;simp at x0;go_wp2_with fail;refine(HLI.o w2 HB2.o).mono ?_;rintro e w3 ⟨lv,rfl,ho,b3⟩;obtain⟨la,lc,rfl,hl63,hl64,hl65,-⟩:=ho.at_.cell;rw[HNP.o] at ho hl63 ⊢;have HNA:=Zh ho.at_;obtain⟨N,hN⟩:=Ze (QB p 0);have HNN:=Zh hN;rw[hN] at ho HNA hle hpos ⊢;obtain⟨m,hm⟩:=Ze N.length;have HM:=Zh hm;rw[hm] at HNA hle hpos ⊢;have HP3:=Zh (Qc HP2.o b3 (Qb HP2.o));have HR3:=Zh (Qc HR2.o b3 (Qb HR2.o));have HB3:=Zh (HB2.o.trans (b3.mono zw2));have zw3:z≤w3.heap.size:=by have:=b3.size;omega
 clear b3 ho x0 hN hm hl63 hl64 hl65;have hmk:=fun (x:World)=>Qak m ZO x
 have hmm:=@run_makeMap Tryz.prog;go_upto_region 5 with(fail)
 go_cut [7] from 24 to 34 (fun s7 wx=>∃bt sb pb mb:Nat,s7=.pointer (some ⟨bt,0,none⟩)∧Hid (QBh w3.heap.size bt sb pb mb m (.slice la m lc) w3 wx))
 case first=>
  refine QK (S:=fun _=>True) (st:=11) ZK ?_;refine Zp 0 ?z0 trivial ?rz0 ?sz0
  case rz0=>intro w hS;go_simp;rfl
  case sz0=>
  refine Zp 1 ?z1 trivial ?rz1 ?sz1
  case rz1=>intro w hS;go_simp;rfl
  case sz1=>
  refine Zp 2 ?z2 trivial ?rz2 ?sz2
  case rz2=>intro w hS;go_simp;rfl
  case sz2=>
  refine Zp 4 ?z4 trivial ?rz4 ?sz4
  case rz4=>intro w hS;go_simp;rfl
  case sz4=>
  refine Zp 5 ?z5 trivial ?rz5 ?sz5
  case rz5=>intro w hS;go_simp;rfl
  case sz5=>
  refine Qh (rs:=[3,6,8]) ZK ZD ?_;intro i hi;have hi2:i=3∨i=6∨i=8:=by simpa using hi
  clear hi;rcases hi2 with rfl|rfl|rfl
  ·refine Ql rfl ?_;go_wp2;refine⟨fun _=>trivial,?_⟩;refine Qh (rs:=[6,8]) ZK ZD ?_;intro i hi;have hi2:i=6∨i=8:=by simpa using hi
   clear hi;rcases hi2 with rfl|rfl
   ·refine Ql rfl ?_;go_wp2;refine⟨fun _=>trivial,?_⟩;refine Zp 7 ?z7_0 trivial ?rz7_0 ?sz7_0
    case rz7_0=>intro w hS;go_simp;rfl
    case sz7_0=>
    refine Zt 8 ?_;refine Ql rfl ?_;go_wp2;refine⟨fun _=>trivial,?_⟩;refine Zp 9 ?z9_1 trivial ?rz9_1 ?sz9_1
    case rz9_1=>intro w hS;go_simp;rfl
    case sz9_1=>
    obtain⟨q1,q2,q3,q4,q5⟩:=new3 (w3.drewN 1) (.cells (rz m) IT) (.cells (rz m) IT) (.map #[] 0);have FR:=Zh (QBh.mk3 (z:=w3.heap.size) (m:=m) (nv:=.slice la m lc) (w:=w3.drewN 1) q1 q2 q3 (by show w3.heap.size≤w3.heap.size∧w3.heap.size≤(w3.heap.size+1)∧w3.heap.size≤(w3.heap.size+1+1);omega) (by show w3.heap.size≠(w3.heap.size+1);omega) q5 q4);clear q1 q2 q3 q4 q5;refine Zt 10 ?_;refine Ql rfl ?_;go_wp2;refine⟨fun _=>trivial,?_⟩;refine Zt 11 ?_;refine Ql rfl ?_;go_wp2;refine⟨fun h=>absurd rfl h,?_⟩;refine Qu ZK ?_ _;go_wp2;go_meet
    case rel=>exact⟨_,w3.heap.size,(w3.heap.size+1),(w3.heap.size+1+1),rfl,⟨FR.o.bl,FR.o.sl,FR.o.pl,FR.o.ml,FR.o.zs,FR.o.ne,⟨FR.o.below.os,FR.o.below.tape,FR.o.below.output,FR.o.below.size,FR.o.below.block⟩⟩⟩
   ·refine Ql rfl ?_;go_wp2;refine⟨fun _=>trivial,?_⟩;refine Zt 6 ?_;refine Ql rfl ?_;go_wp2;refine⟨fun _=>trivial,?_⟩;refine Zp 7 ?z7_2 trivial ?rz7_2 ?sz7_2
    case rz7_2=>intro w hS;go_simp;rfl
    case sz7_2=>
    refine Zp 9 ?z9_3 trivial ?rz9_3 ?sz9_3
    case rz9_3=>intro w hS;go_simp;rfl
    case sz9_3=>
    obtain⟨q1,q2,q3,q4,q5⟩:=new3 (w3.drewN 1) (.cells (rz m) IT) (.map #[] 0) (.cells (rz m) IT);have FR:=Zh (QBh.mk3 (z:=w3.heap.size) (m:=m) (nv:=.slice la m lc) (w:=w3.drewN 1) q1 q3 q2 (by show w3.heap.size≤w3.heap.size∧w3.heap.size≤(w3.heap.size+1+1)∧w3.heap.size≤(w3.heap.size+1);omega) (by show w3.heap.size≠(w3.heap.size+1+1);omega) q5 q4);clear q1 q2 q3 q4 q5;refine Zt 10 ?_;refine Ql rfl ?_;go_wp2;refine⟨fun _=>trivial,?_⟩;refine Zt 11 ?_;refine Ql rfl ?_;go_wp2;refine⟨fun h=>absurd rfl h,?_⟩;refine Qu ZK ?_ _;go_wp2;go_meet
    case rel=>exact⟨_,w3.heap.size,(w3.heap.size+1+1),(w3.heap.size+1),rfl,⟨FR.o.bl,FR.o.sl,FR.o.pl,FR.o.ml,FR.o.zs,FR.o.ne,⟨FR.o.below.os,FR.o.below.tape,FR.o.below.output,FR.o.below.size,FR.o.below.block⟩⟩⟩
  ·refine Ql rfl ?_;go_wp2;refine⟨fun _=>trivial,?_⟩;refine Qh (rs:=[3,8]) ZK ZD ?_;intro i hi;have hi2:i=3∨i=8:=by simpa using hi
   clear hi;rcases hi2 with rfl|rfl
   ·refine Ql rfl ?_;go_wp2;refine⟨fun _=>trivial,?_⟩;refine Zp 7 ?z7_4 trivial ?rz7_4 ?sz7_4
    case rz7_4=>intro w hS;go_simp;rfl
    case sz7_4=>
    refine Zt 8 ?_;refine Ql rfl ?_;go_wp2;refine⟨fun _=>trivial,?_⟩;refine Zp 9 ?z9_5 trivial ?rz9_5 ?sz9_5
    case rz9_5=>intro w hS;go_simp;rfl
    case sz9_5=>
    obtain⟨q1,q2,q3,q4,q5⟩:=new3 (w3.drewN 1) (.cells (rz m) IT) (.cells (rz m) IT) (.map #[] 0);have FR:=Zh (QBh.mk3 (z:=w3.heap.size) (m:=m) (nv:=.slice la m lc) (w:=w3.drewN 1) q2 q1 q3 (by show w3.heap.size≤(w3.heap.size+1)∧w3.heap.size≤w3.heap.size∧w3.heap.size≤(w3.heap.size+1+1);omega) (by show(w3.heap.size+1)≠w3.heap.size;omega) q5 q4);clear q1 q2 q3 q4 q5;refine Zt 10 ?_;refine Ql rfl ?_;go_wp2;refine⟨fun _=>trivial,?_⟩;refine Zt 11 ?_;refine Ql rfl ?_;go_wp2;refine⟨fun h=>absurd rfl h,?_⟩;refine Qu ZK ?_ _;go_wp2;go_meet
    case rel=>exact⟨_,(w3.heap.size+1),w3.heap.size,(w3.heap.size+1+1),rfl,⟨FR.o.bl,FR.o.sl,FR.o.pl,FR.o.ml,FR.o.zs,FR.o.ne,⟨FR.o.below.os,FR.o.below.tape,FR.o.below.output,FR.o.below.size,FR.o.below.block⟩⟩⟩
   ·refine Ql rfl ?_;go_wp2;refine⟨fun _=>trivial,?_⟩;refine Zt 3 ?_;refine Ql rfl ?_;go_wp2;refine⟨fun _=>trivial,?_⟩;refine Zp 7 ?z7_6 trivial ?rz7_6 ?sz7_6
    case rz7_6=>intro w hS;go_simp;rfl
    case sz7_6=>
    refine Zp 9 ?z9_7 trivial ?rz9_7 ?sz9_7
    case rz9_7=>intro w hS;go_simp;rfl
    case sz9_7=>
    obtain⟨q1,q2,q3,q4,q5⟩:=new3 (w3.drewN 1) (.cells (rz m) IT) (.map #[] 0) (.cells (rz m) IT);have FR:=Zh (QBh.mk3 (z:=w3.heap.size) (m:=m) (nv:=.slice la m lc) (w:=w3.drewN 1) q3 q1 q2 (by show w3.heap.size≤(w3.heap.size+1+1)∧w3.heap.size≤w3.heap.size∧w3.heap.size≤(w3.heap.size+1);omega) (by show(w3.heap.size+1+1)≠w3.heap.size;omega) q5 q4);clear q1 q2 q3 q4 q5;refine Zt 10 ?_;refine Ql rfl ?_;go_wp2;refine⟨fun _=>trivial,?_⟩;refine Zt 11 ?_;refine Ql rfl ?_;go_wp2;refine⟨fun h=>absurd rfl h,?_⟩;refine Qu ZK ?_ _;go_wp2;go_meet
    case rel=>exact⟨_,(w3.heap.size+1+1),w3.heap.size,(w3.heap.size+1),rfl,⟨FR.o.bl,FR.o.sl,FR.o.pl,FR.o.ml,FR.o.zs,FR.o.ne,⟨FR.o.below.os,FR.o.below.tape,FR.o.below.output,FR.o.below.size,FR.o.below.block⟩⟩⟩
  ·refine Ql rfl ?_;go_wp2;refine⟨fun _=>trivial,?_⟩;refine Qh (rs:=[3,6]) ZK ZD ?_;intro i hi;have hi2:i=3∨i=6:=by simpa using hi
   clear hi;rcases hi2 with rfl|rfl
   ·refine Ql rfl ?_;go_wp2;refine⟨fun _=>trivial,?_⟩;refine Zt 6 ?_;refine Ql rfl ?_;go_wp2;refine⟨fun _=>trivial,?_⟩;refine Zp 7 ?z7_8 trivial ?rz7_8 ?sz7_8
    case rz7_8=>intro w hS;go_simp;rfl
    case sz7_8=>
    refine Zp 9 ?z9_9 trivial ?rz9_9 ?sz9_9
    case rz9_9=>intro w hS;go_simp;rfl
    case sz9_9=>
    obtain⟨q1,q2,q3,q4,q5⟩:=new3 (w3.drewN 1) (.map #[] 0) (.cells (rz m) IT) (.cells (rz m) IT);have FR:=Zh (QBh.mk3 (z:=w3.heap.size) (m:=m) (nv:=.slice la m lc) (w:=w3.drewN 1) q2 q3 q1 (by show w3.heap.size≤(w3.heap.size+1)∧w3.heap.size≤(w3.heap.size+1+1)∧w3.heap.size≤w3.heap.size;omega) (by show(w3.heap.size+1)≠(w3.heap.size+1+1);omega) q5 q4);clear q1 q2 q3 q4 q5;refine Zt 10 ?_;refine Ql rfl ?_;go_wp2;refine⟨fun _=>trivial,?_⟩;refine Zt 11 ?_;refine Ql rfl ?_;go_wp2;refine⟨fun h=>absurd rfl h,?_⟩;refine Qu ZK ?_ _;go_wp2;go_meet
    case rel=>exact⟨_,(w3.heap.size+1),(w3.heap.size+1+1),w3.heap.size,rfl,⟨FR.o.bl,FR.o.sl,FR.o.pl,FR.o.ml,FR.o.zs,FR.o.ne,⟨FR.o.below.os,FR.o.below.tape,FR.o.below.output,FR.o.below.size,FR.o.below.block⟩⟩⟩
   ·refine Ql rfl ?_;go_wp2;refine⟨fun _=>trivial,?_⟩;refine Zt 3 ?_;refine Ql rfl ?_;go_wp2;refine⟨fun _=>trivial,?_⟩;refine Zp 7 ?z7_10 trivial ?rz7_10 ?sz7_10
    case rz7_10=>intro w hS;go_simp;rfl
    case sz7_10=>
    refine Zp 9 ?z9_11 trivial ?rz9_11 ?sz9_11
    case rz9_11=>intro w hS;go_simp;rfl
    case sz9_11=>
    obtain⟨q1,q2,q3,q4,q5⟩:=new3 (w3.drewN 1) (.map #[] 0) (.cells (rz m) IT) (.cells (rz m) IT);have FR:=Zh (QBh.mk3 (z:=w3.heap.size) (m:=m) (nv:=.slice la m lc) (w:=w3.drewN 1) q3 q2 q1 (by show w3.heap.size≤(w3.heap.size+1+1)∧w3.heap.size≤(w3.heap.size+1)∧w3.heap.size≤w3.heap.size;omega) (by show(w3.heap.size+1+1)≠(w3.heap.size+1);omega) q5 q4);clear q1 q2 q3 q4 q5;refine Zt 10 ?_;refine Ql rfl ?_;go_wp2;refine⟨fun _=>trivial,?_⟩;refine Zt 11 ?_;refine Ql rfl ?_;go_wp2;refine⟨fun h=>absurd rfl h,?_⟩;refine Qu ZK ?_ _;go_wp2;go_meet
    case rel=>exact⟨_,(w3.heap.size+1+1),(w3.heap.size+1),w3.heap.size,rfl,⟨FR.o.bl,FR.o.sl,FR.o.pl,FR.o.ml,FR.o.zs,FR.o.ne,⟨FR.o.below.os,FR.o.below.tape,FR.o.below.output,FR.o.below.size,FR.o.below.block⟩⟩⟩
 case rest=>
  clear hmk hmm;obtain⟨bt,sb,pb,mb,rfl,HFR⟩:=hcut;obtain⟨q3,hq3⟩:=Ze w3.heap.size;have HQ3:=Zh hq3;rw[hq3] at HFR zw3;have hbq:Base.b≤q3:=by omega
  have HP3w:=Zh (Qc HP3.o (hq3▸HFR.o.below) (Qb HP3.o));have hzq:z+1<q3:=by have:=Qb HR3.o;omega
  obtain⟨nca,ncc,hnce,-,-,-,hncell⟩:=HNA.o.cell;obtain rfl:la=nca:=by injection hnce
  have HCE:=Zh hncell;clear hq3 hncell hnce;go_wp2;go_loopw [37] (fun y wr=>∃k:Nat,k≤m∧y=.int .i64 k∧Hid (NumM wr mb k (N.take k))∧Hid (ButB mb wc wr)) (fun y _=>m-(intOf y).toNat)
  case atStart=>exact⟨0,Nat.zero_le _,rfl,by unfold Hid;simpa using HFR.o.ml,ButB.refl _ _⟩
  case round=>
   obtain⟨k,hk,rfl,HMk,HBk⟩:=hrel;have HB3k:=Zh (show Below q3 w3 wr from⟨HBk.o.os.trans HFR.o.below.os,HBk.o.tape.trans HFR.o.below.tape,HBk.o.output.trans HFR.o.below.output,Nat.le_trans HFR.o.below.size HBk.o.size,fun x hx=>(HBk.o.block x (by have:=HFR.o.below.size;have:=HQ3.o;omega) (by have:=HFR.o.zs;omega)).trans (HFR.o.below.block x hx)⟩);obtain⟨es0,c00,hmm0⟩:=HFR.o.ml.isMap;have hbtm:bt≠mb:=by rintro rfl;rw[HFR.o.bl] at hmm0;cases hmm0
   have hsbm:sb≠mb:=by rintro rfl;rw[HFR.o.sl] at hmm0;cases hmm0
   have hpbm:pb≠mb:=by rintro rfl;rw[HFR.o.pl] at hmm0;cases hmm0
   have HBTk:=Zh ((HBk.o.block bt (Qb HFR.o.bl) hbtm).trans HFR.o.bl);have HSBk:=Zh ((HBk.o.block sb (Qb HFR.o.sl) hsbm).trans HFR.o.sl);have HPBk:=Zh ((HBk.o.block pb (Qb HFR.o.pl) hpbm).trans HFR.o.pl);clear hmm0;by_cases hlt:k<m
   ·obtain⟨y,hy⟩:∃y,N[k]? = some y:=⟨_,List.getElem?_eq_getElem (by rw[HM.o];exact hlt)⟩;obtain⟨b4,o4,rfl,hb4,c0,c1,c2,c3⟩:=HCE.o k y hy;have hb4:b4<q3:=by have:=HQ3.o;omega
    have c0:=(HB3k.o.cell (p:=⟨b4,o4+k*4,none⟩) hb4).trans c0;have c1:=(HB3k.o.cell (p:=⟨b4,o4+k*4+1,none⟩) hb4).trans c1;have c2:=(HB3k.o.cell (p:=⟨b4,o4+k*4+2,none⟩) hb4).trans c2;have c3:=(HB3k.o.cell (p:=⟨b4,o4+k*4+3,none⟩) hb4).trans c3;have hfy:fitN y:=Qvk hck0.o (by rw[HNN.o];exact List.mem_of_getElem? hy);have HSN:=Zh (fun q=>QJq hy (by rw[←HNN.o];exact QIe p 0) q);obtain⟨y1,y2,y3,y4⟩:=y;simp only at c0 c1 c2 c3;obtain⟨U,hU⟩:=Ze (wr.alloc (.cells #[iv y1,iv y2,iv y3,iv y4] NT));have BU:=(Below.refl wr.heap.size wr).alloc (Nat.le_refl _) (.cells #[iv y1,iv y2,iv y3,iv y4] NT);rw[hU] at BU;have HX:=Zh (show U.heap[wr.heap.size]? = some (.cells #[iv y1,iv y2,iv y3,iv y4] NT (0,0)) by rw[←hU];exact heap_alloc_new _ _);have HBT:=Zh (Qc HBTk.o BU (Qb HBTk.o));have HBU:=Zh (HBk.o.below BU);obtain⟨th,hth⟩:=HMk.o.below BU;have HUU:=Zh hU;obtain⟨w5,hrun,hM5,hg5⟩:=(hth.block (w':=U.drew) rfl).store Qkp (by unfold maxLen;omega) (k:=(⟨y1,y2,y3,y4⟩:Qx)) hfy (k:Int);have HM5:=Zh (show NumM w5 mb (k+1) (N.take (k+1)) from⟨_,hM5.congr (fun q=>(HSN.o q).symm) (fun _=>rfl)⟩);have HB5:=Zh (show ButB mb wc w5 from HBU.o.trans ⟨hg5.os,hg5.tape,hg5.output,hg5.size,fun x hx hne=>hg5.block x hx (by intro e;injection e with e;exact hne e)⟩);have hrun5:(Instr.mapUpdate 156 (.map (some mb)) (.agg #[iv y1,iv y2,iv y3,iv y4]) (.int .i64 (k:Int))).run Tryz.prog U.drew=.ok () w5:=hrun;obtain⟨xb,hxb⟩:=Ze wr.heap.size;rw[hxb] at HX;clear hy hU BU hth hrun hM5 hg5 hfy HSN;go_upto_region 9 with(fail)
    rw[show wr.alloc (.cells #[iv y1,iv y2,iv y3,iv y4] NT)=U from HUU.o]
    try rw[hxb]
    clear hxb c0 c1 c2 c3;obtain⟨d0,d1,d2,d3⟩:=Qt HX.o;obtain⟨x0,x1,x2,x3⟩:=Qt HBT.o;go_region;clear hrun5;go_wp2;go_roundw
    case rel=>exact⟨k+1,by omega,by go_num,HM5,HB5⟩
    case measure=>simp[intOf];omega
   ·have HBL:=Zh (show BldE q3 bt sb pb mb (.slice la m lc) N [] wr by
     refine⟨_,_,⟨HFR.o.zs,by rw[HM.o];exact HBTk.o,?_,HFR.o.ne,List.replicate m (.slice none 0 0),List.replicate m (.slice none 0 0),HSBk.o,HPBk.o,by rw[HM.o];simp,by rw[HM.o];simp,by simp,?_⟩,GrE.nil N.length⟩
     ·have h9:=HMk.o;rw[List.take_of_length_le (by rw[HM.o];omega),show k=N.length by rw[HM.o];omega] at h9;exact h9
     ·exact Qzq q3 wr (by rw[HM.o]))
    have HK0:=Zh HB3k.o;clear HBTk HSBk HPBk HMk HBk HB3k;obtain⟨wd,rfl⟩:∃x:World,x=wr:=⟨_,rfl⟩;have zwd:q3≤wd.heap.size:=by have:=HK0.o.size;have:=HQ3.o;omega
    go_wp2;clear hlt;go_loopw [51] (fun y wr=>∃k:Nat,k≤m∧y=.int .i64 k∧Hid (BldE q3 bt sb pb mb (.slice la m lc) N ((Qva p (N.take k)).map (numE N)) wr)∧Hid (Qbb q3 wd wr)) (fun y _=>m-(intOf y).toNat)
    case atStart=>exact⟨0,Nat.zero_le _,rfl,by unfold Hid;simpa [Qva] using HBL.o,Qbb.refl _ _ zwd⟩
    case round=>
     obtain⟨j,hj,rfl,HBj,HKj⟩:=hrel;have HB3j:=Zh (HK0.o.trans HKj.o.below);have zwx:q3≤wr.heap.size:=by have:=HB3j.o.size;have:=HQ3.o;omega
     by_cases hlt:j<m
     ·obtain⟨y,hy⟩:∃y,N[j]? = some y:=⟨_,List.getElem?_eq_getElem (by rw[HM.o];exact hlt)⟩;obtain⟨b4,o4,rfl,hb4,c0,c1,c2,c3⟩:=HCE.o j y hy;have hb4:b4<q3:=by have:=HQ3.o;omega
      have c0:=(HB3j.o.cell (p:=⟨b4,o4+j*4,none⟩) hb4).trans c0;have c1:=(HB3j.o.cell (p:=⟨b4,o4+j*4+1,none⟩) hb4).trans c1;have c2:=(HB3j.o.cell (p:=⟨b4,o4+j*4+2,none⟩) hb4).trans c2;have c3:=(HB3j.o.cell (p:=⟨b4,o4+j*4+3,none⟩) hb4).trans c3;have HSN:=Zh (show(Qva p (N.take (j+1))).map (numE N)=(Qva p (N.take j)).map (numE N)++(QU p y).map (numE N) by
       rw[List.take_add_one,hy];show(Qva p (N.take j++[y])).map (numE N)=_;rw[Que,List.map_append,QOe];simp[Qva])
      have HYM:=Zh (show y∈QB p 0 by rw[HNN.o];exact List.mem_of_getElem? hy);have HFY:=Zh (Qvk hck0.o HYM.o);obtain⟨y1,y2,y3,y4⟩:=y;simp only at c0 c1 c2 c3;obtain⟨U,hU⟩:=Ze (wr.alloc (.cells #[iv y1,iv y2,iv y3,iv y4] NT));have BU:=(Below.refl wr.heap.size wr).alloc (Nat.le_refl _) (.cells #[iv y1,iv y2,iv y3,iv y4] NT);rw[hU] at BU;have HX:=Zh (show U.heap[wr.heap.size]? = some (.cells #[iv y1,iv y2,iv y3,iv y4] NT (0,0)) by rw[←hU];exact heap_alloc_new _ _);have HBU:=Zh (HBj.o.below BU);have HKU:=Zh (HKj.o.trans (Qbb.of BU zwx));have HUU:=Zh hU;have HB3U:=Zh (HK0.o.trans HKU.o.below);have zU:q3≤U.heap.size:=Nat.le_trans zwx BU.size;obtain⟨xb,hxb⟩:=Ze wr.heap.size;rw[hxb] at HX;clear hy hU BU;go_upto_region 14 with(fail)
      rw[show wr.alloc (.cells #[iv y1,iv y2,iv y3,iv y4] NT)=U from HUU.o]
      try rw[hxb]
      clear hxb c0 c1 c2 c3;obtain⟨d0,d1,d2,d3⟩:=Qt HX.o;by_cases k1:y1=1
      ·subst k1;obtain⟨x,hx⟩:∃x:Nat,numT N ⟨3,y2,0,0⟩=x:=⟨_,rfl⟩;obtain⟨hh,hhh⟩:∃x:Nat,numT N ⟨1,y2,y3,y4⟩=x:=⟨_,rfl⟩;have HEE:=Zh (show QU p ⟨1,y2,y3,y4⟩=[(⟨1,y2,y3,y4⟩,⟨3,y2,0,0⟩)] from rfl);have hen:=QIj (Qzb hck0.o) HYM.o (x:=⟨1,y2,y3,y4⟩) (y:=⟨3,y2,0,0⟩) (by rw[HEE.o];simp);rw[HNN.o] at hen;have hxl:x<N.length:=hx▸(QEc hen.2).1;have hhl:hh<N.length:=hhh▸(QEc hen.1).1;have HEL:=Zh (show(QU p ⟨1,y2,y3,y4⟩).map (numE N)=[(hh,x)] by rw[HEE.o];simp[numE,hx,hhh]);have HBD:=Zh (show BldE q3 bt sb pb mb _ N _ (U.drewN 1) from by
        obtain⟨S,P,h1,h2⟩:=HBU.o;exact⟨S,P,h1.keep fun _ _=>rfl,h2⟩)
       have hlkU:(Instr.lookup 156 (.map (some mb)) (.agg #[iv 1,iv y2,iv y3,iv y4]) false).run Tryz.prog (U.drewN 1)=.ok (.int .i64 (hh:Int)) (U.drewN 1):=by
        obtain⟨S,P,h1,-⟩:=HBD.o;have:=h1.mp.look (x:=⟨1,y2,y3,y4⟩) HFY.o;rw[QLc,hhh] at this;exact this
       have x3:U.cell? ⟨bt,3,none⟩=some (.map (some mb)):=by
        obtain⟨S,P,h1,-⟩:=HBU.o;exact(Qt h1.bl).2.2.2
       have KA:=Zh (Qfp HBD.o 3 y2 0 0 ⟨by unfold fitI;dsimp only;omega,HFY.o.2.1,by unfold fitI;dsimp only;omega,by unfold fitI;dsimp only;omega⟩);rw[show numN N ⟨3,y2,0,0⟩=(x:Int) by rw[QLc,hx]] at KA;have KE:=Zh (QWm hbq (by rw[HM.o];exact hle) HBD.o hh x hhl hxl);have KD:=Zh (show Qbb q3 U (U.drewN 1) from⟨Qp ((Below.refl _ _).mono zU) 1,fun _ _ _=>Qf.drewN⟩);clear hx hhh hen;go_upto_region 16 with(fail)
       refine Zr (fun w'=>w'.cell? ⟨bt,3,none⟩=some (.map (some mb))∧w'.cell? ⟨xb,0,none⟩=some (iv 1)∧w'.cell? ⟨xb,1,none⟩=some (iv y2)∧w'.cell? ⟨xb,2,none⟩=some (iv y3)∧w'.cell? ⟨xb,3,none⟩=some (iv y4)∧(Instr.lookup 156 (.map (some mb)) (.agg #[iv 1,iv y2,iv y3,iv y4]) false).run Tryz.prog w'=.ok (.int .i64 (hh:Int)) w') 11 (⟨x3,d0,d1,d2,d3,hlkU⟩) fun hS0=>?_
       refine Yd 0 59 ?_;refine Yc 1 60 [2,3,4,6] ?_;refine Yc 2 61 [3,4,6] ?_;refine Yc 3 62 [4,6] ?_;refine Yc 4 63 [6] ?_;refine Yc 5 64 [6] ?_;refine Yd 6 65 ?_;refine Yc 7 66 [10] ?_;refine Yc 8 67 [9,10] ?_;refine Yc 9 68 [10] ?_;refine QP 10 (some 69) 100 #[.pointer (some ⟨bt,0,none⟩),iv 3,iv y2,iv 0,iv 0] rfl ZK ZK ZK rfl ?_;refine(KA.o).mono ?_;rintro e z1 ⟨rfl,rfl⟩;refine⟨_,rfl,fun _=>hS0,?_⟩;refine QP 11 (some 70) 99 #[.pointer (some ⟨bt,0,none⟩),iv hh,iv x] rfl ZK ZK ZK rfl ?_;refine(KE.o).mono ?_;rintro e z1 ⟨rfl,hbE,kE⟩;refine⟨_,rfl,fun h=>absurd rfl h,?_⟩;refine Qu ZK ?_ _;generalize hA:Act.put _ _ _=A0;simp only[Qba,Qaa,Zu,Zv,Zw] at hA;subst hA;have HB7:=Zh (show BldE q3 bt sb pb mb _ N ((Qva p (N.take (j+1))).map (numE N)) z1 by rw[HSN.o,HEL.o];exact hbE);have HK7:=Zh (HKU.o.trans (KD.o.trans kE));clear hbE kE hS0 hlkU x3 d0 d1 d2 d3 KA KE;go_wp2;go_roundw
       case rel=>exact⟨j+1,by omega,by go_num,HB7,HK7⟩
       case measure=>simp[intOf];omega
      ·have t1:(y1==1)=false:=by simpa using k1
       by_cases k3:y1=3
       ·subst k3;obtain⟨i,k',j',f,b,st,e2,e3,e4,hf,hb,hs,-⟩:=Qti (show(⟨3,y2,y3,y4⟩:Qx)∈QR p by rw[HNP.o];exact HYM.o) (by simp[insN]);simp only at e2 e3 e4;subst e2 e3 e4;obtain⟨fb,fo,bv,rfl,hfb,-,g1,hbl⟩:=HC.o i f hf;obtain⟨ba,bc,rfl,-,hbc⟩:=hbl.cell;obtain⟨kb,ko,tv,rfl,hkb,-,k1',hsl⟩:=hbc k' b hb;obtain⟨sa,sc,rfl,-,hsc⟩:=hsl.cell;obtain⟨s4,s5,u,t,rfl,hs4,c0,c1,c2,c3,hu,ht⟩:=hsc j' st hs;have lt1:(i:Int)<(n:Int):=by have:=(List.getElem?_eq_some_iff.1 hf).1;have:=HL.o;omega
        obtain⟨bn,hbn⟩:=Ze f.blocks.length;obtain⟨sn,hsn⟩:=Ze b.stmts.length;have lt2:(k':Int)<(bn:Int):=by have:=(List.getElem?_eq_some_iff.1 hb).1;omega
        have lt3:(j':Int)<(sn:Int):=by have:=(List.getElem?_eq_some_iff.1 hs).1;omega
        rw[hbn] at g1;rw[hsn] at k1';obtain⟨ua,uc,rfl,-⟩:=hu.cell;obtain⟨ta,tc,rfl,-⟩:=ht.cell;obtain⟨un,hun⟩:=Ze st.uses.length;obtain⟨tn,htn⟩:=Ze st.targets.length;rw[hun] at c2;rw[htn] at c3 ht;have HBD:=Zh (show BldE q3 bt sb pb mb _ N _ (U.drewN 1) from by
         obtain⟨S,P,h1,h2⟩:=HBU.o;exact⟨S,P,h1.keep fun _ _=>rfl,h2⟩)
        have B3w:=Zh (HB3.o);have KS:=Zh (Qbr (w0:=w3) hbq HQ3.o (show Below q3 w3 (U.drewN 1) from Qp HB3U.o 1) p _ (HPP.o.keep (Qf.below (HZ.o.symm▸HB3.o)) (Qf.below (HZ.o.symm▸HB3.o)) (Qf.below (HZ.o.symm▸HB3.o)) (Qf.below (HZ.o.symm▸HB3.o))) hck0.o (HNN.o.symm▸HBD.o) (At.mk hf hb hs) (.slice ua un uc) (.slice ta tn tc) ⟨_,_,_,rfl⟩ (ht.same (Qf.below (HZ.o.symm▸HB3.o))));rw[HNN.o] at KS;have BZU:=HB3.o.trans (HB3U.o.mono (by omega:z≤q3));rw[hz] at hfb hkb hs4;have g1:=(BZU.cell (p:=⟨fb,fo+i*2+1,none⟩) hfb).trans g1;have k1':=(BZU.cell (p:=⟨kb,ko+k' * 2+1,none⟩) hkb).trans k1';have c0:=(BZU.cell (p:=⟨s4,s5+j' * 4,none⟩) hs4).trans c0;have c1:=(BZU.cell (p:=⟨s4,s5+j' * 4+1,none⟩) hs4).trans c1;have c2:=(BZU.cell (p:=⟨s4,s5+j' * 4+2,none⟩) hs4).trans c2;have c3:=(BZU.cell (p:=⟨s4,s5+j' * 4+3,none⟩) hs4).trans c3;have x0:U.cell? ⟨z,0,none⟩=some (.slice (some ⟨fb,fo,none⟩) n c):=by
         have:=(HB3U.o.cell (p:=⟨z,0,none⟩) (by show z<q3;omega)).trans ((Qd HP3.o).1 0)
         simpa using this
        have KD:=Zh (show Qbb q3 U (U.drewN 1) from⟨Qp ((Below.refl _ _).mono zU) 1,fun _ _ _=>Qf.drewN⟩);obtain⟨op,hop⟩:=Ze st.op;obtain⟨dn,hdn⟩:=Ze st.dfn;rw[hop] at c0 KS;rw[hdn] at c1 KS;clear hf hb hs hbl hbc hsl hsc hu ht hbn hsn hun htn hop hdn hfb hkb hs4 BZU;go_upto_region 18 with(fail)
        refine Zr (fun w'=>w'.cell? ⟨z,0,none⟩=some (.slice (some ⟨fb,fo,none⟩) n c)∧w'.cell? ⟨xb,0,none⟩=some (iv 3)∧w'.cell? ⟨xb,1,none⟩=some (iv i)∧w'.cell? ⟨xb,2,none⟩=some (iv k')∧w'.cell? ⟨xb,3,none⟩=some (iv j')∧w'.cell? ⟨fb,fo+i*2+1,none⟩=some (.slice (some ⟨kb,ko,none⟩) bn bc)∧w'.cell? ⟨kb,ko+k' * 2+1,none⟩=some (.slice (some ⟨s4,s5,none⟩) sn sc)∧w'.cell? ⟨s4,s5+j' * 4,none⟩=some (iv op)∧w'.cell? ⟨s4,s5+j' * 4+1,none⟩=some (sv dn)∧w'.cell? ⟨s4,s5+j' * 4+2,none⟩=some (.slice ua un uc)∧w'.cell? ⟨s4,s5+j' * 4+3,none⟩=some (.slice ta tn tc)) 19 (⟨x0,d0,d1,d2,d3,g1,k1',c0,c1,c2,c3⟩) fun hS0=>?_
        refine Yd 0 73 ?_;refine Yd 1 74 ?_;refine Yd 2 75 ?_;refine Yc 3 76 [4,7,8,9,12,13,14,17,18] ?_;refine Yc 4 77 [7,8,9,12,13,14,17,18] ?_;refine Yc 5 78 [6,7,8,9,12,13,14,17,18] ?_;refine Yc 6 79 [7,8,9,12,13,14,17,18] ?_;refine Yc 7 80 [8,9,12,13,14,17,18] ?_;refine Yc 8 81 [9,12,13,14,17,18] ?_;refine Yc 9 82 [12,13,14,17,18] ?_;refine Yc 10 83 [11,12,13,14,17,18] ?_;refine Yc 11 84 [12,13,14,17,18] ?_;refine Yc 12 85 [13,14,17,18] ?_;refine Yc 13 86 [14,17,18] ?_;refine Yc 14 87 [17,18] ?_;refine Yc 15 88 [16,17,18] ?_;refine Yc 16 89 [17,18] ?_;refine Yc 17 90 [18] ?_;refine Yd 18 91 ?_;refine QP 19 (some 92) 101 #[.pointer (some ⟨bt,0,none⟩),.agg #[.slice (some ⟨fb,fo,none⟩) n c],.agg #[iv 3,iv i,iv k',iv j'],.agg #[iv op,sv dn,.slice ua un uc,.slice ta tn tc]] rfl ZK ZK ZK rfl ?_;refine(KS.o).mono ?_;rintro e z1 ⟨rfl,hbE,kE⟩;refine⟨_,rfl,fun h=>absurd rfl h,?_⟩;refine Qu ZK ?_ _;generalize hA:Act.put _ _ _=A0;simp only[Qba,Qaa,Zu,Zv,Zw] at hA;subst hA;have HB7:=Zh (show BldE q3 bt sb pb mb _ N ((Qva p (N.take (j+1))).map (numE N)) z1 by rw[HSN.o];exact hbE);have HK7:=Zh (HKU.o.trans (KD.o.trans kE));clear hbE kE hS0 x0 d0 d1 d2 d3 g1 k1' c0 c1 c2 c3 KS k1;go_wp2;go_roundw
        case rel=>exact⟨j+1,by omega,by go_num,HB7,HK7⟩
        case measure=>simp[intOf];omega
       ·have t3:(y1==3)=false:=by simpa using k3
        have HB7:=Zh (show BldE q3 bt sb pb mb _ N ((Qva p (N.take (j+1))).map (numE N)) U by
         rw[HSN.o,show QU p ⟨y1,y2,y3,y4⟩=[] by unfold QU;rw[if_neg k1,if_neg k3]]
         simpa using HBU.o)
        clear k1 k3;go_wp2;go_roundw
        case rel=>exact⟨j+1,by omega,by go_num,HB7,HKU⟩
        case measure=>simp[intOf];omega
     ·have HBE:=Zh (show BldE q3 bt sb pb mb (.slice la m lc) N ((Qva p N).map (numE N)) wr by have h9:=HBj.o;rw[List.take_of_length_le (show N.length≤j by rw[HM.o];omega)] at h9;exact h9);obtain⟨S,P,hB0,hG0⟩:=HBE.o;have HG0:=Zh hG0;have HBS:=Zh hB0;obtain⟨we,rfl⟩:∃x:World,x=wr:=⟨_,rfl⟩;clear hB0 hG0 HBE HBj;go_wp2;go_loopw [96] (fun y wr=>∃(k:Nat) (S1 P1:List (List Int)),k≤m∧y=.int .i64 k∧Hid (Bld q3 bt sb pb mb (.slice la m lc) N S1 P1 wr)∧Hid (QAe k S S1)∧Hid (QAe k P P1)∧Hid (Qbb q3 we wr)) (fun y _=>m-(intOf y).toNat)
      case atStart=>exact⟨0,S,P,Nat.zero_le _,rfl,HBS,QAe.zero S,QAe.zero P,Qbb.refl _ _ zwx⟩
      case round=>
       obtain⟨k,S1,P1,hk,rfl,HBk,HS1,HP1,HKk⟩:=hrel;have zwk:q3≤wr.heap.size:=by have:=HKk.o.below.size;omega
       obtain⟨x0,x1,x2,x3⟩:=Qt HBk.o.bl;rw[HM.o] at x1 x2;by_cases hlt:k<m
       ·obtain⟨⟨v1,r1,hr1,e1,own1,up1⟩,-⟩:=HBk.o.put hbq zwk (a:=k) (by rw[HM.o];exact hlt);obtain⟨hs1,HS2⟩:=HS1.o.step hr1;have hl1:=HG0.o.slen hs1;have K1:=Zh (HSORT.o q3 r1 v1 wr zwk (by rw[HM.o] at hl1;omega) own1);have U1:=Zh up1;have HS2:=Zh HS2;have hltb:bt<wr.heap.size:=Qb HBk.o.bl;have hkm:(k:Int)<(m:Int):=by omega
        clear hr1 own1 up1 hs1 hl1;go_wp2_with fail;refine K1.o.mono ?_;rintro e w5 ⟨rfl,ho5,hg5⟩;obtain⟨hb5,hk5⟩:=U1.o _ w5 ho5 hg5;have HB5:=Zh hb5;have HK5:=Zh (HKk.o.trans hk5);have zw5:q3≤w5.heap.size:=by have:=HK5.o.below.size;omega
        clear ho5 hg5 hb5 hk5 x0 x1 x2 x3 e1 K1 U1;obtain⟨x0,x1,x2,x3⟩:=Qt HB5.o.bl;rw[HM.o] at x1 x2;obtain⟨-,⟨v2,r2,hr2,e2,own2,up2⟩⟩:=HB5.o.put hbq zw5 (a:=k) (by rw[HM.o];exact hlt);obtain⟨hs2,HP2⟩:=HP1.o.step hr2;have hl2:=HG0.o.plen hs2;have K2:=Zh (HSORT.o q3 r2 v2 w5 zw5 (by rw[HM.o] at hl2;omega) own2);have U2:=Zh up2;have HP2:=Zh HP2;clear hr2 own2 up2 hs2 hl2;go_wp2_with fail;refine K2.o.mono ?_;rintro e w6 ⟨rfl,ho6,hg6⟩;obtain⟨hb6,hk6⟩:=U2.o _ w6 ho6 hg6;have HB6:=Zh hb6;have HK6:=Zh (HK5.o.trans hk6);clear ho6 hg6 hb6 hk6 x0 x1 x2 x3 e2 K2 U2;go_wp2;go_roundw
        case rel=>exact⟨k+1,_,_,by omega,by go_num,HB6,HS2,HP2,HK6⟩
        case measure=>simp[intOf];omega
       ·obtain⟨es,ep⟩:=QQl hck0.o (S:=S) (P:=P) (HNN.o.symm▸HG0.o);have HSS:=Zh (show S1=Qkc p by rw[←es];exact HS1.o.all (by rw[HG0.o.sl,HM.o];omega));have HPS:=Zh (show P1=Qmc p by rw[←ep];exact HP1.o.all (by rw[HG0.o.pl,HM.o];omega));have HKF:=Zh (show Below q3 w3 wr from HK0.o.trans (HKj.o.below.trans HKk.o.below));have HRF:=Zh (show wr.heap[z+1]? = some (.cells #[.slice none 0 0,.slice none 0 0,.slice none 0 0] 46 (0,0)) from(HKF.o.block (z+1) hzq).trans HR3.o);obtain⟨vs,us,b1,b2,b3,b4,b5,b6⟩:=HBk.o.rows;rw[HM.o] at b3 b4 b5;have b7:P1.length=m:=by have:=b6.len;simp at this;omega
        have HRS:=Zh (show Qoa Qqc wr (.slice (some ⟨sb,0,none⟩) m m) (Qkc p) by
         rw[←HSS.o];exact Qsp b1 b3 (by unfold maxLen;omega) (fun i v r hv hr=>b6.own i v r (by rw[List.getElem?_append_left (List.getElem?_eq_some_iff.1 hv).1];exact hv) (by rw[List.getElem?_append_left (List.getElem?_eq_some_iff.1 hr).1];exact hr)) ZO)
        have HRP:=Zh (show Qoa Qqc wr (.slice (some ⟨pb,0,none⟩) m m) (Qmc p) by
         rw[←HPS.o];exact Qsp b2 b4 (by unfold maxLen;omega) (fun i v r hv hr=>b6.own (m+i) v r (by rw[List.getElem?_append_right ZO,b3,Nat.add_sub_cancel_left];exact hv) (by rw[List.getElem?_append_right ZO,b5,Nat.add_sub_cancel_left];exact hr)) ZO)
        obtain⟨r0,r1,r2⟩:=QHi HRF.o;have fr:=(Qa HRF.o).2;clear b1 b2 b3 b4 b5 b6 b7 es ep;go_wp2;have hz3:=QWt HRF.o (.slice la m lc) (.slice (some ⟨sb,0,none⟩) m m) (.slice (some ⟨pb,0,none⟩) m m);have tz:tyAt wr (z+1)=some 46:=Qv HRF.o ZO;have st:∀T,T≠46→Qf T wr (((wr.setCell ⟨z+1,0,none⟩ (.slice la m lc)).setCell ⟨z+1,1,none⟩ (.slice (some ⟨sb,0,none⟩) m m)).setCell ⟨z+1,2,none⟩ (.slice (some ⟨pb,0,none⟩) m m)):=fun T hT=>
         ((Qf.setCell (U:=46) tz hT).trans (Qf.setCell (U:=46) (by rw[QS];exact tz) hT)).trans (Qf.setCell (U:=46) (by rw[QS,QS];exact tz) hT)
        have BF:=(((HB3.o.trans (HKF.o.mono zw3)).setCell (p:=⟨z+1,0,none⟩) (by show z≤z+1;omega) (.slice la m lc)).setCell (p:=⟨z+1,1,none⟩) (by show z≤z+1;omega) (.slice (some ⟨sb,0,none⟩) m m)).setCell (p:=⟨z+1,2,none⟩) (by show z≤z+1;omega) (.slice (some ⟨pb,0,none⟩) m m);obtain⟨z0,z1,z2⟩:=QHi hz3;refine bodyPost_ret (v:=.tuple #[.agg #[.slice la m lc,.slice (some ⟨sb,0,none⟩) m m,.slice (some ⟨pb,0,none⟩) m m],iv 0]) (by simp[results,Tryz.results44,go_sem,z0,z1,z2]) rfl ⟨_,_,_,by rw[hck0.o],?_,?_,?_,?_⟩
        ·rw[HNP.o,HNN.o];exact(HNA.o.same (Qf.below (HQ3.o.symm▸HKF.o))).same (st _ ZD)
        ·exact HRS.o.keep fun U hU=>st U (by rcases List.mem_cons.1 hU with rfl|hU;(show IT≠46;decide);simp[Qqc] at hU;subst hU;decide)
        ·exact HRP.o.keep fun U hU=>st U (by rcases List.mem_cons.1 hU with rfl|hU;(show IT≠46;decide);simp[Qqc] at hU;subst hU;decide)
        ·rw[HZ.o];exact BF
end
end Go.Proofs.YtijekimobahgpaaGreatDoor
