/- A part of the proof. -/
import Derived.Test.YtijekimobahgpaaGreatDoorMq06
import Derived.Laws.EntriesVeiled
set_option linter.unusedVariables false
set_option linter.unusedSimpArgs false
set_option linter.unusedSectionVars false
set_option maxRecDepth 100000
set_option maxHeartbeats 16000000
namespace Go.Proofs.YtijekimobahgpaaGreatDoor
section
open Go.RowKit
variable [Base]
theorem QUp {w:World} {x k:Nat} {v:Value} (o:Obj) (h:w.cell? ⟨x,0,none⟩=some v) (hx:x<w.heap.size):((w.drewN k).alloc o).cell? ⟨x,0,none⟩=some v:=
 (((below_drewN (Below.refl w.heap.size w) k).alloc (Nat.le_refl _) o).cell (p:=⟨x,0,none⟩) hx).trans h
theorem QIn {B z nb eb:Nat} {w0 w:World} (kw:KwIn B w0) (hB:B≤w0.heap.size) (hz:w0.heap.size=z) (p:List Qo) (v:Value) (h:QAa w0 v p) (hv:QMa p=true) (hf:∀f∈p,∀b∈f.blocks,∀s∈b.stmts,FitS s) (b0:Below z w0 w)
  (hne:z≤nb∧z≤eb∧nb≠eb) (x y:Int) (h0:0≤x∧x≤100∧0≤y∧y≤100) (hn:w.heap[nb]? = some (.cells #[iv x] 3 (0,0))) (he:w.heap[eb]? = some (.cells #[iv y] 3 (0,0))):
  Calls Tryz.prog 104 #[.agg #[v],.func (.func 193) #[] #[.pointer (some ⟨nb,0,none⟩),.pointer (some ⟨eb,0,none⟩)]] w (fun e w'=>e=.returned (.tuple #[])∧(w'.heap[nb]? = some (.cells #[iv (x+QDb (QH p))] 3 (0,0))∧w'.heap[eb]? = some (.cells #[iv (y+QEb (QH p))] 3 (0,0)))∧Below z w0 w'):=by
 refine QVo nb eb kw hB hz p v h hv hf b0 (fun d x1=>x1.heap[nb]? = some (.cells #[iv (x+QDb d)] 3 (0,0))∧x1.heap[eb]? = some (.cells #[iv (y+QEb d)] 3 (0,0))) ?_ ?_ ?_
 ·rintro d x1 y1 ⟨h1,h2⟩ b;exact⟨(b.block _ (Qb h1)).trans h1,(b.block _ (Qb h2)).trans h2⟩
 ·rintro d s r u t x1 hsp ⟨h1,h2⟩ hb hu ⟨ta,tn,tc,rfl⟩;have h3:=QVi hv p.length;rw [List.take_length,hsp] at h3;have h4:=Qot d;simp at h3;have hcat:QDb (d++[s])=QDb d+QHd s∧QEb (d++[s])=QEb d+Qod s:=by
   have:=Qtm d [s]
   simpa only [QDb,QEb,sumI,List.map_cons,List.map_nil,List.foldl_cons,List.foldl_nil,Int.zero_add] using this
  obtain⟨ua,uc,rfl,-⟩:=hu.cell;refine(QJn z nb eb s _ _ x1 _ _ hne h1 h2 (by omega)).mono ?_;rintro e y1 ⟨rfl,h5⟩;refine⟨rfl,⟨?_,?_⟩,h5.below⟩
  ·rw [hcat.1,←Int.add_assoc];exact h5.nat
  ·rw [hcat.2,←Int.add_assoc];exact h5.eat
 ·simp [QDb,QEb,sumI];exact⟨hn,he⟩
theorem Qqq {B:Nat} {w:World} (kw:KwIn B w) (hB:B≤w.heap.size) (p:List Qo) (v:Value) (h:QAa w v p) (hf:∀f∈p,∀b∈f.blocks,∀s∈b.stmts,FitS s):
  Calls Tryz.prog 158 #[.agg #[v]] w (fun e w'=>e=.returned (.tuple #[iv (QMd p),iv (QNd p)])∧Below w.heap.size w w'):=by
 have B0:=(Below.refl w.heap.size w).alloc (Nat.le_refl _) (.cells #[v] 25);have HB0:=Zh B0;have HV:=Zh (QFe (kw.keep fun k hk=>B0.block k (Nat.lt_of_lt_of_le hk hB)) (Nat.le_trans hB B0.size) p v (h.keep (Qf.below B0) (Qf.below B0) (Qf.below B0) (Qf.below B0)) hf);have HSE:=Zh (fun (nb eb:Nat) (W:World) hv b0 hne x y h0 hn he=>QIn (w:=W) (nb:=nb) (eb:=eb) kw hB rfl p v h hv hf b0 hne x y h0 hn he);obtain⟨a,c,rfl,hn,hc⟩:=h.cell;obtain⟨n,hl⟩:=Ze p.length;rw [hl] at hn HV HB0 HSE ⊢;obtain⟨r,hr⟩:=Ze (QMa p);rw [hr] at HV HSE;clear h hc kw B0;go_enter Tryz.func158,Tryz.ntmps158;go_wp2_with fail;refine HV.o.mono ?_;rintro e w1 ⟨rfl,b⟩;have B1:=Zh (HB0.o.trans (b.mono HB0.o.size));have p0:=(b.cell (p:=⟨w.heap.size,0,none⟩) (by simp)).trans (World.cell?_alloc_new _ _ _ _);have hz:w.heap.size<w1.heap.size:=by have:=b.size;simp at this;omega
 replace p0:w1.cell? ⟨w.heap.size,0,none⟩=some (.slice a n c):=p0
 clear b
 cases r
 ·go_wp2;have e1:QMd p=0:=by unfold QMd;rw [hr];rfl
  have e2:QNd p=0:=by unfold QNd;rw [hr];rfl
  exact bodyPost_ret (v:=.tuple #[iv 0,iv 0]) (by simp [results,Tryz.results158,go_sem]) rfl ⟨by rw [e1,e2],B1.o⟩
 have h8:n≤8:=by unfold QMa at hr;simp only [Bool.and_eq_true,decide_eq_true_eq] at hr;omega
 have HNN:=Zh (show QMd p=2*(n:Int)+QDb (QH p) by unfold QMd QDb;rw [hr,hl];rfl);have HEE:=Zh (show QNd p=(n:Int)+QEb (QH p) by unfold QNd QEb;rw [hr,hl];rfl);clear hr hl;go_upto_region 3 with(fail)
 refine QK (S:=(fun w'=>w'.cell? ⟨w.heap.size,0,none⟩=some (.slice a n c))) (st:=10) (by kernel_rfl) ?_;refine Zp 0 ?z0 p0 ?rz0 ?sz0
 case rz0=>intro w hS;go_simp;rfl
 case sz0=>
 refine Zp 1 ?z1 p0 ?rz1 ?sz1
 case rz1=>intro w hS;go_simp;rfl
 case sz1=>
 refine Zp 2 ?z2 p0 ?rz2 ?sz2
 case rz2=>intro w hS;go_simp;rfl
 case sz2=>
 refine Zp 3 ?z3 p0 ?rz3 ?sz3
 case rz3=>intro w hS;go_simp;rfl
 case sz3=>
 refine Zp 4 ?z4 p0 ?rz4 ?sz4
 case rz4=>intro w hS;go_simp;rfl
 case sz4=>
 refine Zp 5 ?z5 p0 ?rz5 ?sz5
 case rz5=>intro w hS;go_simp;rfl
 case sz5=>
 refine Zp 6 ?z6 p0 ?rz6 ?sz6
 case rz6=>intro w hS;go_simp;rfl
 case sz6=>
 refine Qh (rs:=[7,8]) (by kernel_rfl) (by decide) ?_;intro i hi;have hi2:i=7∨i=8:=by simpa using hi
 clear hi;rcases hi2 with rfl|rfl
 ·refine Ql rfl ?_;go_wp2;refine⟨fun _=>QUp _ p0 hz,?_⟩;refine Zt 8 ?_;refine Ql rfl ?_;go_wp2;obtain⟨W2,hW2⟩:=Ze ((((w1.drewN 1).alloc (.cells #[iv 0] 3)).alloc (.cells #[iv 0] 3)));obtain⟨nb,hnb⟩:=Ze w1.heap.size;have HX1:=Zh (show W2.heap[nb]? = some (.cells #[iv 0] 3 (0,0)) by rw [←hW2,←hnb];exact Qfa _ (heap_alloc_new (w1.drewN 1) _));have HX2:=Zh (show W2.heap[nb+1]? = some (.cells #[iv 0] 3 (0,0)) by rw [←hW2,←hnb];have:=heap_alloc_new ((w1.drewN 1).alloc (.cells #[iv 0] 3)) (.cells #[iv 0] 3);simpa using this);have BZ:=Zh (show Below nb w1 W2 by rw [←hW2,←hnb];exact((below_drewN (Below.refl w1.heap.size w1) 1).alloc (Nat.le_refl _) _).alloc (by simp) _);have hnb':w.heap.size≤nb:=by omega
  rw [show(((w1.drewN 1).alloc (.cells #[.int .i64 0] 3)).alloc (.cells #[.int .i64 0] 3))=W2 from hW2];rw [hnb] at hz ⊢;have p2:=(BZ.o.cell (p:=⟨w.heap.size,0,none⟩) hz).trans p0;have p1:=p0;clear p0 hW2 hnb;refine⟨fun _=>p2,?_⟩;refine Zt 9 ?_;refine Ql rfl ?_;have n0:=(Qd HX1.o).1 0;have e0:=(Qd HX2.o).1 0;have fn:=(Qd HX1.o).2 0;have fe:=(Qd HX2.o).2 0;simp at n0 e0;go_wp2;have HN3:=Zh (Qej HX1.o (iv (2*(n:Int))));have HE3:=Zh ((Qud (b:=nb) (k:=nb+1) (w:=W2) (by omega) (iv (2*(n:Int)))).trans HX2.o);have B3:=Zh (BZ.o.setCell (p:=⟨nb,0,none⟩) (by show nb≤nb;omega) (iv (2*(n:Int))));obtain⟨W3,hW3⟩:=Ze (W2.setCell ⟨nb,0,none⟩ (iv (2*(n:Int))));rw [show W2.setCell ⟨nb,0,none⟩ (.int .i64 (2*(n:Int)))=W3 from hW3];rw [hW3] at HN3 HE3 B3;clear p2 n0 e0 fn fe hW3;have p2:=(B3.o.cell (p:=⟨w.heap.size,0,none⟩) hz).trans p1;refine⟨fun _=>p2,?_⟩;refine Zt 10 ?_;refine Ql rfl ?_;have n0:=(Qd HN3.o).1 0;have e0:=(Qd HE3.o).1 0;have fn:=(Qd HN3.o).2 0;have fe:=(Qd HE3.o).2 0;simp at n0 e0;go_wp2;refine⟨fun h=>absurd rfl h,?_⟩;refine Qu (by kernel_rfl) ?_ _;have HE4:=Zh (Qej HE3.o (iv (n:Int)));have HN4:=Zh ((Qud (b:=nb+1) (k:=nb) (w:=W3) (by omega) (iv (n:Int))).trans HN3.o);have B4:=Zh (B3.o.setCell (p:=⟨nb+1,0,none⟩) (by show nb≤nb+1;omega) (iv (n:Int)));obtain⟨W4,hW4⟩:=Ze (W3.setCell ⟨nb+1,0,none⟩ (iv (n:Int)));rw [show W3.setCell ⟨nb+1,0,none⟩ (.int .i64 (n:Int))=W4 from hW4];rw [hW4] at HN4 HE4 B4;clear p2 n0 e0 fn fe hW4;have p4:=(B4.o.cell (p:=⟨w.heap.size,0,none⟩) hz).trans p1;have K:=Zh (HSE.o (nb) (nb+1) W4 trivial (B1.o.trans (B4.o.mono hnb')) (by omega) (2*(n:Int)) (n:Int) (by omega) HN4.o HE4.o);clear p1;go_wp2_with fail;refine K.o.mono ?_;rintro e w5 ⟨rfl,⟨hn5,he5⟩,b5⟩;have HB5:=Zh b5;have n0:=(Qd hn5).1 0;have e0:=(Qd he5).1 0;simp at n0 e0;clear b5 hn5 he5 p4 K;go_upto_region 5 with(fail)
  go_region;go_wp2;exact bodyPost_ret (v:=.tuple #[iv (2*(n:Int)+QDb (QH p)),iv ((n:Int)+QEb (QH p))]) (by simp [results,Tryz.results158,go_sem]) rfl ⟨by rw [HNN.o,HEE.o],Qp HB5.o 1⟩
 ·refine Ql rfl ?_;go_wp2;refine⟨fun _=>QUp _ p0 hz,?_⟩;refine Zt 7 ?_;refine Ql rfl ?_;go_wp2;obtain⟨W2,hW2⟩:=Ze ((((w1.drewN 1).alloc (.cells #[iv 0] 3)).alloc (.cells #[iv 0] 3)));obtain⟨nb,hnb⟩:=Ze w1.heap.size;have HX1:=Zh (show W2.heap[nb]? = some (.cells #[iv 0] 3 (0,0)) by rw [←hW2,←hnb];exact Qfa _ (heap_alloc_new (w1.drewN 1) _));have HX2:=Zh (show W2.heap[nb+1]? = some (.cells #[iv 0] 3 (0,0)) by rw [←hW2,←hnb];have:=heap_alloc_new ((w1.drewN 1).alloc (.cells #[iv 0] 3)) (.cells #[iv 0] 3);simpa using this);have BZ:=Zh (show Below nb w1 W2 by rw [←hW2,←hnb];exact((below_drewN (Below.refl w1.heap.size w1) 1).alloc (Nat.le_refl _) _).alloc (by simp) _);have hnb':w.heap.size≤nb:=by omega
  rw [show(((w1.drewN 1).alloc (.cells #[.int .i64 0] 3)).alloc (.cells #[.int .i64 0] 3))=W2 from hW2];rw [hnb] at hz ⊢;have p2:=(BZ.o.cell (p:=⟨w.heap.size,0,none⟩) hz).trans p0;have p1:=p0;clear p0 hW2 hnb;refine⟨fun _=>p2,?_⟩;refine Zt 9 ?_;refine Ql rfl ?_;have n0:=(Qd HX1.o).1 0;have e0:=(Qd HX2.o).1 0;have fn:=(Qd HX1.o).2 0;have fe:=(Qd HX2.o).2 0;simp at n0 e0;go_wp2;have HN3:=Zh (Qej HX2.o (iv (2*(n:Int))));have HE3:=Zh ((Qud (b:=nb+1) (k:=nb) (w:=W2) (by omega) (iv (2*(n:Int)))).trans HX1.o);have B3:=Zh (BZ.o.setCell (p:=⟨nb+1,0,none⟩) (by show nb≤nb+1;omega) (iv (2*(n:Int))));obtain⟨W3,hW3⟩:=Ze (W2.setCell ⟨nb+1,0,none⟩ (iv (2*(n:Int))));rw [show W2.setCell ⟨nb+1,0,none⟩ (.int .i64 (2*(n:Int)))=W3 from hW3];rw [hW3] at HN3 HE3 B3;clear p2 n0 e0 fn fe hW3;have p2:=(B3.o.cell (p:=⟨w.heap.size,0,none⟩) hz).trans p1;refine⟨fun _=>p2,?_⟩;refine Zt 10 ?_;refine Ql rfl ?_;have n0:=(Qd HN3.o).1 0;have e0:=(Qd HE3.o).1 0;have fn:=(Qd HN3.o).2 0;have fe:=(Qd HE3.o).2 0;simp at n0 e0;go_wp2;refine⟨fun h=>absurd rfl h,?_⟩;refine Qu (by kernel_rfl) ?_ _;have HE4:=Zh (Qej HE3.o (iv (n:Int)));have HN4:=Zh ((Qud (b:=nb) (k:=nb+1) (w:=W3) (by omega) (iv (n:Int))).trans HN3.o);have B4:=Zh (B3.o.setCell (p:=⟨nb,0,none⟩) (by show nb≤nb;omega) (iv (n:Int)));obtain⟨W4,hW4⟩:=Ze (W3.setCell ⟨nb,0,none⟩ (iv (n:Int)));rw [show W3.setCell ⟨nb,0,none⟩ (.int .i64 (n:Int))=W4 from hW4];rw [hW4] at HN4 HE4 B4;clear p2 n0 e0 fn fe hW4;have p4:=(B4.o.cell (p:=⟨w.heap.size,0,none⟩) hz).trans p1;have K:=Zh (HSE.o (nb+1) (nb) W4 trivial (B1.o.trans (B4.o.mono hnb')) (by omega) (2*(n:Int)) (n:Int) (by omega) HN4.o HE4.o);clear p1;go_wp2_with fail;refine K.o.mono ?_;rintro e w5 ⟨rfl,⟨hn5,he5⟩,b5⟩;have HB5:=Zh b5;have n0:=(Qd hn5).1 0;have e0:=(Qd he5).1 0;simp at n0 e0;clear b5 hn5 he5 p4 K;go_upto_region 5 with(fail)
  go_region;go_wp2;exact bodyPost_ret (v:=.tuple #[iv (2*(n:Int)+QDb (QH p)),iv ((n:Int)+QEb (QH p))]) (by simp [results,Tryz.results158,go_sem]) rfl ⟨by rw [HNN.o,HEE.o],Qp HB5.o 1⟩
end
section
open Go.RowKit
variable [Base]
theorem Qmr {B z:Nat} (nb:Nat) {w0 w:World} (kw:KwIn B w0) (hB:B≤w0.heap.size) (hz:w0.heap.size=z) (p:List Qo) (v:Value) (h:QAa w0 v p) (hv:QMa p=true) (hf:∀f∈p,∀b∈f.blocks,∀s∈b.stmts,FitS s) (b0:Below z w0 w)
  (St:List QD→World→Prop) (HA:∀d x y,St d x→Below x.heap.size x y→St d y)
  (HS:∀(d:List QD) (s:QD) (r:List QD) (u t:Value) (x:World),QH p=d++s::r→St d x→Below z w0 x→Qea w0 u s.uses→(∃a n c,t=.slice a n c) →
   Calls Tryz.prog 105 #[.agg #[iv s.op,sv s.dfn,u,t],.pointer (some ⟨nb,0,none⟩)] x (fun e y=>e=.returned (.tuple #[])∧St (d++[s]) y∧Below z x y))
  (s0:St [] w):
  Calls Tryz.prog 104 #[.agg #[v],.func (.func 105) #[] #[.pointer (some ⟨nb,0,none⟩)]] w (fun e y=>e=.returned (.tuple #[])∧St (QH p) y∧Below z w0 y):=by
 have zw:z≤w.heap.size:=by have:=b0.size;omega
 have C0:=(Below.refl w.heap.size w).alloc (Nat.le_refl _) (.cells #[v] 25);have B0:=b0.trans (C0.mono zw);have HV:=Zh (QFe (w:=w.alloc (.cells #[v] 25)) (kw.keep fun k hk=>B0.block k (by omega)) (by simp;omega) p v (h.keep (Qf.below (hz▸B0)) (Qf.below (hz▸B0)) (Qf.below (hz▸B0)) (Qf.below (hz▸B0))) hf);rw [hv] at HV;have S0:=Zh (HA _ _ _ s0 C0);have HHA:=Zh HA;have HHS:=Zh HS;obtain⟨a,c,rfl,hn,hc⟩:=h.cell;obtain⟨n,hl⟩:=Ze p.length;rw [hl] at hn HV S0 ⊢;have n8:n≤8:=by have:=(QUc hv).1;omega
 have HL:=Zh hl;have HC:=Zh hc;have HF:=Zh hf;have HW:=Zh (QUc hv);rw [hl] at B0;have HB0:=Zh B0;have hbs:Base.b≤z:=by have:=kw.bs;omega
 clear h hc kw B0 hl hf b0 hv C0 s0 HA HS hn;go_enter Tryz.func104,Tryz.ntmps104;go_wp2_with fail;refine HV.o.mono ?_;rintro e w1 ⟨rfl,b⟩;have p0:w1.heap[w.heap.size]? = some (.cells #[.slice a n c] 25 (0,0)):=(b.block w.heap.size (by simp)).trans (heap_alloc_new _ _);have S1:=Zh (HHA.o _ _ _ S0.o b);have hsz:=b.size;simp at hsz;have B1:=Zh (HB0.o.trans (b.mono (by simp;omega)));obtain⟨bp,hbp⟩:=Ze w.heap.size;rw [hbp] at p0 hsz zw;rw [hbp];have HP:=Zh p0;have q0:=(Qd p0).1 0;simp at q0;clear b p0 hbp HB0 S0 HV;go_wp2;clear q0;go_loopw [16] (fun x wr=>∃i:Nat,i≤n∧x=.int .i64 i∧Hid (Below z w0 wr)∧z≤wr.heap.size∧Hid (St (QH (p.take i)) wr)) (fun x _=>n-(intOf x).toNat)
 case atStart=>exact⟨0,Nat.zero_le _,rfl,B1,by omega,S1⟩
 case round=>
  obtain⟨i,hi,rfl,HB,hzr,HSt⟩:=hrel;by_cases hlt:i<n
  ·obtain⟨f,hf2⟩:∃f,p[i]? = some f:=⟨_,List.getElem?_eq_getElem (show i<p.length by have:=HL.o;omega)⟩;obtain⟨fb,off,bv,rfl,hfb,g0,g1,hbl⟩:=HC.o i f hf2;have g0:=(HB.o.cell (p:=⟨fb,off+i*2,none⟩) (by show fb<z;omega)).trans g0;have g1:=(HB.o.cell (p:=⟨fb,off+i*2+1,none⟩) (by show fb<z;omega)).trans g1;obtain⟨ba,bc,rfl,hbn,hbc⟩:=hbl.cell;have HBC:=Zh hbc;obtain⟨bn,hbl2⟩:=Ze f.blocks.length;rw [hbl2] at hbn g1;have b16:bn≤16:=by have:=(HW.o.2 f (List.mem_of_getElem? hf2)).1;omega
   have HBL:=Zh hbl2;have HFI:=Zh hf2;clear hf2 hbl hbc hbl2 hbn;have A1:=(Below.refl wr.heap.size wr).alloc (Nat.le_refl _) (.cells #[sv f.name,.slice ba bn bc] 89);have HB2:=Zh (HB.o.trans (A1.mono hzr));have HS2:=Zh (show St (QH (p.take i)++Qga (f.blocks.take 0)) (wr.alloc (.cells #[sv f.name,.slice ba bn bc] 89)) by rw [show QH (p.take i)++Qga (f.blocks.take 0)=QH (p.take i) by simp [Qga]];exact HHA.o _ _ _ HSt.o A1);clear A1 HB HSt;go_wp2;clear g0 g1;go_loopw [23] (fun x wi=>∃k:Nat,k≤bn∧x=.int .i64 k∧Hid (Below z w0 wi)∧z≤wi.heap.size∧Hid (St (QH (p.take i)++Qga (f.blocks.take k)) wi)) (fun x _=>bn-(intOf x).toNat)
   case atStart=>exact⟨0,Nat.zero_le _,rfl,HB2,by simp;omega,HS2⟩
   case round=>
    obtain⟨k,hk,rfl,HB,hzi,HSt⟩:=hrel;by_cases hlt2:k<bn
    ·obtain⟨b,hb⟩:∃b,f.blocks[k]? = some b:=⟨_,List.getElem?_eq_getElem (show k<f.blocks.length by have:=HBL.o;omega)⟩;obtain⟨kb,koff,sv1,rfl,hkb,g0,g1,hsl⟩:=HBC.o k b hb;have g0:=(HB.o.cell (p:=⟨kb,koff+k*2,none⟩) (by show kb<z;omega)).trans g0;have g1:=(HB.o.cell (p:=⟨kb,koff+k*2+1,none⟩) (by show kb<z;omega)).trans g1;obtain⟨sa,sc,rfl,hsn,hsc⟩:=hsl.cell;have HSC:=Zh hsc;obtain⟨sn,hsl2⟩:=Ze b.stmts.length;rw [hsl2] at hsn g1;have s32:sn≤32:=by have:=(HW.o.2 f (List.mem_of_getElem? HFI.o)).2 b (List.mem_of_getElem? hb);omega
     have HSL:=Zh hsl2;have HBI:=Zh hb;clear hb hsl hsc hsl2 hsn;have A1:=(Below.refl wr.heap.size wr).alloc (Nat.le_refl _) (.cells #[sv b.name,.slice sa sn sc] 92);have HB3:=Zh (HB.o.trans (A1.mono hzi));have HS3:=Zh (show St (QH (p.take i)++Qga (f.blocks.take k)++b.stmts.take 0) (wr.alloc (.cells #[sv b.name,.slice sa sn sc] 92)) by rw [List.take_zero,List.append_nil];exact HHA.o _ _ _ HSt.o A1);clear A1 HB HSt;go_wp2;clear g0 g1;go_loopw [30] (fun x wi=>∃j:Nat,j≤sn∧x=.int .i64 j∧Hid (Below z w0 wi)∧z≤wi.heap.size∧Hid (St (QH (p.take i)++Qga (f.blocks.take k)++b.stmts.take j) wi)) (fun x _=>sn-(intOf x).toNat)
     case atStart=>exact⟨0,Nat.zero_le _,rfl,HB3,by simp;omega,HS3⟩
     case round=>
      obtain⟨j,hj,rfl,HB,hzj,HSt⟩:=hrel;by_cases hlt3:j<sn
      ·obtain⟨s,hs⟩:∃s,b.stmts[j]? = some s:=⟨_,List.getElem?_eq_getElem (show j<b.stmts.length by have:=HSL.o;omega)⟩;obtain⟨b4,o4,u,t,rfl,hb4,c0,c1,c2,c3,hu,ht⟩:=HSC.o j s hs;obtain⟨ua,uc,rfl,-⟩:=hu.cell;obtain⟨ta,tc,rfl,-⟩:=ht.cell;obtain⟨un,hun⟩:=Ze s.uses.length;obtain⟨tn,htn⟩:=Ze s.targets.length;rw [hun] at hu c2;rw [htn] at ht c3;obtain⟨r,hsp⟩:=QVg HFI.o HBI.o hs;have c0:=(HB.o.cell (p:=⟨b4,o4+j*4,none⟩) (by show b4<z;omega)).trans c0;have c1:=(HB.o.cell (p:=⟨b4,o4+j*4+1,none⟩) (by show b4<z;omega)).trans c1;have c2:=(HB.o.cell (p:=⟨b4,o4+j*4+2,none⟩) (by show b4<z;omega)).trans c2;have c3:=(HB.o.cell (p:=⟨b4,o4+j*4+3,none⟩) (by show b4<z;omega)).trans c3;have A1:=(Below.refl wr.heap.size wr).alloc (Nat.le_refl _) (.cells #[iv s.op,sv s.dfn,.slice ua un uc,.slice ta tn tc] 94);have HB4:=Zh (HB.o.trans (A1.mono hzj));have K:=Zh (HHS.o _ s r (.slice ua un uc) (.slice ta tn tc) (wr.alloc (.cells #[iv s.op,sv s.dfn,.slice ua un uc,.slice ta tn tc] 94)) hsp (HHA.o _ _ _ HSt.o A1) HB4.o hu ⟨_,_,_,rfl⟩);have HE:=Zh (show QH (p.take i)++Qga (f.blocks.take k)++b.stmts.take j++[s]=QH (p.take i)++Qga (f.blocks.take k)++b.stmts.take (j+1) by rw [List.take_add_one,hs];simp);have zw2:z≤(wr.alloc (.cells #[iv s.op,sv s.dfn,.slice ua un uc,.slice ta tn tc] 94)).heap.size:=by simp;omega
       clear A1 HB HSt hu ht hun htn hsp hs;go_wp2_with fail;refine K.o.mono ?_;rintro e w2 ⟨rfl,S2,b2⟩;have HB5:=Zh (HB4.o.trans b2);have HSt:=Zh (HE.o▸S2);have hz2:z≤w2.heap.size:=Nat.le_trans zw2 b2.size;clear S2 b2 K zw2;go_wp2;go_roundw
       case rel=>exact⟨j+1,by omega,by go_num,HB5,hz2,HSt⟩
       case measure=>simp [intOf];omega
      ·have HSt:=Zh (show St (QH (p.take i)++Qga (f.blocks.take (k+1))) wr by rw [QWg HBI.o,←List.append_assoc,←show b.stmts.take j=b.stmts from List.take_of_length_le (by rw [HSL.o];omega)];exact HSt.o);go_wp2;go_roundw
       case rel=>exact⟨k+1,by omega,by go_num,HB,hzj,HSt⟩
       case measure=>simp [intOf];omega
    ·have HSt:=Zh (show St (QH (p.take (i+1))) wr by rw [Qni HFI.o,show Qzf f=Qga (f.blocks.take k) by rw [List.take_of_length_le (by rw [HBL.o];omega)];rfl];exact HSt.o);go_wp2;go_roundw
     case rel=>exact⟨i+1,by omega,by go_num,HB,hzi,HSt⟩
     case measure=>simp [intOf];omega
  ·have HSt:=Zh (show St (QH p) wr by rw [←show p.take i=p from List.take_of_length_le (by rw [HL.o];omega)];exact HSt.o);go_wp2;exact bodyPost_end (v:=.tuple #[]) (by simp [results,Tryz.results104,go_sem]) rfl ⟨rfl,HSt.o,HB.o⟩
end
section
open Go.RowKit
variable [Base]
def VarsQ (l:List Str) (w:World) (e:Ending) (w':World):Prop:=∃v,e=.returned v∧w'.ownsRow w.heap.size TS 1 v l.length (l.map sv)∧Below w.heap.size w w'
theorem Qji {p:List Qo} (hv:QMa p=true):∀s∈QH p,stmtB s=true:=by
 intro s hs;unfold QH at hs;obtain⟨l,hl1,hs⟩:=List.mem_flatten.1 hs;obtain⟨f,hf1,rfl⟩:=List.mem_map.1 hl1;obtain⟨l,hl2,hs⟩:=List.mem_flatten.1 hs;obtain⟨b,hb1,rfl⟩:=List.mem_map.1 hl2;unfold QMa at hv;simp only [Bool.and_eq_true,decide_eq_true_eq,List.all_eq_true] at hv;have h:=hv.2.2 f hf1;unfold QNc at h;simp only [Bool.and_eq_true,decide_eq_true_eq,List.all_eq_true] at h;have h2:=h.2.2.2 b hb1;unfold Qoc at h2;simp only [Bool.and_eq_true,decide_eq_true_eq,List.all_eq_true] at h2;exact h2.2.2.2 s hs
theorem Qpj:∀(d:List QD) (out:List Str),(∀s∈d,s.uses.length≤4)→(d.foldl QYe out).length≤out.length+5*d.length
|[],out,_=>by simp
|s::r,out,h=>by
  have h1:=Qpj r (QYe out s) (fun q hq=>h q (List.mem_cons_of_mem _ hq))
  have h2:(QYe out s).length≤out.length+(s.dfn::s.uses).length:=QPh _ _
  have h3:=h s List.mem_cons_self
  simp only [List.foldl_cons,List.length_cons] at *
  omega
theorem QPi {B:Nat} {w:World} (kw:KwIn B w) (hB:B≤w.heap.size) (p:List Qo) (v:Value) (h:QAa w v p) (hf:∀f∈p,∀b∈f.blocks,∀s∈b.stmts,FitS s) (hv:QMa p=true):
  Calls Tryz.prog 45 #[.agg #[v]] w (VarsQ (QN p) w):=by
 obtain⟨a,c,rfl,hn,-⟩:=h.cell;obtain⟨n,hl⟩:=Ze p.length;obtain⟨z,hz⟩:=Ze w.heap.size;obtain⟨w1,h1⟩:=Ze (w.alloc (.cells #[.slice a n c] 25));obtain⟨w2,h2⟩:=Ze (w1.alloc (.map #[] 0));obtain⟨w3,h3⟩:=Ze (w2.alloc (.cells #[.map (some (z+1))] 163));obtain⟨w4,h4⟩:=Ze (w3.alloc (.cells #[.slice none 0 0] 86));obtain⟨w5,h5⟩:=Ze (w4.alloc (.cells #[.func (.func 103) #[] #[.pointer (some ⟨z+1+1,0,none⟩),.pointer (some ⟨z+1+1+1,0,none⟩)]] 164));have s1:w1.heap.size=z+1:=by rw [←h1,←hz];simp
 have s2:w2.heap.size=z+1+1:=by rw [←h2,←s1];simp
 have s3:w3.heap.size=z+1+1+1:=by rw [←h3,←s2];simp
 have s4:w4.heap.size=z+1+1+1+1:=by rw [←h4,←s3];simp
 have s5:w5.heap.size=z+1+1+1+1+1:=by rw [←h5,←s4];simp
 have B1:Below z w w1:=by rw [←h1,←hz];exact Zb
 have B2:Below (z+1) w1 w2:=by rw [←h2,←s1];exact Zb
 have B3:Below (z+1+1) w2 w3:=by rw [←h3,←s2];exact Zb
 have B4:Below (z+1+1+1) w3 w4:=by rw [←h4,←s3];exact Zb
 have B5:Below (z+1+1+1+1) w4 w5:=by rw [←h5,←s4];exact Zb
 have p1:w1.heap[z]? = some (.cells #[.slice a n c] 25 (0,0)):=by rw [←h1,←hz];exact heap_alloc_new _ _
 have p5:w5.heap[z]? = some (.cells #[.slice a n c] 25 (0,0)):=(B5.block z (by omega)).trans ((B4.block z (by omega)).trans ((B3.block z (by omega)).trans ((B2.block z (by omega)).trans p1)));have m2:Qnb w2 (z+1) 0 []:=by rw [←h2,←s1];exact⟨_,(MapG.made strK Qbc w1).congr (fun x=>by simp [Qbc]) (fun _=>rfl)⟩
 have k3:w3.heap[z+1+1]? = some (.cells #[.map (some (z+1))] 163 (0,0)):=by rw [←h3,←s2];exact heap_alloc_new _ _
 have o4:w4.heap[z+1+1+1]? = some (.cells #[.slice none 0 0] 86 (0,0)):=by rw [←h4,←s3];exact heap_alloc_new _ _
 have f5:QMg (z+1+1) (z+1+1+1) (z+1+1+1+1) w5:=by unfold QMg;rw [←h5,←s4];exact heap_alloc_new _ _
 have V5:Qcc z (z+1+1) (z+1+1+1) (z+1+1+1+1) [] w5:=⟨by omega,by omega,⟨z+1,by omega,(B5.block _ (by omega)).trans ((B4.block _ (by omega)).trans k3),((m2.below (s2▸B3)).below (s3▸B4)).below (s4▸B5)⟩,f5,⟨_,(B5.block _ (by omega)).trans o4,by simp [World.ownsRow]⟩⟩;have B05:Below z w w5:=B1.trans ((B2.mono (by omega)).trans ((B3.mono (by omega)).trans ((B4.mono (by omega)).trans (B5.mono (by omega)))));have hbz:Base.b≤z:=by have:=kw.bs;omega
 have hst:=Qji hv;have K:=Zh (Qmr (w:=w5) (z+1+1+1+1) kw hB hz p _ h hv hf B05 (fun d x=>Qcc z (z+1+1) (z+1+1+1) (z+1+1+1+1) (d.foldl QYe []) x) (fun d x y hx hb=>hx.below hb) (fun d s r u t x hsp hx hb hu ht=>by
   have hm:=hst s (by rw [hsp];simp);have hl:=QOl hm;refine(Qgq hz hb hbz _ s u t hx hu ht (Qlq hm) hl.2 hl.1 ?_).mono ?_
   ·have h1:=Qpj d [] (fun q hq=>(QOl (hst q (by rw [hsp];simp [hq]))).1);have h2:=QVi hv p.length;rw [List.take_length,hsp] at h2;simp at h1 h2;omega
   ·rintro e y ⟨rfl,h1,h2⟩;exact⟨rfl,by rw [List.foldl_append];exact h1,h2⟩) V5)
 have HS:=Zh hz;have H1:=Zh h1;have H2:=Zh h2;have H3:=Zh h3;have H4:=Zh h4;have H5:=Zh h5;rw [hl] at K ⊢;have p0:=(Qd p5).1 0;simp at p0;have hvp:=Zh (show QN p=(QH p).foldl QYe [] by unfold QN;rw [hv];rfl);clear h kw hf hl hv B1 B2 B3 B4 B5 m2 k3 o4 f5 V5 B05 hst p1 p5 s1 s2 s3 s4 s5 h1 h2 h3 h4 h5;have hmm:=@run_makeMap Tryz.prog;go_enter Tryz.func45,Tryz.ntmps45;go_upto_region 4 with(fail)
 try rw [hz]
 rw [show(((((w.alloc (.cells #[.slice a n c] 25)).alloc (.map #[] 0)).alloc (.cells #[.map (some (z+1))] 163)).alloc (.cells #[.slice none 0 0] 86)).alloc (.cells #[.func (.func 103) #[] #[.pointer (some ⟨z+1+1,0,none⟩),.pointer (some ⟨z+1+1+1,0,none⟩)]] 164))=w5 by rw [H1.o,H2.o,H3.o,H4.o,H5.o]];clear hz hmm;go_wp2_with fail;refine K.o.mono ?_;rintro e w6 ⟨rfl,V6,b6⟩;obtain⟨v6,o6,r6⟩:=V6.o;obtain⟨a6,c6,rfl,-,-⟩:=QXa r6;have R6:=Zh r6;have q0:=(Qd o6).1 0;have qf:=(Qd o6).2 0;simp at q0;have B6:=Zh b6;clear V6 b6 r6 o6 p0;go_wp2;rw [show((QH p).foldl QYe [])=QN p from hvp.o.symm];refine bodyPost_ret (v:=.slice a6 (QN p).length c6) (by simp [results,Tryz.results45,go_sem]) rfl ⟨_,rfl,?_,?_⟩
 ·rw [HS.o,hvp.o];exact R6.o
 ·rw [HS.o];exact B6.o
end
section
open Go.RowKit
variable [Base]
theorem QHl {p:List Qo} (hv:QMa p=true):(∀f∈p,f.name.length≤1000)∧∀f∈p,Qct f:=by
 have hs:=Qji hv;have hm:∀f∈p,∀b∈f.blocks,∀s∈b.stmts,s∈QH p:=fun f hf b hb s hx=>by
  unfold QH;exact List.mem_flatten.2 ⟨_,List.mem_map.2 ⟨f,hf,rfl⟩,List.mem_flatten.2 ⟨_,List.mem_map.2 ⟨b,hb,rfl⟩,hx⟩⟩
 unfold QMa at hv;simp only [Bool.and_eq_true,decide_eq_true_eq,List.all_eq_true] at hv;refine⟨fun f hf=>?_,fun f hf=>⟨fun b hb=>?_,fun b hb s hx t ht=>?_⟩⟩
 ·have h:=hv.2.2 f hf;unfold QNc at h;simp only [Bool.and_eq_true,decide_eq_true_eq,List.all_eq_true] at h;exact Qaf h.1
 ·have h:=hv.2.2 f hf;unfold QNc at h;simp only [Bool.and_eq_true,decide_eq_true_eq,List.all_eq_true] at h;have h2:=h.2.2.2 b hb;unfold Qoc at h2;simp only [Bool.and_eq_true,decide_eq_true_eq,List.all_eq_true] at h2;exact Qaf h2.1
 ·have h:=hs s (hm f hf b hb s hx);rw [QYi] at h;unfold QHh at h;simp only [Bool.and_eq_true,List.all_eq_true] at h;have:=Qaf (h.2.2.2.2.2 t (by unfold Qhh;simp [ht]));unfold maxLen;omega
theorem QQm {fs:List Str} {l:List Qo} {k:Nat} {f:Qo} (h:l[k]? = some f):QQc fs (l.drop k)=Qte (Qxf fs f) (QQc fs (l.drop (k+1))):=by
 obtain⟨hk,rfl⟩:=List.getElem?_eq_some_iff.1 h;rw [List.drop_eq_getElem_cons hk];rfl
theorem QYh {B:Nat} {w:World} (kw:KwIn B w) (hB:B≤w.heap.size) (p:List Qo) (v:Value) (h:QAa w v p) (hf:∀f∈p,∀b∈f.blocks,∀s∈b.stmts,FitS s):
  Calls Tryz.prog 96 #[.agg #[v]] w (Qbu (QFa p) w):=by
 obtain⟨pb,hpb⟩:=Ze w.heap.size;have HV:=Zh (fun (x:World) (b:Below pb w x)=>QFe (kw.keep fun k hk=>b.block k (by omega)) (by have:=b.size;omega) p v (h.keep (Qf.below (hpb▸b)) (Qf.below (hpb▸b)) (Qf.below (hpb▸b)) (Qf.below (hpb▸b))) hf);have HSZ:=Zh (fun (x:World) (b:Below pb w x)=>Qqq (kw.keep fun k hk=>b.block k (by omega)) (by have:=b.size;omega) p v (h.keep (Qf.below (hpb▸b)) (Qf.below (hpb▸b)) (Qf.below (hpb▸b)) (Qf.below (hpb▸b))) hf);have HVA:=Zh (fun (x:World) (b:Below pb w x) hv=>QPi (kw.keep fun k hk=>b.block k (by omega)) (by have:=b.size;omega) p v (h.keep (Qf.below (hpb▸b)) (Qf.below (hpb▸b)) (Qf.below (hpb▸b)) (Qf.below (hpb▸b))) hf hv);have HDU:=Zh (fun (x:World) (b:Below pb w x) hp=>QFs p hp v x (h.keep (Qf.below (hpb▸b)) (Qf.below (hpb▸b)) (Qf.below (hpb▸b)) (Qf.below (hpb▸b))));obtain⟨a,c,rfl,hn,hc⟩:=h.cell;have HC:=Zh hc;obtain⟨n,hl⟩:=Ze p.length;rw [hl] at hn HV HSZ HVA HDU ⊢;unfold maxLen at hn;obtain⟨W,hW⟩:=Ze ((w.alloc (.cells #[.slice a n c] 25)).alloc (.cells #[iv 0,iv 0,iv 0,iv 0] 108));have HPB:=Zh (show W.heap[pb]? = some (.cells #[.slice a n c] 25 (0,0)) by rw [←hW,←hpb];exact Qfa _ (heap_alloc_new _ _));have HRB:=Zh (show W.heap[pb+1]? = some (.cells #[iv 0,iv 0,iv 0,iv 0] 108 (0,0)) by rw [←hW,←hpb];have:=heap_alloc_new (w.alloc (.cells #[.slice a n c] 25)) (.cells #[iv 0,iv 0,iv 0,iv 0] 108);rwa [World.size_alloc] at this);have BW:=Zh (show Below pb w W by rw [←hW,←hpb];exact(Zb).alloc (by simp) _);have HWW:=Zh hW;have HPE:=Zh hpb;have HL:=Zh hl;have HFF:=Zh hf;clear h hc hl hW kw hf;have x0:=(Qd HPB.o).1 0;simp at x0;obtain⟨r,hr⟩:=Ze (QMa p);rw [hr] at HV;have HR0:=Zh hr;clear hr;go_enter Tryz.func96,Tryz.ntmps96;go_upto_region 1 with(fail)
 rw [show(w.alloc (.cells #[.slice a n c] 25)).alloc (.cells #[iv 0,iv 0,iv 0,iv 0] 108)=W from HWW.o]
 try rw [hpb]
 clear hpb;go_wp2_with fail;refine(HV.o W BW.o).mono ?_;rintro e w1 ⟨rfl,b1⟩;have HPB1:=Zh (Qc HPB.o b1 (Qb HPB.o));have HRB1:=Zh (Qc HRB.o b1 (Qb HRB.o));have B1:=Zh (BW.o.trans (b1.mono (by have:=BW.o.size;have:=HPE.o;omega)));clear b1 x0;have x0:=(Qd HPB1.o).1 0;simp at x0;obtain⟨r0,r1,r2,r3⟩:=Qt HRB1.o;have fr:=(Qa HRB1.o).2
 cases r
 ·have HF:=Zh (show QFa p=1 by unfold QFa;rw [HR0.o];rfl);go_wp2;rw [HF.o];obtain⟨z0,z1,z2,z3⟩:=Qt (set4 HRB1.o (iv 0) (iv 0) (iv 0) (iv 0));exact bodyPost_ret (v:=.tuple #[.agg #[iv 0,iv 0,iv 0,iv 0],iv 1]) (by simp [results,Tryz.results96,go_sem,z0,z1,z2,z3]) rfl ⟨_,_,_,_,rfl,((((HPE.o▸B1.o).setCell (by show w.heap.size≤pb+1;have:=HPE.o;omega) _).setCell (by show w.heap.size≤pb+1;have:=HPE.o;omega) _).setCell (by show w.heap.size≤pb+1;have:=HPE.o;omega) _).setCell (by show w.heap.size≤pb+1;have:=HPE.o;omega) _⟩
 have HSH:=Zh (QHl HR0.o);have K:=Zh (HDU.o w1 B1.o HSH.o.1);obtain⟨fs,hfs⟩:=Ze (p.map Qo.name);rw [hfs] at K;have HFS:=Zh (show QRc p=fs from hfs);clear hfs;go_wp2_with fail;refine K.o.mono ?_;rintro e w2 ⟨mb,rfl,hm2,hb2,b2⟩;have HM2:=Zh hm2;have HPB2:=Zh (Qc HPB1.o b2 (Qb HPB1.o));have HRB2:=Zh (Qc HRB1.o b2 (Qb HRB1.o));have B2:=Zh (B1.o.trans (b2.mono (by have:=B1.o.size;have:=HPE.o;omega)));clear b2 hm2 hb2 x0 r0 r1 r2 r3 fr K;have x0:=(Qd HPB2.o).1 0;simp at x0;obtain⟨r0,r1,r2,r3⟩:=Qt HRB2.o;have fr:=(Qa HRB2.o).2;obtain⟨d,hd⟩:=Ze (dupI fs);have HCK:=Zh (show QFa p=if 0≤d then 6 else if QQc fs p≠0 then QQc fs p else if 64<(QN p).length∨256<QMd p∨1024<QNd p then 7 else 0 by unfold QFa;rw [HR0.o,HFS.o,hd];simp);rw [hd];clear hd;by_cases hd0:0≤d
 ·rw [if_pos hd0] at HCK;go_wp2;rw [HCK.o];obtain⟨z0,z1,z2,z3⟩:=Qt (set4 HRB2.o (iv 1) (iv d) (iv (-1)) (iv (-1)));exact bodyPost_ret (v:=.tuple #[.agg #[iv 1,iv d,iv (-1),iv (-1)],iv 6]) (by simp [results,Tryz.results96,go_sem,z0,z1,z2,z3]) rfl ⟨_,_,_,_,rfl,((((HPE.o▸B2.o).setCell (by show w.heap.size≤pb+1;have:=HPE.o;omega) _).setCell (by show w.heap.size≤pb+1;have:=HPE.o;omega) _).setCell (by show w.heap.size≤pb+1;have:=HPE.o;omega) _).setCell (by show w.heap.size≤pb+1;have:=HPE.o;omega) _⟩
 rw [if_neg hd0] at HCK;go_wp2;clear x0 r0 r1 r2 r3 fr;go_loopw [29] (fun y wr=>∃k:Nat,k≤n∧y=.int .i64 k∧Hid (Below pb w wr)∧Hid (Qnb wr mb fs.length fs)∧Hid (wr.heap[pb]? = some (.cells #[.slice a n c] 25 (0,0)))∧Hid (wr.heap[pb+1]? = some (.cells #[iv 0,iv 0,iv 0,iv 0] 108 (0,0)))∧Hid (QQc fs p=QQc fs (p.drop k))) (fun y _=>n-(intOf y).toNat)
 case atStart=>exact⟨0,Nat.zero_le _,rfl,B2.o,HM2.o,HPB2.o,HRB2.o,rfl⟩
 case round=>
  obtain⟨k,hk,rfl,HB,HM,HP,HR,HE⟩:=hrel;by_cases hlt:k<n
  ·obtain⟨f,hf⟩:∃f,p[k]? = some f:=⟨_,List.getElem?_eq_getElem (by rw [HL.o];exact hlt)⟩;obtain⟨fb,off,bv,rfl,hfb,g0,g1,hbl⟩:=HC.o k f hf;have hpe:=HPE.o;have g0:=(HB.o.cell (p:=⟨fb,off+k*2,none⟩) (by show fb<pb;omega)).trans g0;have g1:=(HB.o.cell (p:=⟨fb,off+k*2+1,none⟩) (by show fb<pb;omega)).trans g1;have HBL:=Zh (hbl.keep (Qf.below (hpe.symm▸HB.o)) (Qf.below (hpe.symm▸HB.o)) (Qf.below (hpe.symm▸HB.o)));obtain⟨ba,bc,rfl,-,-⟩:=hbl.cell;obtain⟨bn,hbn⟩:=Ze (List.length f.blocks);rw [hbn] at g1 HBL;have HSF:=Zh (HSH.o.2 f (List.mem_of_getElem? hf));have HD:=Zh (QQm (fs:=fs) hf);obtain⟨U,hU⟩:=Ze (wr.alloc (.cells #[sv f.name,.slice ba bn bc] 89));have BU:=Zh (show Below wr.heap.size wr U by rw [←hU];exact Zb);have HXB:=Zh (show U.heap[wr.heap.size]? = some (.cells #[sv f.name,.slice ba bn bc] 89 (0,0)) by rw [←hU];exact heap_alloc_new _ _);have HUU:=Zh hU;have HBU:=Zh (HB.o.trans (BU.o.mono (by have:=HB.o.size;omega)));have KF:=Zh (QXj f k fs mb fs.length (.slice ba bn bc) U (HBL.o.keep (Qf.below BU.o) (Qf.below BU.o) (Qf.below BU.o)) HSF.o (HM.o.below BU.o));obtain⟨er,her⟩:=Ze (Qxf fs f);rw [her] at KF HD;obtain⟨xb,hxb⟩:=Ze wr.heap.size;rw [hxb] at HXB BU;have HXE:=Zh hxb;clear hf hbl hbn hU her hpe;go_upto_region 9 with(fail)
   rw [show wr.alloc (.cells #[sv f.name,.slice ba bn bc] 89)=U from HUU.o]
   try rw [hxb]
   clear hxb g0 g1;obtain⟨x0,x1⟩:=Qq HXB.o;go_wp2_with fail;refine KF.o.mono ?_;rintro e w3 ⟨na,nb,nc,nd,rfl,b3⟩;have hsU:pb≤U.heap.size:=by have:=HBU.o.size;have:=HPE.o;omega
   have b4:=(Below.refl w3.heap.size w3).alloc (Nat.le_refl _) (.cells #[iv na,iv nb,iv nc,iv nd] 108);have b34:=b3.trans (b4.mono b3.size);have HB4:=Zh (HBU.o.trans (b34.mono hsU));have HM4:=Zh ((HM.o.below (HXE.o.symm▸BU.o)).below b34);have HP4:=Zh (Qc (Qc HP.o BU.o (by have:=Qb HP.o;have:=HXE.o;omega)) b34 (by have:=Qb HP.o;have:=BU.o.size;omega));have HR4:=Zh (Qc (Qc HR.o BU.o (by have:=Qb HR.o;have:=HXE.o;omega)) b34 (by have:=Qb HR.o;have:=BU.o.size;omega));have HZ:=Zh (heap_alloc_new w3 (.cells #[iv na,iv nb,iv nc,iv nd] 108));clear b3 b4 b34 x0 x1;by_cases her0:er=0
   ·have HF:=Zh (show QQc fs p=QQc fs (p.drop (k+1)) by rw [HE.o,HD.o,her0];rfl);have hne0:(er != 0)=false:=by simpa using her0
    clear her0;go_wp2;go_roundw
    case rel=>exact⟨k+1,by omega,by go_num,HB4,HM4,HP4,HR4,HF⟩
    case measure=>simp [intOf];omega
   ·have HF:=Zh (show QFa p=er by rw [HCK.o,HE.o,HD.o,QUh her0,if_pos her0]);have hne0:(er != 0)=true:=by simpa using her0
    clear her0;obtain⟨V,hV⟩:=Ze (w3.alloc (.cells #[iv na,iv nb,iv nc,iv nd] 108));have HVV:=Zh hV;rw [hV] at HB4 HR4 HZ;obtain⟨yb,hyb⟩:=Ze w3.heap.size;rw [hyb] at HZ;clear hV HM4 HP4;go_upto_region 10 with(fail)
    rw [show w3.alloc (.cells #[iv na,iv nb,iv nc,iv nd] 108)=V from HVV.o]
    try rw [hyb]
    clear hyb;obtain⟨r0,r1,r2,r3⟩:=Qt HR4.o;obtain⟨y0,y1,y2,y3⟩:=Qt HZ.o;have fr:=(Qa HR4.o).2;go_wp2;rw [HF.o];obtain⟨z0,z1,z2,z3⟩:=Qt (set4 HR4.o (iv na) (iv nb) (iv nc) (iv nd));exact bodyPost_ret (v:=.tuple #[.agg #[iv na,iv nb,iv nc,iv nd],iv er]) (by simp [results,Tryz.results96,go_sem,z0,z1,z2,z3]) rfl ⟨_,_,_,_,rfl,((((HPE.o▸HB4.o).setCell (by show w.heap.size≤pb+1;have:=HPE.o;omega) _).setCell (by show w.heap.size≤pb+1;have:=HPE.o;omega) _).setCell (by show w.heap.size≤pb+1;have:=HPE.o;omega) _).setCell (by show w.heap.size≤pb+1;have:=HPE.o;omega) _⟩
  ·have HF0:=Zh (show QQc fs p=0 by rw [HE.o,List.drop_eq_nil_of_le (by rw [HL.o];omega)];rfl);have HCK2:=Zh (show QFa p=if 64<(QN p).length∨256<QMd p∨1024<QNd p then 7 else 0 by rw [HCK.o,HF0.o];rfl);have hpe:=HPE.o;have K1:=Zh (HSZ.o wr HB.o);obtain⟨nn,hnn⟩:=Ze (QMd p);obtain⟨en,hen⟩:=Ze (QNd p);obtain⟨vn,hvn⟩:=Ze ((QN p).length);rw [hnn,hen] at K1 HCK2;rw [hvn] at HCK2;have HVN:=Zh hvn;clear hnn hen hvn hpe;have x0:=(Qd HP.o).1 0;simp at x0;go_wp2_with fail;refine K1.o.mono ?_;rintro e w3 ⟨rfl,b3⟩;have HB3:=Zh (HB.o.trans (b3.mono (by have:=HB.o.size;have:=HPE.o;omega)));have HP3:=Zh (Qc HP.o b3 (Qb HP.o));have HR3:=Zh (Qc HR.o b3 (Qb HR.o));have K2:=Zh (HVA.o w3 HB3.o HR0.o);clear b3 x0;have x0:=(Qd HP3.o).1 0;simp at x0;go_wp2_with fail;refine K2.o.mono ?_;rintro e w4 ⟨vv,rfl,hvo,b4⟩;obtain⟨va,vc,rfl,-,-⟩:=QXa hvo;rw [HVN.o];have HB4:=Zh (HB3.o.trans (b4.mono (by have:=HB3.o.size;have:=HPE.o;omega)));have HR4:=Zh (Qc HR3.o b4 (Qb HR3.o));clear b4 hvo x0 K2 K1;obtain⟨r0,r1,r2,r3⟩:=Qt HR4.o;have fr:=(Qa HR4.o).2;by_cases h1:64<vn
   ·have HF:=Zh (show QFa p=7 by rw [HCK2.o,if_pos (.inl h1)]);go_wp2;rw [HF.o];obtain⟨z0,z1,z2,z3⟩:=Qt (set4 HR4.o (iv 0) (iv 0) (iv 0) (iv 0));exact bodyPost_ret (v:=.tuple #[.agg #[iv 0,iv 0,iv 0,iv 0],iv 7]) (by simp [results,Tryz.results96,go_sem,z0,z1,z2,z3]) rfl ⟨_,_,_,_,rfl,((((HPE.o▸HB4.o).setCell (by show w.heap.size≤pb+1;have:=HPE.o;omega) _).setCell (by show w.heap.size≤pb+1;have:=HPE.o;omega) _).setCell (by show w.heap.size≤pb+1;have:=HPE.o;omega) _).setCell (by show w.heap.size≤pb+1;have:=HPE.o;omega) _⟩
   ·by_cases h2:256<nn
    ·have HF:=Zh (show QFa p=7 by rw [HCK2.o,if_pos (.inr (.inl h2))]);go_wp2;rw [HF.o];obtain⟨z0,z1,z2,z3⟩:=Qt (set4 HR4.o (iv 0) (iv 0) (iv 0) (iv 0));exact bodyPost_ret (v:=.tuple #[.agg #[iv 0,iv 0,iv 0,iv 0],iv 7]) (by simp [results,Tryz.results96,go_sem,z0,z1,z2,z3]) rfl ⟨_,_,_,_,rfl,((((HPE.o▸HB4.o).setCell (by show w.heap.size≤pb+1;have:=HPE.o;omega) _).setCell (by show w.heap.size≤pb+1;have:=HPE.o;omega) _).setCell (by show w.heap.size≤pb+1;have:=HPE.o;omega) _).setCell (by show w.heap.size≤pb+1;have:=HPE.o;omega) _⟩
    ·by_cases h3:1024<en
     ·have HF:=Zh (show QFa p=7 by rw [HCK2.o,if_pos (.inr (.inr h3))]);go_wp2;rw [HF.o];obtain⟨z0,z1,z2,z3⟩:=Qt (set4 HR4.o (iv 0) (iv 0) (iv 0) (iv 0));exact bodyPost_ret (v:=.tuple #[.agg #[iv 0,iv 0,iv 0,iv 0],iv 7]) (by simp [results,Tryz.results96,go_sem,z0,z1,z2,z3]) rfl ⟨_,_,_,_,rfl,((((HPE.o▸HB4.o).setCell (by show w.heap.size≤pb+1;have:=HPE.o;omega) _).setCell (by show w.heap.size≤pb+1;have:=HPE.o;omega) _).setCell (by show w.heap.size≤pb+1;have:=HPE.o;omega) _).setCell (by show w.heap.size≤pb+1;have:=HPE.o;omega) _⟩
     ·have HF:=Zh (show QFa p=0 by rw [HCK2.o,if_neg (by omega)]);go_wp2;rw [HF.o];obtain⟨z0,z1,z2,z3⟩:=Qt (set4 HR4.o (iv 0) (iv 0) (iv 0) (iv 0));exact bodyPost_ret (v:=.tuple #[.agg #[iv 0,iv 0,iv 0,iv 0],iv 0]) (by simp [results,Tryz.results96,go_sem,z0,z1,z2,z3]) rfl ⟨_,_,_,_,rfl,((((HPE.o▸HB4.o).setCell (by show w.heap.size≤pb+1;have:=HPE.o;omega) _).setCell (by show w.heap.size≤pb+1;have:=HPE.o;omega) _).setCell (by show w.heap.size≤pb+1;have:=HPE.o;omega) _).setCell (by show w.heap.size≤pb+1;have:=HPE.o;omega) _⟩
end
section
open Go.RowKit
variable [Base]
abbrev NT:TypeId:=108
def Qrm (n:Qx):List Value:=[iv n.kind,iv n.fn,iv n.bl,iv n.st]
def Qrf (l:List Qx):List Value:=(l.map Qrm).flatten
def QJi (w:World) (v:Value) (l:List Qx):Prop:=Qg w NT 4 v (Qrf l)
def OwnN (z:Nat) (w:World) (v:Value) (l:List Qx):Prop:=w.ownsRow z NT 4 v l.length (Qrf l)
theorem Qeo (l:List Qx):∀x∈l.map Qrm,x.length=4:=fun x hx=>by
 obtain⟨n,-,rfl⟩:=List.mem_map.1 hx
 rfl
theorem Qfo (a b:List Qx):Qrf (a++b)=Qrf a++Qrf b:=by simp [Qrf]
theorem OwnN.at_ {z:Nat} {w:World} {v:Value} {l:List Qx} (h:OwnN z w v l):QJi w v l:=Qg.of_owns h
theorem OwnN.below {z:Nat} {w w':World} {v:Value} {l:List Qx} (h:OwnN z w v l) (b:Below w.heap.size w w'):OwnN z w' v l:=QZd h b
theorem OwnN.nil {z:Nat} {w:World}:OwnN z w (.slice none 0 0) []:=by simp [OwnN,World.ownsRow,Qrf]
theorem OwnN.push {z g cap:Nat} {w:World} {l:List Qx} {n:Qx} (h:w.ownsRow z NT 4 (.slice (some ⟨g,0,none⟩) (l.length+1) cap) (l.length+1) (Qrf l++Qrm n)):OwnN z w (.slice (some ⟨g,0,none⟩) (l.length+1) cap) (l++[n]):=by
 unfold OwnN;rw [Qfo,List.length_append]
 simpa [Qrf] using h
theorem QJi.cell {w:World} {v:Value} {l:List Qx} (h:QJi w v l):∃a c,v=.slice a l.length c∧l.length≤maxLen∧l.length≤c∧c≤maxLen∧∀k n,l[k]? = some n→∃b off,a=some ⟨b,off,none⟩∧b<w.heap.size ∧
  w.cell? ⟨b,off+k*4,none⟩=some (iv n.kind)∧w.cell? ⟨b,off+k*4+1,none⟩=some (iv n.fn)∧w.cell? ⟨b,off+k*4+2,none⟩=some (iv n.bl)∧w.cell? ⟨b,off+k*4+3,none⟩=some (iv n.st):=by
 obtain⟨a,c,e,hm,h3,h4,hc⟩:=QYg h (Qeo l) (by omega);rw [List.length_map] at e hm h3;refine⟨a,c,e,hm,h3,h4,fun k n hk=>?_⟩;have hx:(l.map Qrm)[k]? = some (Qrm n):=by rw [List.getElem?_map,hk];rfl
 obtain⟨b,off,rfl,hlt,_,hc2⟩:=hc k _ hx;exact⟨b,off,rfl,hlt,hc2 0 (by omega),hc2 1 (by omega),hc2 2 (by omega),hc2 3 (by omega)⟩
theorem QVf:(Tryz.prog.info? NT).map (fun i=>(i.zero,i.size,i.bytes))=some (some (Value.agg #[iv 0,iv 0,iv 0,iv 0]),4,32):=by kernel_rfl
theorem Qpg (i k:Nat):∀(a b:List QD) (m:Nat),Qta i k (a++b) m=Qta i k a m++Qta i k b (m+a.length)
|[],b,m=>by simp [Qta]
|x::r,b,m=>by
  show QWe i k m x++Qta i k (r++b) (m+1)=_
  rw [Qpg i k r b (m+1)]
  simp only [Qta,List.append_assoc,List.length_cons]
  rw [show m+1+r.length=m+(r.length+1) by omega]
theorem QHf (i:Nat):∀(a b:List QI) (m:Nat),Qca i (a++b) m=Qca i a m++Qca i b (m+a.length)
|[],b,m=>by simp [Qca]
|x::r,b,m=>by
  show Qta i m x.stmts 0++Qca i (r++b) (m+1)=_
  rw [QHf i r b (m+1)]
  simp only [Qca,List.append_assoc,List.length_cons]
  rw [show m+1+r.length=m+(r.length+1) by omega]
theorem QCg:∀(a b:List Qo) (m:Nat),QB (a++b) m=QB a m++QB b (m+a.length)
|[],b,m=>by simp [QB]
|x::r,b,m=>by
  show Qcf m x++QB (r++b) (m+1)=_
  rw [QCg r b (m+1)]
  simp only [QB,List.append_assoc,List.length_cons]
  rw [show m+1+r.length=m+(r.length+1) by omega]
theorem Qgd {α:Type} {l:List α} {i:Nat} {x:α} (h:l[i]? = some x):l=l.take i++x::l.drop (i+1)∧(l.take i).length=i:=by
 have hi:i<l.length:=(List.getElem?_eq_some_iff.1 h).1;refine⟨?_,by rw [List.length_take];omega⟩;rw [←(List.getElem?_eq_some_iff.1 h).2,List.getElem_cons_drop,List.take_append_drop]
def entN (i:Nat):Qx:=⟨1,i,-1,-1⟩
def extN (i:Nat):Qx:=⟨2,i,-1,-1⟩
theorem QPm {p:List Qo} {i:Nat} {f:Qo} (h:p[i]? = some f):QB (p.take (i+1)) 0=QB (p.take i) 0++[entN i]++Qca i f.blocks 0++[extN i]:=by
 rw [List.take_add_one,h];show QB (p.take i++[f]) 0=_;rw [QCg,(Qgd h).2];simp [QB,Qcf,entN,extN]
theorem Qyl {l:List QI} {i k:Nat} {b:QI} (h:l[k]? = some b):Qca i (l.take (k+1)) 0=Qca i (l.take k) 0++Qta i k b.stmts 0:=by
 rw [List.take_add_one,h];show Qca i (l.take k++[b]) 0=_;rw [QHf,(Qgd h).2];simp [Qca]
theorem QMl {l:List QD} {i k j:Nat} {s:QD} (h:l[j]? = some s):Qta i k (l.take (j+1)) 0=Qta i k (l.take j) 0++QWe i k j s:=by
 rw [List.take_add_one,h];show Qta i k (l.take j++[s]) 0=_;rw [Qpg,(Qgd h).2];simp [Qta]
theorem QKo {p:List Qo} {i:Nat} {f:Qo} (h:p[i]? = some f):(QB (p.take i) 0).length+(Qcf i f).length≤(QB p 0).length:=by
 have h1:=(Qgd h).1;have h2:QB p 0=QB (p.take i++f::p.drop (i+1)) 0:=by rw [←h1]
 rw [h2,QCg,(Qgd h).2];simp [QB]
theorem Qmn {l:List QI} {i k:Nat} {b:QI} (h:l[k]? = some b):(Qca i (l.take k) 0).length+(Qta i k b.stmts 0).length≤(Qca i l 0).length:=by
 have h1:=(Qgd h).1;have h2:Qca i l 0=Qca i (l.take k++b::l.drop (k+1)) 0:=by rw [←h1]
 rw [h2,QHf,(Qgd h).2];simp [Qca]
theorem QEn {l:List QD} {i k j:Nat} {s:QD} (h:l[j]? = some s):(Qta i k (l.take j) 0).length+(QWe i k j s).length≤(Qta i k l 0).length:=by
 have h1:=(Qgd h).1;have h2:Qta i k l 0=Qta i k (l.take j++s::l.drop (j+1)) 0:=by rw [←h1]
 rw [h2,Qpg,(Qgd h).2];simp [Qta]
end
section
open Go.RowKit
variable [Base]
def QBu (l:List Qx) (w:World) (e:Ending) (w':World):Prop:=∃v,e=.returned v∧OwnN w.heap.size w' v l∧Below w.heap.size w w'
theorem Qyj {B:Nat} {w:World} (kw:KwIn B w) (hB:B≤w.heap.size) (p:List Qo) (v:Value) (h:QAa w v p) (hf:∀f∈p,∀b∈f.blocks,∀s∈b.stmts,FitS s):
  Calls Tryz.prog 98 #[.agg #[v]] w (QBu (QR p) w):=by
 obtain⟨z,hz⟩:=Ze w.heap.size;have hbz:Base.b≤z:=by have:=kw.bs;omega
 have HV:=Zh (fun (x:World) (b:Below z w x)=>QYh (kw.keep fun k hk=>b.block k (by omega)) (by have:=b.size;omega) p v (h.keep (Qf.below (hz▸b)) (Qf.below (hz▸b)) (Qf.below (hz▸b)) (Qf.below (hz▸b))) hf);obtain⟨a,c,rfl,hn,hc⟩:=h.cell;have HC:=Zh hc;obtain⟨n,hl⟩:=Ze p.length;rw [hl] at hn HV ⊢;unfold maxLen at hn;obtain⟨W,hW⟩:=Ze (w.alloc (.cells #[.slice a n c] 25));have HPB:=Zh (show W.heap[z]? = some (.cells #[.slice a n c] 25 (0,0)) by rw [←hW,←hz];exact heap_alloc_new _ _);have BW:=Zh (show Below z w W by rw [←hW,←hz];exact Zb);have HWW:=Zh hW;have HZ:=Zh hz;have HL:=Zh hl;clear h hc hl hW kw hf;have x0:=(Qd HPB.o).1 0;simp at x0;obtain⟨er,her⟩:=Ze (QFa p);rw [her] at HV;have HER:=Zh her;clear her;go_enter Tryz.func98,Tryz.ntmps98;go_upto_region 1 with(fail)
 rw [show w.alloc (.cells #[.slice a n c] 25)=W from HWW.o]
 try rw [hz]
 go_wp2_with fail;refine(HV.o W BW.o).mono ?_;rintro e w1 ⟨na,nb,nc,nd,rfl,b1⟩;have b2:=b1.trans (((Below.refl w1.heap.size w1).alloc (Nat.le_refl _) (.cells #[iv na,iv nb,iv nc,iv nd] 108)).mono b1.size);have hs2:w1.heap.size<(w1.alloc (.cells #[iv na,iv nb,iv nc,iv nd] 108)).heap.size:=by simp
 obtain⟨w2,hw2⟩:=Ze (w1.alloc (.cells #[iv na,iv nb,iv nc,iv nd] 108));have HW2:=Zh hw2;rw [hw2] at b2 hs2;have HP2:=Zh (Qc HPB.o b2 (Qb HPB.o));have zW:z≤W.heap.size:=by have:=BW.o.size;omega
 have HB2:=Zh (BW.o.trans (b2.mono zW));have zw2:z≤w2.heap.size:=by have:=HB2.o.size;omega
 clear b1 b2 hw2 x0 hs2 zW;by_cases he:er=0;rotate_left
 ·have hne:(er != 0)=true:=by simpa using he
  have HF:=Zh (show QR p=[] by unfold QR;rw [HER.o,if_neg he]);clear he;go_wp2;refine bodyPost_ret (v:=.slice none 0 0) (by simp [results,Tryz.results98,go_sem]) rfl ⟨_,rfl,?_,?_⟩
  ·rw [HF.o];exact OwnN.nil
  ·rw [HZ.o];exact HW2.o▸HB2.o
 have hne:(er != 0)=false:=by simpa using he
 have HNP:=Zh (show QR p=QB p 0 from Qne (by rw [HER.o,he]));have HLE:=Zh (show(QB p 0).length≤256 by rw [←HNP.o];exact Qme);clear he;go_upto_region 5 with(fail)
 rw [show w1.alloc (.cells #[iv na,iv nb,iv nc,iv nd] 108)=w2 from HW2.o];have x0:=(Qd HP2.o).1 0;simp at x0;go_wp2;clear x0;go_loopw [5,22] (fun V y wr=>∃(i:Nat) (Y:Value),i≤n∧Y=V∧y=.int .i64 i∧Hid (Below z w wr)∧z≤wr.heap.size∧Hid (OwnN z wr Y (QB (p.take i) 0))) (fun _ y _=>n-(intOf y).toNat)
 case atStart=>exact⟨0,_,Nat.zero_le _,rfl,rfl,HB2.o,zw2,OwnN.nil⟩
 case round=>
  obtain⟨i,V,hi,rfl,rfl,HB,zwr,HO⟩:=hrel;by_cases hlt:i<n;rotate_left
  ·have HO2:=Zh (show OwnN z wr V (QR p) by rw [HNP.o,←show p.take i=p from List.take_of_length_le (by rw [HL.o];omega)];exact HO.o);go_wp2;exact bodyPost_ret (v:=V) (by simp [results,Tryz.results98,go_sem]) rfl ⟨_,rfl,by rw [HZ.o];exact HO2.o,by rw [HZ.o];exact HB.o⟩
  ·obtain⟨f,hf⟩:∃f,p[i]? = some f:=⟨_,List.getElem?_eq_getElem (by rw [HL.o];exact hlt)⟩;obtain⟨fb,off,bv,rfl,hfb,g0,g1,hbl⟩:=HC.o i f hf;have g0:=(HB.o.cell (p:=⟨fb,off+i*2,none⟩) (by show fb<z;omega)).trans g0;have g1:=(HB.o.cell (p:=⟨fb,off+i*2+1,none⟩) (by show fb<z;omega)).trans g1;obtain⟨ba,bc,rfl,hbn,hbc⟩:=hbl.cell;have HBC:=Zh hbc;obtain⟨bn,hbn2⟩:=Ze (List.length f.blocks);rw [hbn2] at g1 hbn;unfold maxLen at hbn;have HBL:=Zh hbn2;have HFT:=Zh (QPm hf);have hpre:=QKo hf;have hlen0:(QB (p.take i) 0).length+(Qca i f.blocks 0).length+2≤256:=by have:=HLE.o;simp [Qcf] at hpre;omega
   obtain⟨U,hU⟩:=Ze (wr.alloc (.cells #[sv f.name,.slice ba bn bc] 89));have BU:=Zh (show Below wr.heap.size wr U by rw [←hU];exact Zb);have HXB:=Zh (show U.heap[wr.heap.size]? = some (.cells #[sv f.name,.slice ba bn bc] 89 (0,0)) by rw [←hU];exact heap_alloc_new _ _);have HUU:=Zh hU;have HBU:=Zh (HB.o.trans (BU.o.mono zwr));have HOU:=Zh (HO.o.below BU.o);have zU:z≤U.heap.size:=Nat.le_trans zwr BU.o.size;obtain⟨xb,hxb⟩:=Ze wr.heap.size;rw [hxb] at HXB BU;obtain⟨L0,hL0⟩:=Ze (QB (p.take i) 0);rw [hL0] at HOU HFT hlen0;clear hf hbl hbn2 hU hpre hbc HO HB hL0;go_upto_region 8 with(fail)
   rw [show wr.alloc (.cells #[sv f.name,.slice ba bn bc] 89)=U from HUU.o]
   try rw [hxb]
   clear hxb g0 g1;go_upto_region 9 with(at_builtin;refine QL [iv 1,iv (i:Int),iv (-1),iv (-1)] rfl _ _ _ rfl z NT _ 4 32 Tryz.underlying44 QVf rfl (by omega) _ _ _ HOU.o rfl rfl rfl rfl (by unfold maxLen;omega) (by omega) zU ?_;intro g cap w5 ho hg hzg _;have HO5:=Zh (OwnN.push (n:=entN i) ho);have B5:=Zh (Below.of_grown hg HOU.o zU);have HX5:=Zh ((hg.block _ (Qb HXB.o) (Qdb HOU.o HXB.o (by intro c fr h;injection h with _ h;exact absurd h (by decide)))).trans HXB.o);clear ho hg hzg)
   have HB5:=Zh (HBU.o.trans B5.o);have zw5:z≤w5.heap.size:=Nat.le_trans zU B5.o.size;obtain⟨x0,x1⟩:=Qq HX5.o;go_wp2;clear x0 x1;go_loopw [5,35] (fun V y wr=>∃(k:Nat) (Y:Value),k≤bn∧Y=V∧y=.int .i64 k∧Hid (Below z w wr)∧z≤wr.heap.size∧Hid (OwnN z wr Y (L0++[entN i]++Qca i (f.blocks.take k) 0))) (fun _ y _=>bn-(intOf y).toNat)
   case atStart=>exact⟨0,_,Nat.zero_le _,rfl,rfl,HB5.o,zw5,by unfold Hid;simpa [Qca] using HO5.o⟩
   case round=>
    obtain⟨k,V,hk,rfl,rfl,HB,zwr,HO⟩:=hrel;by_cases hlt2:k<bn;rotate_left
    ·have HO2:=Zh (show OwnN z wr V (L0++[entN i]++Qca i f.blocks 0) by rw [←show f.blocks.take k=f.blocks from List.take_of_length_le (by rw [HBL.o];omega)];exact HO.o);have hlq:(L0++[entN i]++Qca i f.blocks 0).length≤300:=by simp;omega
     obtain⟨M,hM⟩:=Ze (L0++[entN i]++Qca i f.blocks 0);rw [hM] at HO2 HFT hlq;clear hM HO;go_wp2_with (at_builtin;refine QL [iv 2,iv (i:Int),iv (-1),iv (-1)] rfl _ _ _ rfl z NT _ 4 32 Tryz.underlying44 QVf rfl (by omega) _ _ _ HO2.o rfl rfl rfl rfl (by unfold maxLen;omega) (by omega) zwr ?_;intro g cap w5 ho hg hzg _;have HO5:=Zh (OwnN.push (n:=extN i) ho);have B5:=Zh (Below.of_grown hg HO2.o zwr);clear ho hg hzg);have HB6:=Zh (HB.o.trans B5.o);have zw6:z≤w5.heap.size:=Nat.le_trans zwr B5.o.size;go_roundw
     case rel=>exact⟨i+1,_,by omega,rfl,by go_num,HB6,zw6,Zh (by rw [HFT.o];exact HO5.o)⟩
     case measure=>simp [intOf];omega
    ·obtain⟨b,hb⟩:∃b,f.blocks[k]? = some b:=⟨_,List.getElem?_eq_getElem (by rw [HBL.o];exact hlt2)⟩;obtain⟨kb,ko,sv1,rfl,hkb,g0,g1,hsl⟩:=HBC.o k b hb;have g0:=(HB.o.cell (p:=⟨kb,ko+k*2,none⟩) (by show kb<z;omega)).trans g0;have g1:=(HB.o.cell (p:=⟨kb,ko+k*2+1,none⟩) (by show kb<z;omega)).trans g1;obtain⟨sa,sc,rfl,hsn,hsc⟩:=hsl.cell;have HSC:=Zh hsc;obtain⟨sn,hsn2⟩:=Ze (List.length b.stmts);rw [hsn2] at g1 hsn;unfold maxLen at hsn;have HSL:=Zh hsn2;have HBT:=Zh (Qyl (i:=i) hb);have hpre:=Qmn (i:=i) hb;have hlen1:L0.length+(Qca i (f.blocks.take k) 0).length+(Qta i k b.stmts 0).length+2≤256:=by omega
     have A1:=(Below.refl wr.heap.size wr).alloc (Nat.le_refl _) (.cells #[sv b.name,.slice sa sn sc] 92);have HB3:=Zh (HB.o.trans (A1.mono zwr));obtain⟨L1,hL1⟩:=Ze (Qca i (f.blocks.take k) 0);rw [hL1] at HO HBT hlen1;have HO3:=Zh (HO.o.below A1);clear hb hsl hsn2 hpre hsc A1 hL1 HO HB;go_wp2;clear g0 g1;go_loopw [5,43] (fun V y wr=>∃(j:Nat) (Y:Value),j≤sn∧Y=V∧y=.int .i64 j∧Hid (Below z w wr)∧z≤wr.heap.size∧Hid (OwnN z wr Y (L0++[entN i]++L1++Qta i k (b.stmts.take j) 0))) (fun _ y _=>sn-(intOf y).toNat)
     case atStart=>exact⟨0,_,Nat.zero_le _,rfl,rfl,HB3.o,by simp;omega,by unfold Hid;simpa [Qta,sv] using HO3.o⟩
     case round=>
      obtain⟨j,V,hj,rfl,rfl,HB,zwr,HO⟩:=hrel;by_cases hlt3:j<sn;rotate_left
      ·have HO2:=Zh (show OwnN z wr V (L0++[entN i]++Qca i (f.blocks.take (k+1)) 0) by rw [HBT.o,←show b.stmts.take j=b.stmts from List.take_of_length_le (by rw [HSL.o];omega),←List.append_assoc];exact HO.o);go_wp2;go_roundw
       case rel=>exact⟨k+1,_,by omega,rfl,by go_num,HB,zwr,HO2⟩
       case measure=>simp [intOf];omega
      ·obtain⟨s,hs⟩:∃s,b.stmts[j]? = some s:=⟨_,List.getElem?_eq_getElem (by rw [HSL.o];exact hlt3)⟩;obtain⟨b4,o4,u,t,rfl,hb4,c0,c1,c2,c3,hu,ht⟩:=HSC.o j s hs;obtain⟨ua,uc,rfl,-⟩:=hu.cell;obtain⟨ta,tc,rfl,-⟩:=ht.cell;obtain⟨un,hun⟩:=Ze s.uses.length;obtain⟨tn,htn⟩:=Ze s.targets.length;rw [hun] at c2;rw [htn] at c3;have c0:=(HB.o.cell (p:=⟨b4,o4+j*4,none⟩) (by show b4<z;omega)).trans c0;have c1:=(HB.o.cell (p:=⟨b4,o4+j*4+1,none⟩) (by show b4<z;omega)).trans c1;have c2:=(HB.o.cell (p:=⟨b4,o4+j*4+2,none⟩) (by show b4<z;omega)).trans c2;have c3:=(HB.o.cell (p:=⟨b4,o4+j*4+3,none⟩) (by show b4<z;omega)).trans c3;have HST:=Zh (QMl (i:=i) (k:=k) hs);have hpre:=QEn (i:=i) (k:=k) hs;obtain⟨U2,hU2⟩:=Ze (wr.alloc (.cells #[iv s.op,sv s.dfn,.slice ua un uc,.slice ta tn tc] 94));have BU2:=Zh (show Below wr.heap.size wr U2 by rw [←hU2];exact Zb);have HYB:=Zh (show U2.heap[wr.heap.size]? = some (.cells #[iv s.op,sv s.dfn,.slice ua un uc,.slice ta tn tc] 94 (0,0)) by rw [←hU2];exact heap_alloc_new _ _);have HUU2:=Zh hU2;have HBU2:=Zh (HB.o.trans (BU2.o.mono zwr));obtain⟨L2,hL2⟩:=Ze (Qta i k (b.stmts.take j) 0);rw [hL2] at HO HST hpre;have HOU2:=Zh (HO.o.below BU2.o);have zU2:z≤U2.heap.size:=Nat.le_trans zwr BU2.o.size;have hlq:(L0++[entN i]++L1++L2).length≤300:=by simp;omega
       obtain⟨M,hM⟩:=Ze (L0++[entN i]++L1++L2);rw [hM] at HOU2 hlq;have HMM:=Zh hM;clear hM;obtain⟨yb,hyb⟩:=Ze wr.heap.size;rw [hyb] at HYB BU2;obtain⟨op,hop⟩:=Ze s.op;rw [hop] at HYB c0;have HUU3:=Zh (hop▸HUU2.o);have HSN:=Zh (show QWe i k j s=⟨3,i,k,j⟩::(if op=3 then [⟨4,i,k,j⟩] else []) by unfold QWe;rw [hop]);clear hs hu ht hun htn hU2 hpre HO HB hL2 HUU2 hop;go_upto_region 15 with(fail)
       rw [show wr.alloc (.cells #[iv op,sv s.dfn,.slice ua un uc,.slice ta tn tc] 94)=U2 from HUU3.o]
       try rw [hyb]
       clear hyb c0 c1 c2 c3;go_upto_region 16 with(at_builtin;refine QL [iv 3,iv (i:Int),iv (k:Int),iv (j:Int)] rfl _ _ _ rfl z NT _ 4 32 Tryz.underlying44 QVf rfl (by omega) _ _ _ HOU2.o rfl rfl rfl rfl (by unfold maxLen;omega) (by omega) zU2 ?_;intro g cap w5 ho hg hzg _;have HO5:=Zh (OwnN.push (n:=⟨3,i,k,j⟩) ho);have B5:=Zh (Below.of_grown hg HOU2.o zU2);have HX5:=Zh ((hg.block _ (Qb HYB.o) (Qdb HOU2.o HYB.o (by intro c fr h;injection h with _ h;exact absurd h (by decide)))).trans HYB.o);clear ho hg hzg)
       have HB6:=Zh (HBU2.o.trans B5.o);have zw6:z≤w5.heap.size:=Nat.le_trans zU2 B5.o.size;obtain⟨y0,y1,y2,y3⟩:=Qt HX5.o;by_cases h3:op=3
       ·rw [if_pos h3] at HSN;have HO6:=HO5;have B6:=B5;have w6q:(M++[(⟨3,i,k,j⟩:Qx)]).length≤301:=by rw [List.length_append];simp only [List.length_singleton];omega
        obtain⟨M2,hM2⟩:=Ze (M++[(⟨3,i,k,j⟩:Qx)]);rw [hM2] at HO6 w6q;have HMM2:=Zh hM2;obtain⟨w6,hw6⟩:∃w6:World,w5=w6:=⟨_,rfl⟩;subst hw6;clear HO5 B5 hM2;subst h3;go_wp2_with (at_builtin;refine QL [iv 4,iv (i:Int),iv (k:Int),iv (j:Int)] rfl _ _ _ rfl z NT _ 4 32 Tryz.underlying44 QVf rfl (by omega) _ _ _ HO6.o rfl rfl rfl rfl (by unfold maxLen;omega) (by omega) zw6 ?_;intro g cap w7 ho hg hzg _;have HO7:=Zh (OwnN.push (n:=⟨4,i,k,j⟩) ho);have B7:=Zh (Below.of_grown hg HO6.o zw6);clear ho hg hzg);have HB7:=Zh (HB6.o.trans B7.o);have zw7:=Nat.le_trans zw6 B7.o.size;go_roundw
        case rel=>exact⟨j+1,_,by omega,rfl,by go_num,HB7,zw7,Zh (by rw [HST.o,HSN.o,←List.append_assoc,HMM.o,show [(⟨3,i,k,j⟩:Qx),⟨4,i,k,j⟩]=[⟨3,i,k,j⟩]++[⟨4,i,k,j⟩] from rfl,←List.append_assoc,HMM2.o];exact HO7.o)⟩
        case measure=>simp [intOf];omega
       ·rw [if_neg h3] at HSN;have h3b:(op==3)=false:=by simpa using h3
        go_wp2;go_roundw
        case rel=>exact⟨j+1,_,by omega,rfl,by go_num,HB6,zw6,Zh (by rw [HST.o,HSN.o,←List.append_assoc,HMM.o];exact HO5.o)⟩
        case measure=>simp [intOf];omega
end
section
open Go.RowKit
variable [Base]
def QEp (n:Qx):Value:=.agg #[iv n.kind,iv n.fn,iv n.bl,iv n.st]
theorem Qxo (a b c d:Int) (w:World):Calls Tryz.prog 107 #[.agg #[iv a,iv b,iv c,iv d]] w (Qia (insN ⟨a,b,c,d⟩) w):=by
 have hi:insN ⟨a,b,c,d⟩=(a==3||a==4):=rfl;rw [hi];clear hi;by_cases h3:a=3
 ·subst h3;go_enter Tryz.func107,Tryz.ntmps107;go_wp2;go_ret;exact⟨rfl,Zb⟩
 ·have h3':(a==3)=false:=by simpa using h3
  rw [h3'];clear h3;go_enter Tryz.func107,Tryz.ntmps107;go_wp2;go_ret;exact⟨by simp,Zb⟩
theorem QAg {α:Type} [BEq α] [LawfulBEq α]:∀{l:List α} {k:Nat} {x:α},l[k]? = some x→x∉l.take k→l.idxOf x=k
|[],k,x,h,_=>by simp at h
|a::r,0,x,h,_=>by simp at h;simp [h]
|a::r,k+1,x,h,hn=>by
  simp at h hn
  have e:(a==x)=false:=by simpa using fun e=>hn.1 (Eq.symm e)
  rw [List.idxOf_cons,e,QAg h hn.2]
  rfl
theorem QCs {B:Nat} {w:World} (kw:KwIn B w) (hB:B≤w.heap.size) (p:List Qo) (v:Value) (h:QAa w v p) (hf:∀f∈p,∀b∈f.blocks,∀s∈b.stmts,FitS s) (x:Qx):
  Calls Tryz.prog 108 #[.agg #[v],.agg #[iv x.kind,iv x.fn,iv x.bl,iv x.st]] w (IntQ (idxI (QR p) x) w):=by
 obtain⟨z,hz⟩:=Ze w.heap.size;have HV:=Zh (fun (x:World) (b:Below z w x)=>Qyj (kw.keep fun k hk=>b.block k (by omega)) (by have:=b.size;omega) p v (h.keep (Qf.below (hz▸b)) (Qf.below (hz▸b)) (Qf.below (hz▸b)) (Qf.below (hz▸b))) hf);obtain⟨a,c,rfl,hn,-⟩:=h.cell;obtain⟨n,hl⟩:=Ze p.length;rw [hl] at hn HV ⊢;obtain⟨N,hN⟩:=Ze (QR p);rw [hN] at HV ⊢;have hN256:N.length≤256:=by rw [←hN];exact Qme
 obtain⟨x1,x2,x3,x4⟩:=x;simp only;obtain⟨W,hW⟩:=Ze ((w.alloc (.cells #[.slice a n c] 25)).alloc (.cells #[iv x1,iv x2,iv x3,iv x4] 108));have HPB:=Zh (show W.heap[z]? = some (.cells #[.slice a n c] 25 (0,0)) by rw [←hW,←hz];exact Qfa _ (heap_alloc_new _ _));have HNB:=Zh (show W.heap[z+1]? = some (.cells #[iv x1,iv x2,iv x3,iv x4] 108 (0,0)) by rw [←hW,←hz];have:=heap_alloc_new (w.alloc (.cells #[.slice a n c] 25)) (.cells #[iv x1,iv x2,iv x3,iv x4] 108);rwa [World.size_alloc] at this);have BW:=Zh (show Below z w W by rw [←hW,←hz];exact(Zb).alloc (by simp) _);have HWW:=Zh hW;have HZ:=Zh hz;clear h hW kw hf hN hl;have x0:=(Qd HPB.o).1 0;simp at x0;go_enter Tryz.func108,Tryz.ntmps108;go_upto_region 1 with(fail)
 rw [show(w.alloc (.cells #[.slice a n c] 25)).alloc (.cells #[iv x1,iv x2,iv x3,iv x4] 108)=W from HWW.o]
 try rw [hz]
 go_wp2_with fail;refine(HV.o W BW.o).mono ?_;rintro e w1 ⟨nv,rfl,ho,b1⟩;obtain⟨na,nc,rfl,hnm,hnc1,hnc2,hcell⟩:=ho.at_.cell;have HCE:=Zh hcell;obtain⟨m,hm⟩:=Ze N.length;rw [hm] at hN256 ⊢;have HM:=Zh hm;have HNB1:=Zh (Qc HNB.o b1 (Qb HNB.o));have HB1:=Zh (BW.o.trans (b1.mono (by have:=BW.o.size;omega)));have hs1:z+1<w1.heap.size:=Qb HNB1.o;clear b1 hcell ho x0 hm;go_wp2;go_loopw [10] (fun y wr=>∃k:Nat,k≤m∧y=.int .i64 k∧Hid (Below w1.heap.size w1 wr)∧w1.heap.size≤wr.heap.size∧Hid ((⟨x1,x2,x3,x4⟩:Qx)∉N.take k)) (fun y _=>m-(intOf y).toNat)
 case atStart=>exact⟨0,Nat.zero_le _,rfl,Below.refl _ _,Nat.le_refl _,by unfold Hid;simp⟩
 case round=>
  obtain⟨k,hk,rfl,HB,hsr,HNI⟩:=hrel;by_cases hlt:k<m
  ·obtain⟨y,hy⟩:∃y,N[k]? = some y:=⟨_,List.getElem?_eq_getElem (by rw [HM.o];exact hlt)⟩;obtain⟨b4,o4,rfl,hb4,c0,c1,c2,c3⟩:=HCE.o k y hy;have c0:=(HB.o.cell (p:=⟨b4,o4+k*4,none⟩) hb4).trans c0;have c1:=(HB.o.cell (p:=⟨b4,o4+k*4+1,none⟩) hb4).trans c1;have c2:=(HB.o.cell (p:=⟨b4,o4+k*4+2,none⟩) hb4).trans c2;have c3:=(HB.o.cell (p:=⟨b4,o4+k*4+3,none⟩) hb4).trans c3;have HNB2:=Zh (Qc HNB1.o HB.o (by omega));have hz1:z+1<wr.heap.size:=by omega
   by_cases hxy:y=⟨x1,x2,x3,x4⟩
   ·subst hxy;obtain⟨d0,d1,d2,d3⟩:=Qt HNB2.o;have HK:=Zh (show idxI N ⟨x1,x2,x3,x4⟩=(k:Int) by
     have hmem:(⟨x1,x2,x3,x4⟩:Qx)∈N:=List.mem_of_getElem? hy;obtain⟨j,hj,hjx⟩:=Qgc hmem;unfold idxI at hj ⊢;rw [if_pos hmem] at hj ⊢;have h1:=QAg hy HNI.o;rw [h1])
    have HB2:=Zh (HB1.o.trans ((HB.o.trans (((Below.refl wr.heap.size wr).alloc (Nat.le_refl _) (.cells #[iv x1,iv x2,iv x3,iv x4] 108)).mono hsr)).mono (by omega)));clear hy;simp only at c0 c1 c2 c3;go_wp2;go_ret;exact⟨Qob HK.o.symm,by rw [HZ.o];exact HB2.o⟩
   ·have HN1:=Zh (show(⟨x1,x2,x3,x4⟩:Qx)∉N.take (k+1) by
     rw [List.take_add_one,hy];intro h;rcases List.mem_append.1 h with h|h
     ·exact HNI.o h
     ·simp at h;exact hxy h.symm)
    have HB2:=Zh (fun o=>HB.o.trans (((Below.refl wr.heap.size wr).alloc (Nat.le_refl _) o).mono hsr));obtain⟨y1,y2,y3,y4⟩:=y;simp only at c0 c1 c2 c3;obtain⟨d0,d1,d2,d3⟩:=Qt HNB2.o;have hne:y1=x1→y2=x2→y3=x3→¬y4=x4:=fun h1 h2 h3 h4=>hxy (by rw [h1,h2,h3,h4])
    clear hy hxy;go_wp2
    all_goals first|exact⟨⟨k+1,by omega,by go_num,HB2.o _,by simp;omega,HN1⟩,by simp [intOf];omega⟩|(exfalso;simp_all)
  ·have HK:=Zh (show idxI N ⟨x1,x2,x3,x4⟩ = -1 by
    unfold idxI;rw [if_neg (fun h=>HNI.o (by rwa [List.take_of_length_le (by rw [HM.o];omega)]))])
   have HB2:=Zh (HB1.o.trans (HB.o.mono (by omega)));go_wp2;go_ret;exact⟨Qob HK.o.symm,by rw [HZ.o];exact HB2.o⟩
end
section
open Go.RowKit
variable [Base]
def StmtQ (r:Option QD) (w:World) (e:Ending) (w':World):Prop:=
 ∃u t,e=.returned (.tuple #[.agg #[iv (r.getD Qie).op,sv (r.getD Qie).dfn,u,t],.bool r.isSome])∧Qea w' u (r.getD Qie).uses∧Qea w' t (r.getD Qie).targets∧Below w.heap.size w w'
theorem Qti {p:List Qo} {x:Qx} (hm:x∈QR p) (hi:insN x=true):∃(i k j:Nat) (f:Qo) (b:QI) (s:QD),x.fn=i∧x.bl=k∧x.st=j∧p[i]? = some f∧f.blocks[k]? = some b∧b.stmts[j]? = some s∧QFd p x=some s:=by
 unfold QR at hm
 split at hm
 ·obtain⟨i,f,hf,h⟩:=QLb.1 hm;rcases h with rfl|rfl|⟨k,b,j,s,hb,hs,h⟩
  ·simp [insN] at hi
  ·simp [insN] at hi
  ·have hx:∀q:Int,QFd p ⟨q,(i:Nat),(k:Nat),(j:Nat)⟩=some s:=fun q=>by
    unfold QFd;simp [hf,hb,hs]
   rcases h with rfl|⟨-,rfl⟩
   ·exact⟨i,k,j,f,b,s,rfl,rfl,rfl,hf,hb,hs,hx _⟩
   ·exact⟨i,k,j,f,b,s,rfl,rfl,rfl,hf,hb,hs,hx _⟩
 ·cases hm
theorem Qjk {B:Nat} {w:World} (kw:KwIn B w) (hB:B≤w.heap.size) (p:List Qo) (v:Value) (h:QAa w v p) (hf:∀f∈p,∀b∈f.blocks,∀s∈b.stmts,FitS s) (x:Qx):
  Calls Tryz.prog 47 #[.agg #[v],.agg #[iv x.kind,iv x.fn,iv x.bl,iv x.st]] w (StmtQ (QAf p x) w):=by
 obtain⟨z,hz⟩:=Ze w.heap.size;have HV:=Zh (fun (y:World) (b:Below z w y)=>QCs (kw.keep fun k hk=>b.block k (by omega)) (by have:=b.size;omega) p v (h.keep (Qf.below (hz▸b)) (Qf.below (hz▸b)) (Qf.below (hz▸b)) (Qf.below (hz▸b))) hf x);obtain⟨a,c,rfl,hn,hc⟩:=h.cell;have HC:=Zh hc;obtain⟨n,hl⟩:=Ze p.length;rw [hl] at hn HV ⊢;have hbz:Base.b≤z:=by have:=kw.bs;omega
 obtain⟨x1,x2,x3,x4⟩:=x;obtain⟨X,hX⟩:∃X:Qx,(⟨x1,x2,x3,x4⟩:Qx)=X:=⟨_,rfl⟩;have HS:=Zh (show QAf p X=if insN X=true∧X∈QR p then QFd p X else none from rfl);obtain⟨r,hr⟩:=Ze (QAf p X);simp only at HV ⊢;rw [hX] at HV ⊢;rw [hr] at HS ⊢;have hI:=Qxo x1 x2 x3 x4;rw [hX] at hI;have HI:=Zh hI;obtain⟨ib,hib⟩:=Ze (insN X);rw [hib] at HI HS;obtain⟨W,hW⟩:=Ze (((w.alloc (.cells #[.slice a n c] 25)).alloc (.cells #[iv x1,iv x2,iv x3,iv x4] 108)).alloc (.cells #[iv 0,.string ⟨#[]⟩,.slice none 0 0,.slice none 0 0] 94));have HPB:=Zh (show W.heap[z]? = some (.cells #[.slice a n c] 25 (0,0)) by rw [←hW,←hz];exact Qfa _ (Qfa _ (heap_alloc_new _ _)));have HNB:=Zh (show W.heap[z+1]? = some (.cells #[iv x1,iv x2,iv x3,iv x4] 108 (0,0)) by
  rw [←hW,←hz];have:=heap_alloc_new (w.alloc (.cells #[.slice a n c] 25)) (.cells #[iv x1,iv x2,iv x3,iv x4] 108);rw [World.size_alloc] at this;exact Qfa _ this)
 have HRB:=Zh (show W.heap[z+1+1]? = some (.cells #[iv 0,.string ⟨#[]⟩,.slice none 0 0,.slice none 0 0] 94 (0,0)) by
  rw [←hW,←hz];have:=heap_alloc_new ((w.alloc (.cells #[.slice a n c] 25)).alloc (.cells #[iv x1,iv x2,iv x3,iv x4] 108)) (.cells #[iv 0,.string ⟨#[]⟩,.slice none 0 0,.slice none 0 0] 94)
  rwa [World.size_alloc,World.size_alloc] at this)
 have BW:=Zh (show Below z w W by rw [←hW,←hz];exact((Zb).alloc (by simp) _).alloc (by simp;omega) _);have HWW:=Zh hW;have HZ:=Zh hz;have zW:z≤W.heap.size:=by have:=BW.o.size;omega
 have HX:=Zh hX;have HL:=Zh hl;have HIB:=Zh hib;clear h hW kw hf hl hc hI hr hX hib;obtain⟨d0,d1,d2,d3⟩:=Qt HNB.o;go_enter Tryz.func47,Tryz.ntmps47;go_upto_region 1 with(fail)
 rw [show((w.alloc (.cells #[.slice a n c] 25)).alloc (.cells #[iv x1,iv x2,iv x3,iv x4] 108)).alloc (.cells #[iv 0,.string ⟨#[]⟩,.slice none 0 0,.slice none 0 0] 94)=W from HWW.o]
 try rw [hz]
 go_wp2_with fail;refine(HI.o W).mono ?_;rintro e w1 ⟨rfl,b1⟩;have HPB1:=Zh (Qc HPB.o b1 (Qb HPB.o));have HNB1:=Zh (Qc HNB.o b1 (Qb HNB.o));have HRB1:=Zh (Qc HRB.o b1 (Qb HRB.o));have HB1:=Zh (BW.o.trans (b1.mono zW));clear b1 d0 d1 d2 d3
 cases ib with
|false=>
  have HF:=Zh (show r=none by rw [HS.o];simp);have fr:=(Qa HRB1.o).2;obtain⟨r0,r1,r2,r3⟩:=Qt HRB1.o;go_wp2;rw [HF.o];obtain⟨z0,z1,z2,z3⟩:=Qt (set4 HRB1.o (iv 0) (.string ⟨#[]⟩) (.slice none 0 0) (.slice none 0 0));exact bodyPost_ret (v:=.tuple #[.agg #[iv 0,.string ⟨#[]⟩,.slice none 0 0,.slice none 0 0],.bool false]) (by simp [results,Tryz.results47,go_sem,z0,z1,z2,z3]) rfl ⟨_,_,rfl,Qg.nil,Qg.nil,by rw [HZ.o];exact((((HB1.o).setCell (by show z≤z+1+1;omega) _).setCell (by show z≤z+1+1;omega) _).setCell (by show z≤z+1+1;omega) _).setCell (by show z≤z+1+1;omega) _⟩
|true=>
  obtain⟨d0,d1,d2,d3⟩:=Qt HNB1.o;have x0:=(Qd HPB1.o).1 0;simp at x0;have K:=Zh (HV.o w1 HB1.o);go_wp2_with fail;refine K.o.mono ?_;rintro e w2 ⟨rfl,b2⟩;have HPB2:=Zh (Qc HPB1.o b2 (Qb HPB1.o));have HNB2:=Zh (Qc HNB1.o b2 (Qb HNB1.o));have HRB2:=Zh (Qc HRB1.o b2 (Qb HRB1.o));have HB2:=Zh (HB1.o.trans (b2.mono (by have:=HB1.o.size;omega)));clear b2 d0 d1 d2 d3 x0 K;have fr:=(Qa HRB2.o).2;by_cases hm:X∈QR p;rotate_left
  ·have HF:=Zh (show r=none by rw [HS.o];simp [hm]);have hid:=QLp hm;rw [hid];clear hm hid;obtain⟨r0,r1,r2,r3⟩:=Qt HRB2.o;go_wp2;rw [HF.o];obtain⟨z0,z1,z2,z3⟩:=Qt (set4 HRB2.o (iv 0) (.string ⟨#[]⟩) (.slice none 0 0) (.slice none 0 0));exact bodyPost_ret (v:=.tuple #[.agg #[iv 0,.string ⟨#[]⟩,.slice none 0 0,.slice none 0 0],.bool false]) (by simp [results,Tryz.results47,go_sem,z0,z1,z2,z3]) rfl ⟨_,_,rfl,Qg.nil,Qg.nil,by rw [HZ.o];exact((((HB2.o).setCell (by show z≤z+1+1;omega) _).setCell (by show z≤z+1+1;omega) _).setCell (by show z≤z+1+1;omega) _).setCell (by show z≤z+1+1;omega) _⟩
  ·obtain⟨ik,hik,-⟩:=Qgc hm;rw [hik];obtain⟨i,k,j,f,b,s,e2,e3,e4,hf,hb,hs,hsp⟩:=Qti hm HIB.o;have HF:=Zh (show r=some s by rw [HS.o,if_pos ⟨trivial,hm⟩];exact hsp);rw [←HX.o] at e2 e3 e4;simp only at e2 e3 e4;subst e2 e3 e4;obtain⟨fb,fo,bv,rfl,hfb,-,g1,hbl⟩:=HC.o i f hf;obtain⟨ba,bc,rfl,-,hbc⟩:=hbl.cell;obtain⟨kb,ko,tv,rfl,hkb,-,k1,hsl⟩:=hbc k b hb;obtain⟨sa,sc,rfl,-,hsc⟩:=hsl.cell;obtain⟨s4,s5,u,t,rfl,hs4,c0,c1,c2,c3,hu,ht⟩:=hsc j s hs;have hfl:i<n:=by have:=(List.getElem?_eq_some_iff.1 hf).1;have:=HL.o;omega
   have hbl2:k<f.blocks.length:=(List.getElem?_eq_some_iff.1 hb).1;have hsl2:j<b.stmts.length:=(List.getElem?_eq_some_iff.1 hs).1;obtain⟨bn,hbn⟩:=Ze f.blocks.length;obtain⟨sn,hsn⟩:=Ze b.stmts.length;rw [hbn] at hbl2 g1;rw [hsn] at hsl2 k1;have HU:=Zh hu;have HT:=Zh ht;obtain⟨ua,uc,rfl,-⟩:=hu.cell;obtain⟨ta,tc,rfl,-⟩:=ht.cell;obtain⟨un,hun⟩:=Ze s.uses.length;obtain⟨tn,htn⟩:=Ze s.targets.length;rw [hun] at c2 HU;rw [htn] at c3 HT;rw [hz] at hfb hkb hs4;have g1:=(HB2.o.cell (p:=⟨fb,fo+i*2+1,none⟩) hfb).trans g1;have k1:=(HB2.o.cell (p:=⟨kb,ko+k*2+1,none⟩) hkb).trans k1;have c0:=(HB2.o.cell (p:=⟨s4,s5+j*4,none⟩) hs4).trans c0;have c1:=(HB2.o.cell (p:=⟨s4,s5+j*4+1,none⟩) hs4).trans c1;have c2:=(HB2.o.cell (p:=⟨s4,s5+j*4+2,none⟩) hs4).trans c2;have c3:=(HB2.o.cell (p:=⟨s4,s5+j*4+3,none⟩) hs4).trans c3;have ne1:(fb==z+1+1)=false:=by simp;omega
   have ne2:(kb==z+1+1)=false:=by simp;omega
   have ne3:(s4==z+1+1)=false:=by simp;omega
   have ne4:(z==z+1+1)=false:=by simp;omega
   have ne5:(z+1==z+1+1)=false:=by simp
   have lt1:(i:Int)<(n:Int):=by omega
   have lt2:(k:Int)<(bn:Int):=by omega
   have lt3:(j:Int)<(sn:Int):=by omega
   obtain⟨d0,d1,d2,d3⟩:=Qt HNB2.o;obtain⟨r0,r1,r2,r3⟩:=Qt HRB2.o;have x0:=(Qd HPB2.o).1 0;simp at x0;obtain⟨op,hop⟩:=Ze s.op;obtain⟨dn,hdn⟩:=Ze s.dfn;have HOP:=Zh hop;have HDN:=Zh hdn;rw [hop] at c0;rw [hdn] at c1;clear hf hb hs hsp hbl hbc hsl hsc hu ht hbn hsn hun htn hik hm hop hdn hbl2 hsl2 hfl hfb hkb hs4;go_upto_region 3 with(fail)
   go_region;go_wp2;rw [HF.o];have B3:=Qp (((((HB2.o).setCell (p:=⟨z+1+1,0,none⟩) (by show z≤z+1+1;omega) (iv op)).setCell (p:=⟨z+1+1,1,none⟩) (by show z≤z+1+1;omega) (sv dn)).setCell (p:=⟨z+1+1,2,none⟩) (by show z≤z+1+1;omega) (.slice ua un uc)).setCell (p:=⟨z+1+1,3,none⟩) (by show z≤z+1+1;omega) (.slice ta tn tc)) 1;have hz4:=set4 HRB2.o (iv op) (sv dn) (.slice ua un uc) (.slice ta tn tc);obtain⟨V,hV⟩:=Ze (((((w2.setCell ⟨z+1+1,0,none⟩ (iv op)).setCell ⟨z+1+1,1,none⟩ (sv dn)).setCell ⟨z+1+1,2,none⟩ (.slice ua un uc)).setCell ⟨z+1+1,3,none⟩ (.slice ta tn tc)).drew);have HV4:V.heap[z+1+1]? = some (.cells #[iv op,sv dn,.slice ua un uc,.slice ta tn tc] 94 (0,0)):=by rw [←hV];exact hz4
   have B4:Below z w V:=hV▸B3;rw [show((((w2.setCell ⟨z+1+1,0,none⟩ (.int .i64 op)).setCell ⟨z+1+1,1,none⟩ (.string ⟨dn.toArray⟩)).setCell ⟨z+1+1,2,none⟩ (.slice ua un uc)).setCell ⟨z+1+1,3,none⟩ (.slice ta tn tc)).drew=V from hV];clear hV B3 hz4;obtain⟨z0,z1,z2,z3⟩:=Qt HV4;refine bodyPost_ret (v:=.tuple #[.agg #[iv op,sv dn,.slice ua un uc,.slice ta tn tc],.bool true]) (by simp [results,Tryz.results47,go_sem,z0,z1,z2,z3]) rfl ⟨.slice ua un uc,.slice ta tn tc,?_,?_,?_,?_⟩
   ·simp [HOP.o,HDN.o]
   ·exact HU.o.same (Qf.below (HZ.o.symm▸B4))
   ·exact HT.o.same (Qf.below (HZ.o.symm▸B4))
   ·exact HZ.o.symm▸B4
end
section
open Go.RowKit
variable [Base]
abbrev FT:TypeId:=154
def QTm (n:Qra):List Value:=[iv n.node,iv n.var]
def Quf (l:List Qra):List Value:=(l.map QTm).flatten
def Qqd (w:World) (v:Value) (l:List Qra):Prop:=Qg w FT 2 v (Quf l)
def QTb (z:Nat) (w:World) (v:Value) (l:List Qra):Prop:=w.ownsRow z FT 2 v l.length (Quf l)
theorem QPo (l:List Qra):∀x∈l.map QTm,x.length=2:=fun x hx=>by
 obtain⟨n,-,rfl⟩:=List.mem_map.1 hx
 rfl
theorem QQo (a b:List Qra):Quf (a++b)=Quf a++Quf b:=by simp [Quf]
theorem QTb.at_ {z:Nat} {w:World} {v:Value} {l:List Qra} (h:QTb z w v l):Qqd w v l:=Qg.of_owns h
theorem QTb.below {z:Nat} {w w':World} {v:Value} {l:List Qra} (h:QTb z w v l) (b:Below w.heap.size w w'):QTb z w' v l:=QZd h b
theorem QTb.nil {z:Nat} {w:World}:QTb z w (.slice none 0 0) []:=by simp [QTb,World.ownsRow,Quf]
theorem QTb.push {z g cap:Nat} {w:World} {l:List Qra} {n:Qra} (h:w.ownsRow z FT 2 (.slice (some ⟨g,0,none⟩) (l.length+1) cap) (l.length+1) (Quf l++QTm n)):QTb z w (.slice (some ⟨g,0,none⟩) (l.length+1) cap) (l++[n]):=by
 unfold QTb;rw [QQo,List.length_append]
 simpa [Quf] using h
theorem Qqd.below {w w':World} {v:Value} {l:List Qra} (h:Qqd w v l) (b:Below w.heap.size w w'):Qqd w' v l:=h.same (Qf.below b)
theorem Qqd.cell {w:World} {v:Value} {l:List Qra} (h:Qqd w v l):∃a c,v=.slice a l.length c∧l.length≤maxLen∧l.length≤c∧c≤maxLen∧∀k n,l[k]? = some n→∃b off,a=some ⟨b,off,none⟩∧b<w.heap.size ∧
  w.cell? ⟨b,off+k*2,none⟩=some (iv n.node)∧w.cell? ⟨b,off+k*2+1,none⟩=some (iv n.var):=by
 obtain⟨a,c,e,hm,h3,h4,hc⟩:=QYg h (QPo l) (by omega);rw [List.length_map] at e hm h3;refine⟨a,c,e,hm,h3,h4,fun k n hk=>?_⟩;have hx:(l.map QTm)[k]? = some (QTm n):=by rw [List.getElem?_map,hk];rfl
 obtain⟨b,off,rfl,hlt,_,hc2⟩:=hc k _ hx;exact⟨b,off,rfl,hlt,hc2 0 (by omega),hc2 1 (by omega)⟩
theorem QDk:(Tryz.prog.info? FT).map (fun i=>(i.zero,i.size,i.bytes))=some (some (Value.agg #[iv 0,iv 0]),2,16):=by kernel_rfl
theorem Qse {α:Type} [DecidableEq α] {l:List α} {k:Nat} {x:α} (h:l[k]? = some x) (hn:x∉l.take k):idxI l x=(k:Int):=by
 unfold idxI;rw [if_pos (List.mem_of_getElem? h),QAg h hn]
theorem QBj (l:List Str) (v:Value) (x:Str) (w:World) (h:Qea w v l):
  Calls Tryz.prog 160 #[v,sv x] w (IntQ (idxI l x) w):=by
 obtain⟨a,c,rfl,hn,hc⟩:=h.cell;have HC:=Zh hc;obtain⟨n,hl⟩:=Ze l.length;rw [hl] at hn ⊢;have HL:=Zh hl;clear hc h hl;unfold maxLen at hn;go_enter Tryz.func160,Tryz.ntmps160;go_wp2;go_loopw [8] (fun y wr=>∃k:Nat,k≤n∧y=.int .i64 k∧w=wr∧Hid (x∉l.take k)) (fun y _=>n-(intOf y).toNat)
 case atStart=>exact⟨0,Nat.zero_le _,rfl,rfl,by unfold Hid;simp⟩
 case round=>
  obtain⟨k,hk,rfl,rfl,HNI⟩:=hrel;by_cases hlt:k<n
  ·obtain⟨y,hy⟩:∃y,l[k]? = some y:=⟨_,List.getElem?_eq_getElem (by rw [HL.o];exact hlt)⟩;obtain⟨b1,o1,rfl,hb1,g1⟩:=HC.o k y hy;by_cases hxy:y=x
   ·subst hxy;have HK:=Zh (show idxI l y=(k:Int) from Qse hy HNI.o);clear hy;go_wp2;go_ret;exact⟨Qob HK.o.symm,Below.refl _ _⟩
   ·have HN1:=Zh (show x∉l.take (k+1) by
     rw [List.take_add_one,hy];intro h;rcases List.mem_append.1 h with h|h
     ·exact HNI.o h
     ·simp at h;exact hxy h.symm)
    have he1:(x==y)=false:=by simpa using fun e=>hxy (Eq.symm e)
    clear hy hxy;go_wp2;go_roundw
    case rel=>exact⟨k+1,by omega,by go_num,(by first|rfl|trivial),HN1⟩
    case measure=>simp [intOf];omega
  ·have HK:=Zh (show idxI l x = -1 by
    unfold idxI;rw [if_neg (fun h=>HNI.o (by rwa [List.take_of_length_le (by rw [HL.o];omega)]))])
   go_wp2;go_ret;exact⟨Qob HK.o.symm,Below.refl _ _⟩
def Qth (vars:List Str) (p:List Qo) (n:Qx) (i:Nat):List Qra:=if n.kind=3 then match QFd p n with|some s=>if dfnB s.op then [⟨i,idxI vars s.dfn⟩] else []|none=>[] else []
theorem QLj (vars:List Str) (p:List Qo):∀(a b:List Qx) (i:Nat),QUa vars p (a++b) i=QUa vars p a i++QUa vars p b (i+a.length)
|[],b,i=>by simp [QUa]
|x::r,b,i=>by
  show Qth vars p x i++QUa vars p (r++b) (i+1)=_
  rw [QLj vars p r b (i+1),←List.append_assoc,List.length_cons,show i+1+r.length=i+(r.length+1) by omega]
  rfl
theorem Qan {vars:List Str} {p:List Qo} {l:List Qx} {i:Nat} {n:Qx} (h:l[i]? = some n):QUa vars p (l.take (i+1)) 0=QUa vars p (l.take i) 0++Qth vars p n i:=by
 rw [List.take_add_one,h];show QUa vars p (l.take i++[n]) 0=_;rw [QLj,(Qgd h).2,Nat.zero_add];show _++(Qth vars p n i++[])=_;rw [List.append_nil]
theorem QJg (vars:List Str) (p:List Qo):∀(l:List Qx) (i:Nat),(QUa vars p l i).length≤l.length
|[],i=>by simp [QUa]
|x::r,i=>by
  have h:=QJg vars p r (i+1)
  show(Qth vars p x i++QUa vars p r (i+1)).length≤_
  have h2:(Qth vars p x i).length≤1:=by
   unfold Qth
   repeat' split
   all_goals simp
  simp only [List.length_append,List.length_cons];omega
def QFu (l:List Qra) (w:World) (e:Ending) (w':World):Prop:=∃v,e=.returned v∧QTb w.heap.size w' v l∧Below w.heap.size w w'
theorem QIs {B:Nat} {w:World} (kw:KwIn B w) (hB:B≤w.heap.size) (p:List Qo) (v:Value) (h:QAa w v p) (hf:∀f∈p,∀b∈f.blocks,∀s∈b.stmts,FitS s) (vars:List Str) (vv:Value) (hvv:Qea w vv vars):
  Calls Tryz.prog 97 #[.agg #[v],vv] w (QFu (QUa vars p (QR p) 0) w):=by
 obtain⟨z,hz⟩:=Ze w.heap.size;have hbz:Base.b≤z:=by have:=kw.bs;omega
 have HV:=Zh (fun (x:World) (b:Below z w x)=>Qyj (kw.keep fun k hk=>b.block k (by omega)) (by have:=b.size;omega) p v (h.keep (Qf.below (hz▸b)) (Qf.below (hz▸b)) (Qf.below (hz▸b)) (Qf.below (hz▸b))) hf);have HS:=Zh (fun (x:World) (b:Below z w x) y=>Qjk (kw.keep fun k hk=>b.block k (by omega)) (by have:=b.size;omega) p v (h.keep (Qf.below (hz▸b)) (Qf.below (hz▸b)) (Qf.below (hz▸b)) (Qf.below (hz▸b))) hf y);have HI:=Zh (fun (x:World) (b:Below z w x) y=>QBj vars vv y x (Qg.same hvv (Qf.below (hz▸b))));obtain⟨a,c,rfl,hn,-⟩:=h.cell;obtain⟨va,vc,rfl,-,-⟩:=hvv.cell;obtain⟨vn,hvn⟩:=Ze vars.length;obtain⟨n,hl⟩:=Ze p.length;rw [hl] at hn HV HS ⊢;rw [hvn] at HI ⊢;obtain⟨N,hN⟩:=Ze (QR p);rw [hN] at HV ⊢;have hN256:N.length≤256:=by rw [←hN];exact Qme
 have HNP:=Zh hN;obtain⟨W,hW⟩:=Ze (w.alloc (.cells #[.slice a n c] 25));have HPB:=Zh (show W.heap[z]? = some (.cells #[.slice a n c] 25 (0,0)) by rw [←hW,←hz];exact heap_alloc_new _ _);have BW:=Zh (show Below z w W by rw [←hW,←hz];exact Zb);have HWW:=Zh hW;have HZ:=Zh hz;clear h hW kw hf hN hl hvv hvn;have x0:=(Qd HPB.o).1 0;simp at x0;go_enter Tryz.func97,Tryz.ntmps97;go_upto_region 1 with(fail)
 rw [show w.alloc (.cells #[.slice a n c] 25)=W from HWW.o]
 try rw [hz]
 go_wp2_with fail;refine(HV.o W BW.o).mono ?_;rintro e w1 ⟨nv,rfl,ho,b1⟩;obtain⟨na,nc,rfl,hnm,hnc1,hnc2,hcell⟩:=ho.at_.cell;have HCE:=Zh hcell;obtain⟨m,hm⟩:=Ze N.length;rw [hm] at hN256 ⊢;have HM:=Zh hm;have HPB1:=Zh (Qc HPB.o b1 (Qb HPB.o));have HB1:=Zh (BW.o.trans (b1.mono (by have:=BW.o.size;omega)));have hs1:z<w1.heap.size:=Qb HPB1.o;clear b1 hcell ho x0 hm hnm hnc1 hnc2;go_wp2;go_loopw [5,13] (fun V y wr=>∃(k:Nat) (Y:Value),k≤m∧Y=V∧y=.int .i64 k∧Hid (Below w1.heap.size w1 wr)∧w1.heap.size≤wr.heap.size∧Hid (QTb w1.heap.size wr Y (QUa vars p (N.take k) 0))) (fun _ y _=>m-(intOf y).toNat)
 case atStart=>exact⟨0,_,Nat.zero_le _,rfl,rfl,Below.refl _ _,Nat.le_refl _,QTb.nil⟩
 case round=>
  obtain⟨k,V,hk,rfl,rfl,HB,hsr,HO⟩:=hrel;by_cases hlt:k<m;rotate_left
  ·have HO2:=Zh (show QTb w1.heap.size wr V (QUa vars p N 0) by rw [←show N.take k=N from List.take_of_length_le (by rw [HM.o];omega)];exact HO.o);have HB2:=Zh (HB1.o.trans (HB.o.mono (by omega)));go_wp2;exact bodyPost_ret (v:=V) (by simp [results,Tryz.results97,go_sem]) rfl ⟨_,rfl,by rw [HZ.o];exact Qjm HO2.o (by omega),by rw [HZ.o];exact HB2.o⟩
  ·obtain⟨y,hy⟩:∃y,N[k]? = some y:=⟨_,List.getElem?_eq_getElem (by rw [HM.o];exact hlt)⟩;obtain⟨b4,o4,rfl,hb4,c0,c1,c2,c3⟩:=HCE.o k y hy;have c0:=(HB.o.cell (p:=⟨b4,o4+k*4,none⟩) hb4).trans c0;have c1:=(HB.o.cell (p:=⟨b4,o4+k*4+1,none⟩) hb4).trans c1;have c2:=(HB.o.cell (p:=⟨b4,o4+k*4+2,none⟩) hb4).trans c2;have c3:=(HB.o.cell (p:=⟨b4,o4+k*4+3,none⟩) hb4).trans c3;have HDT:=Zh (Qan (vars:=vars) (p:=p) hy);have HSO:=Zh (show insN y=true→QAf p y=QFd p y from fun h=>by unfold QAf;rw [if_pos ⟨h,by rw [HNP.o];exact List.mem_of_getElem? hy⟩]);have hlen:=QJg vars p (N.take k) 0;rw [List.length_take] at hlen;obtain⟨D,hD⟩:=Ze (QUa vars p (N.take k) 0);rw [hD] at HDT HO hlen;have hD256:D.length≤256:=by omega
   obtain⟨y1,y2,y3,y4⟩:=y;simp only at c0 c1 c2 c3;have BX:=(Below.refl wr.heap.size wr).alloc (Nat.le_refl _) (.cells #[iv y1,iv y2,iv y3,iv y4] 108);obtain⟨U,hU⟩:=Ze (wr.alloc (.cells #[iv y1,iv y2,iv y3,iv y4] 108));have BU:=Zh (hU▸BX);have HXB:=Zh (show U.heap[wr.heap.size]? = some (.cells #[iv y1,iv y2,iv y3,iv y4] 108 (0,0)) by rw [←hU];exact heap_alloc_new _ _);have HUU:=Zh hU;have zwr:z≤wr.heap.size:=by omega
   have HBU:=Zh (HB1.o.trans ((HB.o.trans (BU.o.mono hsr)).mono (by omega)));have HBU1:=Zh (HB.o.trans (BU.o.mono hsr));have HOU:=Zh (HO.o.below BU.o);have HPU:=Zh (Qc HPB1.o HBU1.o hs1);have zU:z≤U.heap.size:=Nat.le_trans zwr BU.o.size;obtain⟨xb,hxb⟩:=Ze wr.heap.size;rw [hxb] at HXB BU;have hxz:z<xb:=by omega
   clear hy hU BX hlen hD HB HO;go_upto_region 5 with(fail)
   rw [show wr.alloc (.cells #[iv y1,iv y2,iv y3,iv y4] 108)=U from HUU.o]
   try rw [hxb]
   clear c0 c1 c2 c3;obtain⟨d0,d1,d2,d3⟩:=Qt HXB.o;have x0:=(Qd HPU.o).1 0;simp at x0;go_wp2_with fail;refine(HS.o U HBU.o ⟨y1,y2,y3,y4⟩).mono ?_;rintro e w3 ⟨u,t,rfl,hu,ht,b3⟩;obtain⟨ua,uc,rfl,-⟩:=hu.cell;obtain⟨ta,tc,rfl,-⟩:=ht.cell;obtain⟨r,hr⟩:=Ze (QAf p ⟨y1,y2,y3,y4⟩);rw [hr] at HSO ⊢;clear hu ht hr;obtain⟨⟨op,dn,us,ts⟩,hs⟩:∃s,r.getD Qie=s:=⟨_,rfl⟩;rw [hs];simp only;obtain⟨un,hun⟩:=Ze us.length;obtain⟨tn,htn⟩:=Ze ts.length;rw [hun,htn];have HRS:=Zh hs;clear hs hun htn d0 d1 d2 d3 x0;have HDF:=Zh (show Qth vars p ⟨y1,y2,y3,y4⟩ k=if y1=3∧dfnB op=true then [⟨k,idxI vars dn⟩] else [] by
    unfold Qth;by_cases h3:y1=3
    ·subst h3;rw [if_pos rfl,←HSO.o (by simp [insN])]
     cases r with
    |none=>
      have h0:=HRS.o;injection h0 with h1 h2 h3 h4
      subst h1;simp [dfnB]
    |some s=>
      have h0:=HRS.o;simp only [Option.getD_some] at h0;subst h0;simp
    ·rw [if_neg h3,if_neg (fun h=>h3 h.1)])
   obtain⟨V3,hV3⟩:=Ze (w3.alloc (.cells #[iv op,sv dn,.slice ua un uc,.slice ta tn tc] 94));have BV:=(Below.refl w3.heap.size w3).alloc (Nat.le_refl _) (.cells #[iv op,sv dn,.slice ua un uc,.slice ta tn tc] 94);rw [hV3] at BV;have b3V:=b3.trans (BV.mono b3.size);have HSB:=Zh (show V3.heap[w3.heap.size]? = some (.cells #[iv op,sv dn,.slice ua un uc,.slice ta tn tc] 94 (0,0)) by rw [←hV3];exact heap_alloc_new _ _);have HXV:=Zh (Qc HXB.o b3V (Qb HXB.o));have HOV:=Zh (HOU.o.below b3V);have HBV:=Zh (HBU1.o.trans (b3V.mono (by have:=HBU1.o.size;omega)));have zV:z≤V3.heap.size:=by have:=b3V.size;omega
   have sV:w1.heap.size≤V3.heap.size:=HBV.o.size;have HV3:=Zh hV3;obtain⟨sb,hsb⟩:=Ze w3.heap.size;rw [hsb] at HSB;clear b3 BV b3V hV3 HBU HOU HPU HXB;go_upto_region 6 with(fail)
   rw [show w3.alloc (.cells #[iv op,sv dn,.slice ua un uc,.slice ta tn tc] 94)=V3 from HV3.o]
   try rw [hsb]
   clear hsb;obtain⟨d0,d1,d2,d3⟩:=Qt HXV.o;obtain⟨s0,s1,s2,s3⟩:=Qt HSB.o;by_cases h3:y1=3;rotate_left
   ·have h3':(y1==3)=false:=by simpa using h3
    have HO3:=Zh (show QTb w1.heap.size V3 V (QUa vars p (N.take (k+1)) 0) by rw [HDT.o,HDF.o,if_neg (fun h=>h3 h.1),List.append_nil];exact HOV.o);clear h3;go_wp2;go_roundw
    case rel=>exact⟨k+1,_,by omega,rfl,by go_num,HBV,sV,HO3⟩
    case measure=>simp [intOf];omega
   ·have h3':(y1==3)=true:=by simpa using h3
    obtain⟨db,hdb⟩:=Ze (dfnB op);rw [hdb] at HDF;have KD:=Zh (hdb▸@Qbn _ ⟨op,dn,us,ts⟩ (.slice ua un uc) (.slice ta tn tc) V3);clear hdb;go_wp2_with fail;refine KD.o.mono ?_;rintro e w4 ⟨rfl,b4'⟩;have HO4:=Zh (HOV.o.below b4');have HB4:=Zh (HBV.o.trans (b4'.mono sV));have HSB4:=Zh (Qc HSB.o b4' (Qb HSB.o));have sV4:w1.heap.size≤w4.heap.size:=HB4.o.size;clear b4' d0 d1 d2 d3 s0 s1 s2 s3 KD
    cases db with
   |false=>
     have HO3:=Zh (show QTb w1.heap.size w4 V (QUa vars p (N.take (k+1)) 0) by rw [HDT.o,HDF.o,if_neg (by simp),List.append_nil];exact HO4.o);clear h3;go_wp2;go_roundw
     case rel=>exact⟨k+1,_,by omega,rfl,by go_num,HB4,sV4,HO3⟩
     case measure=>simp [intOf];omega
   |true=>
     have HB04:=Zh (HB1.o.trans (HB4.o.mono (by omega)));obtain⟨s0,s1,s2,s3⟩:=Qt HSB4.o;have KI:=Zh (HI.o w4 HB04.o dn);obtain⟨ix,hix⟩:=Ze (idxI vars dn);rw [hix] at KI HDF;have HDF2:=Zh (show Qth vars p ⟨y1,y2,y3,y4⟩ k=[⟨k,ix⟩] by rw [HDF.o,if_pos ⟨h3,rfl⟩]);clear h3 hix;go_wp2_with fail;refine KI.o.mono ?_;rintro e w5 ⟨rfl,b5⟩;have HO5:=Zh (HO4.o.below b5);have HB5:=Zh (HB4.o.trans (b5.mono sV4));have zw5:z≤w5.heap.size:=by have:=b5.size;omega
     have sV5:w1.heap.size≤w5.heap.size:=by have:=b5.size;omega
     clear b5 s0 s1 s2 s3 KI;go_wp2_with (at_builtin;refine QL [iv (k:Int),iv ix] rfl _ _ _ rfl w1.heap.size FT _ 2 16 Tryz.underlying101 QDk rfl (by omega) _ _ _ HO5.o rfl rfl rfl rfl (by unfold maxLen;omega) (by omega) sV5 ?_;intro g cap w6 ho hg hzg _;have HO6:=Zh (QTb.push (n:=⟨(k:Int),ix⟩) ho);have HB6:=Zh (HB5.o.trans (Below.of_grown hg HO5.o sV5));clear ho hg hzg);go_roundw
     case rel=>exact⟨k+1,_,by omega,rfl,by go_num,HB6,HB6.o.size,Zh (by rw [HDT.o,HDF2.o];exact HO6.o)⟩
     case measure=>simp [intOf];omega
end
section
open Go.RowKit
variable [Base]
def QGu (l:List Qra) (er:Int) (w:World) (e:Ending) (w':World):Prop:=∃v,e=.returned (.tuple #[v,iv er])∧QTb w.heap.size w' v l∧Below w.heap.size w w'
def Qdg (n:Nat):List Qra:=(List.range n).map fun v:Nat=>(⟨-1,(v:Int)⟩:Qra)
theorem Qxn (n:Nat):Qdg (n+1)=Qdg n++[⟨-1,(n:Int)⟩]:=by
 unfold Qdg;rw [List.range_succ,List.map_append];rfl
theorem QEh (n:Nat):(Qdg n).length=n:=by simp [Qdg]
theorem Qjr {B:Nat} {w:World} (kw:KwIn B w) (hB:B≤w.heap.size) (p:List Qo) (v:Value) (h:QAa w v p) (hf:∀f∈p,∀b∈f.blocks,∀s∈b.stmts,FitS s) (kind:Int):
  Calls Tryz.prog 43 #[.agg #[v],iv kind] w (QGu (QC p kind) (Qxb p kind) w):=by
 obtain⟨z,hz⟩:=Ze w.heap.size;have hbz:Base.b≤z:=by have:=kw.bs;omega
 have HV:=Zh (fun (x:World) (b:Below z w x)=>QYh (kw.keep fun k hk=>b.block k (by omega)) (by have:=b.size;omega) p v (h.keep (Qf.below (hz▸b)) (Qf.below (hz▸b)) (Qf.below (hz▸b)) (Qf.below (hz▸b))) hf);have HVA:=Zh (fun (x:World) (b:Below z w x) hv=>QPi (kw.keep fun k hk=>b.block k (by omega)) (by have:=b.size;omega) p v (h.keep (Qf.below (hz▸b)) (Qf.below (hz▸b)) (Qf.below (hz▸b)) (Qf.below (hz▸b))) hf hv);have HDE:=Zh (fun (x:World) (b:Below z w x) vars vv hvv=>QIs (kw.keep fun k hk=>b.block k (by omega)) (by have:=b.size;omega) p v (h.keep (Qf.below (hz▸b)) (Qf.below (hz▸b)) (Qf.below (hz▸b)) (Qf.below (hz▸b))) hf vars vv hvv);obtain⟨a,c,rfl,hn,-⟩:=h.cell;obtain⟨n,hl⟩:=Ze p.length;rw [hl] at hn HV HVA HDE ⊢;obtain⟨W,hW⟩:=Ze (w.alloc (.cells #[.slice a n c] 25));have HPB:=Zh (show W.heap[z]? = some (.cells #[.slice a n c] 25 (0,0)) by rw [←hW,←hz];exact heap_alloc_new _ _);have BW:=Zh (show Below z w W by rw [←hW,←hz];exact Zb);have HWW:=Zh hW;have HZ:=Zh hz;obtain⟨er,her⟩:=Ze (QFa p);rw [her] at HV;have HER:=Zh her;clear h hW kw hf hl her;have x0:=(Qd HPB.o).1 0;simp at x0;obtain⟨F,hF⟩:=Ze (QC p kind);obtain⟨fe,hfe⟩:=Ze (Qxb p kind);have HFE:=Zh (show fe=if er≠0 then er else if kind<1∨4<kind then 3 else if 256<(QBc p kind).length then 7 else 0 by rw [←hfe,←HER.o];rfl);have HFF:=Zh (show F=if fe=0 then QBc p kind else [] by rw [←hfe,←hF];rfl);rw [hF,hfe];clear hF hfe;go_enter Tryz.func43,Tryz.ntmps43;go_upto_region 1 with(fail)
 rw [show w.alloc (.cells #[.slice a n c] 25)=W from HWW.o]
 try rw [hz]
 go_wp2_with fail;refine(HV.o W BW.o).mono ?_;rintro e w1 ⟨na,nb,nc,nd,rfl,b1⟩;have b2:=b1.trans (((Below.refl w1.heap.size w1).alloc (Nat.le_refl _) (.cells #[iv na,iv nb,iv nc,iv nd] 108)).mono b1.size);obtain⟨w2,hw2⟩:=Ze (w1.alloc (.cells #[iv na,iv nb,iv nc,iv nd] 108));have HW2:=Zh hw2;rw [hw2] at b2;have HP2:=Zh (Qc HPB.o b2 (Qb HPB.o));have zW:z≤W.heap.size:=by have:=BW.o.size;omega
 have HB2:=Zh (BW.o.trans (b2.mono zW));have zw2:z≤w2.heap.size:=by have:=HB2.o.size;omega
 clear b1 b2 hw2 x0 zW;by_cases he:er=0;rotate_left
 ·have hne:(er != 0)=true:=by simpa using he
  have H1:=Zh (show fe=er by rw [HFE.o,if_pos he]);have H2:=Zh (show F=[] by rw [HFF.o,if_neg (by rw [H1.o];exact he)]);clear he;go_wp2;refine bodyPost_ret (v:=.tuple #[.slice none 0 0,iv er]) (by simp [results,Tryz.results43,go_sem]) rfl ⟨.slice none 0 0,?_,?_,?_⟩
  ·rw [H1.o]
  ·rw [H2.o];exact QTb.nil
  ·rw [HZ.o];exact HW2.o▸HB2.o
 have hne:(er != 0)=false:=by simpa using he
 have HFE2:=Zh (show fe=if kind<1∨4<kind then 3 else if 256<(QBc p kind).length then 7 else 0 by rw [HFE.o,he];rfl);have HCK:=Zh (Qzb (show QFa p=0 by rw [HER.o,he]));clear he;go_upto_region 4 with(fail)
 rw [show w1.alloc (.cells #[iv na,iv nb,iv nc,iv nd] 108)=w2 from HW2.o];by_cases hk:kind<1∨4<kind
 ·have H1:=Zh (show fe=3 by rw [HFE2.o,if_pos hk]);have H2:=Zh (show F=[] by rw [HFF.o,if_neg (by rw [H1.o];omega)]);by_cases hk1:kind<1
  ·clear hk;go_wp2;refine bodyPost_ret (v:=.tuple #[.slice none 0 0,iv 3]) (by simp [results,Tryz.results43,go_sem]) rfl ⟨.slice none 0 0,?_,?_,?_⟩
   ·rw [H1.o]
   ·rw [H2.o];exact QTb.nil
   ·rw [HZ.o];exact HB2.o
  ·have hk4:4<kind:=by omega
   clear hk;go_wp2;refine bodyPost_ret (v:=.tuple #[.slice none 0 0,iv 3]) (by simp [results,Tryz.results43,go_sem]) rfl ⟨.slice none 0 0,?_,?_,?_⟩
   ·rw [H1.o]
   ·rw [H2.o];exact QTb.nil
   ·rw [HZ.o];exact HB2.o
 have HFE3:=Zh (show fe=if 256<(QBc p kind).length then 7 else 0 by rw [HFE2.o,if_neg hk]);have hk1:¬kind<1:=fun h=>hk (.inl h)
 have hk4:¬4<kind:=fun h=>hk (.inr h)
 have x0:=(Qd HP2.o).1 0;simp at x0;have KV:=Zh (HVA.o w2 HB2.o HCK.o.valid);clear hk;go_wp2_with fail;refine KV.o.mono ?_;rintro e w3 ⟨vv,rfl,hvo,b3⟩;have HVS:=Zh (show Qea w3 vv (QN p) from Qg.of_owns hvo);obtain⟨va,vc,rfl,-,-⟩:=QXa hvo;have hv64:=HCK.o.vars;obtain⟨vn,hvn⟩:=Ze ((QN p).length);rw [hvn] at HVS hv64 ⊢;have HVN:=Zh hvn;have HP3:=Zh (Qc HP2.o b3 (Qb HP2.o));have HB3:=Zh (HB2.o.trans (b3.mono zw2));have zw3:z≤w3.heap.size:=by have:=b3.size;omega
 clear b3 hvo x0 KV hvn;have x0:=(Qd HP3.o).1 0;simp at x0;by_cases hk:kind=1
 ·have HFL:=Zh (show QBc p kind=QUa (QN p) p (QR p) 0 by unfold QBc;rw [if_pos hk]);have HLN:=Zh (show(QBc p kind).length≤256 by rw [HFL.o];exact Nat.le_trans (QJg _ _ _ _) Qme);have H1:=Zh (show fe=0 by have:=HLN.o;rw [HFE3.o,if_neg (by omega)]);have H2:=Zh (show F=QBc p kind by rw [HFF.o,if_pos H1.o]);have KD:=Zh (HDE.o w3 HB3.o (QN p) _ HVS.o);rw [←HFL.o] at KD;obtain⟨G,hG⟩:=Ze (QBc p kind);rw [hG] at KD H2 HLN;obtain⟨gn,hgn⟩:=Ze G.length;have hg256:gn≤256:=hgn▸HLN.o;have HGN:=Zh hgn;have hk1':(kind==1)=true:=by simpa using hk
  clear hG hk hgn;go_wp2_with fail;refine KD.o.mono ?_;rintro e w4 ⟨u,rfl,hu,b4⟩;have HU:=Zh hu;obtain⟨ua,uc,rfl,-,-⟩:=QXa hu;rw [HGN.o] at HU ⊢;have HB4:=Zh (HB3.o.trans (b4.mono zw3));clear hu b4 x0;go_wp2;refine bodyPost_ret (v:=.tuple #[.slice ua gn uc,iv 0]) (by simp [results,Tryz.results43,go_sem]) rfl ⟨.slice ua gn uc,?_,?_,?_⟩
  ·rw [H1.o]
  ·rw [H2.o,HZ.o];exact Qjm HU.o zw3
  ·rw [HZ.o];exact HB4.o
 ·have HFL:=Zh (show QBc p kind=Qdg vn by unfold QBc Qdg;rw [if_neg hk,HVN.o]);have H1:=Zh (show fe=0 by rw [HFE3.o,HFL.o,QEh,if_neg (by omega)]);have H2:=Zh (show F=Qdg vn by rw [HFF.o,if_pos H1.o,HFL.o]);have hk1':(kind==1)=false:=by simpa using hk
  clear hk x0;go_wp2;go_loopw [9,34] (fun V y wr=>∃(k:Nat) (Y:Value),k≤vn∧Y=V∧y=.int .i64 k∧Hid (Below z w wr)∧z≤wr.heap.size∧Hid (QTb z wr Y (Qdg k))) (fun _ y _=>vn-(intOf y).toNat)
  case atStart=>exact⟨0,_,Nat.zero_le _,rfl,rfl,HB3.o,zw3,QTb.nil⟩
  case round=>
   obtain⟨k,V,hk,rfl,rfl,HB,hsr,HO⟩:=hrel;have hL:(Qdg k).length=k:=QEh k;by_cases hlt:k<vn
   ·have HVF:=Zh (Qxn k);go_wp2_with (at_builtin;refine QL [iv (-1),iv (k:Int)] rfl _ _ _ rfl z FT _ 2 16 Tryz.underlying101 QDk rfl (by omega) _ _ _ HO.o rfl rfl rfl rfl (by unfold maxLen;omega) (by omega) hsr ?_;intro g cap w6 ho hg hzg _;have HO6:=Zh (QTb.push (n:=⟨-1,(k:Int)⟩) ho);have HB6:=Zh (HB.o.trans (Below.of_grown hg HO.o hsr));clear ho hg hzg);go_roundw
    case rel=>exact⟨k+1,_,by omega,rfl,by go_num,HB6,by have:=HB6.o.size;omega,Zh (by rw [HVF.o];have h9:=HO6.o;rw [QEh] at h9;exact h9)⟩
    case measure=>simp [intOf];omega
   ·obtain rfl:k=vn:=by omega
    have HO2:=Zh HO.o;obtain⟨ua,uc,rfl,-,-⟩:=QXa HO.o;rw [hL] at HO2 ⊢;clear HO hL;go_wp2;refine bodyPost_ret (v:=.tuple #[.slice ua k uc,iv 0]) (by simp [results,Tryz.results43,go_sem]) rfl ⟨.slice ua k uc,?_,?_,?_⟩
    ·rw [H1.o]
    ·rw [H2.o,HZ.o];exact HO2.o
    ·rw [HZ.o];exact HB.o
end
end Go.Proofs.YtijekimobahgpaaGreatDoor
