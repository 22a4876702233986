/- A part of the proof. -/
import Derived.Test.YtijekimobahgpaaGreatDoorVa00
import Derived.Deep.RegionHeld3
import Derived.Deep.DrawnRows
import Derived.Deep.DeepMust
import Derived.Deep.RegionLaw
set_option linter.unusedVariables false
set_option linter.unusedSimpArgs false
set_option linter.unusedSectionVars false
set_option maxRecDepth 100000
set_option maxHeartbeats 16000000
namespace Go.Proofs.YtijekimobahgpaaGreatDoor
section
open Go.RowKit
variable [Base]
theorem But.blk {bt b:Nat}{w w':World}{o:Obj}(h:But bt w w')(hb:w.heap[b]? = some o)(hne:b≠bt):w'.heap[b]? = some o:=(h.block b (Qb hb) hne).trans hb
theorem Below.blk {b:Nat}{w w':World}{o:Obj}(h:Below w.heap.size w w')(hb:w.heap[b]? = some o):w'.heap[b]? = some o:=(h.block b (Qb hb)).trans hb
theorem Qfa {b:Nat}{w:World}{o:Obj}(x:Obj)(hb:w.heap[b]? = some o):(w.alloc x).heap[b]? = some o:=(Below.heap_alloc w x b (Qb hb)).trans hb
theorem Qd {w:World}{b:Nat}{c:Array Value}{t:TypeId}(h:w.heap[b]? = some (.cells c t (0,0))):(∀o,w.cell? ⟨b,o,none⟩=c[o]?)∧∀o,w.frozen? ⟨b,o,none⟩=false:=
 ⟨fun o=>by simp[World.cell?,h],fun o=>by simp[World.frozen?,h]⟩
theorem set4 {w:World}{b:Nat}{a0 a1 a2 a3:Value}{t:TypeId}{fr:Nat×Nat}(h:w.heap[b]? = some (.cells #[a0,a1,a2,a3] t fr))(x0 x1 x2 x3:Value):
  ((((w.setCell ⟨b,0,none⟩ x0).setCell ⟨b,1,none⟩ x1).setCell ⟨b,2,none⟩ x2).setCell ⟨b,3,none⟩ x3).heap[b]? = some (.cells #[x0,x1,x2,x3] t fr):=by
 simp[World.setCell,Array.getElem?_modify,h]
theorem Qg.frontS {w:World}{T b:Nat}{n c:Nat}{xs:List Value}(h:Qg w T 1 (.slice (some ⟨b,0,none⟩) n c) xs)(m:Nat)(hm:m≤n):Qg w T 1 (.slice (some ⟨b,0,none⟩) m c) (xs.take m):=by
 obtain⟨n',cap,h1,h2,h3,h4⟩:=h;rcases h4 with⟨⟨a',e⟩,h0⟩|⟨b',off,cs,fr,e,e2,e3⟩
 ·injection e with e1 e4 e5
  subst h0 e4 e5;obtain rfl:m=0:=by omega
  exact⟨0,0,by simp,Nat.le_refl _,Nat.zero_le _,.inl ⟨⟨_,rfl⟩,rfl⟩⟩
 ·injection e with e1 e4 e5
  injection e1 with e1
  injection e1 with e6 e7
  subst e4 e5 e6 e7;refine⟨m,c,by simp;omega,by omega,h3,.inr ⟨b,0,cs,fr,rfl,e2,fun i hi=>?_⟩⟩;simp at hi;rw[List.getElem?_take_of_lt ZO];exact e3 i ZO
def QHx (B bt:Nat)(F:Int)(w:World)(e:Ending)(w':World):Prop:=
 ∃s u t,Qsw F s∧e=.returned (.agg #[.int .i64 s.op,sv s.dfn,u,t])∧Qea w' u s.uses∧Qea w' t s.targets∧QZ B w' bt∧But bt w w'
theorem Qnw {B bt:Nat}{F:Int}{w wk:World}(s:QD)(u t:Value)(hg:Qsw F s)(ht:QZ B wk bt)(hb:But bt w wk)(hlt:bt<w.heap.size)(hr:wk.heap[w.heap.size]? = some (.cells #[.int .i64 0,.string ⟨#[]⟩,.slice none 0 0,.slice none 0 0] 94 (0,0)))(hu:Qea wk u s.uses)(ht2:Qea wk t s.targets):
  QHx B bt F w (.returned (.agg #[.int .i64 s.op,sv s.dfn,u,t])) ((((wk.setCell ⟨w.heap.size,0,none⟩ (.int .i64 s.op)).setCell ⟨w.heap.size,1,none⟩ (sv s.dfn)).setCell ⟨w.heap.size,2,none⟩ u).setCell ⟨w.heap.size,3,none⟩ t):=by
 have hge:=ht.ge;have hbs:=ht.bs;have hB:B≤w.heap.size:=by omega
 have hS (x:World) (y:Value) (o:Nat) (h:tyAt x w.heap.size=some 94):Qf 9 x (x.setCell ⟨w.heap.size,o,none⟩ y):=Qf.setCell (U:=94) h ZD;have ty (x:World) (y:Value) (o:Nat):tyAt (x.setCell ⟨w.heap.size,o,none⟩ y) w.heap.size=tyAt x w.heap.size:=by
  unfold tyAt;simp only[World.setCell,Array.getElem?_modify,if_true]
  cases x.heap[w.heap.size]? with
 |none=>rfl
 |some o=>cases o <;> rfl
 have t0:=Qv hr;have key:Qf 9 wk ((((wk.setCell ⟨w.heap.size,0,none⟩ (.int .i64 s.op)).setCell ⟨w.heap.size,1,none⟩ (sv s.dfn)).setCell ⟨w.heap.size,2,none⟩ u).setCell ⟨w.heap.size,3,none⟩ t):=
  (((hS _ _ _ t0).trans (hS _ _ _ (by rw[ty];exact t0))).trans (hS _ _ _ (by rw[ty,ty];exact t0))).trans (hS _ _ _ (by rw[ty,ty,ty];exact t0))
 refine⟨s,u,t,hg,rfl,hu.same key,ht2.same key,?_,?_⟩
 ·exact(((ht.setCell (by show w.heap.size≠bt;omega) hB _).setCell (by show w.heap.size≠bt;omega) hB _).setCell (by show w.heap.size≠bt;omega) hB _).setCell (by show w.heap.size≠bt;omega) hB _
 ·exact(((hb.setCell _ (.inr (Nat.le_refl _)) _).setCell _ (.inr (Nat.le_refl _)) _).setCell _ (.inr (Nat.le_refl _)) _).setCell _ (.inr (Nat.le_refl _)) _
structure StIn (B bt:Nat)(w w1:World):Prop where
 tape:QZ B w1 bt
 but:But bt w w1
 blk:w1.heap[w.heap.size]? = some (.cells #[.int .i64 0,.string ⟨#[]⟩,.slice none 0 0,.slice none 0 0] 94 (0,0))
theorem StIn.call {B bt:Nat}{w w1 w2:World}(h:StIn B bt w w1)(hlt:bt<w.heap.size)(ht:QZ B w2 bt)(hb:But bt w1 w2):StIn B bt w w2:=
 ⟨ht,h.but.trans hb,hb.blk h.blk ZO⟩
theorem StIn.alloc {B bt:Nat}{w w1:World}(h:StIn B bt w w1)(o:Obj):StIn B bt w (w1.alloc o):=⟨h.tape.alloc o,h.but.alloc o,Qfa _ h.blk⟩
theorem QZ.ty {B bt:Nat}{w:World}(h:QZ B w bt):tyAt w bt=some 85:=by
 obtain⟨a,n,c,i,h1,_⟩:=h.get;have hbs:=h.bs;exact Qv h1
theorem Qf.but {T bt:Nat}{w w':World}(h:But bt w w')(ht:tyAt w bt≠some T)(hbs:Base.b≤bt:=by omega):Qf T w w':=fun b c fr U hU e=>
 (h.block b (Qb e) (fun hb=>by
  subst hb
  rcases hU with rfl|hU
  ·exact ht (Qv e)
  ·omega)).trans e
theorem Qmy {B bt:Nat}{w:World}(ht:QZ B w bt)(F:Int)(hF1:1≤F)(hF3:F≤3):
  Calls Tryz.prog 39 #[.pointer (some ⟨bt,0,none⟩),.int .i64 F] w (QHx B bt F w):=by
 have hlt:=ht.lt;have hbs:=ht.bs;have h0:=Zh (show StIn B bt w (w.alloc (.cells #[.int .i64 0,.string ⟨#[]⟩,.slice none 0 0,.slice none 0 0] 94)) from⟨ht.alloc _,(But.refl _ _).alloc _,heap_alloc_new _ _⟩);clear ht;go_enter Tryz.func39,Tryz.ntmps39;go_wp2_with fail;refine(QMc h0.o.tape _ ZO).mono ?_;rintro e w1 ⟨r,r0,r9,rfl,t1,b1⟩;have S1:=Zh (h0.o.call hlt t1 b1);clear t1 b1 h0;have hr:r=0∨r=1∨r=2∨r=3∨r=4∨r=5∨r=6∨r=7∨r=8:=by omega
 clear r0 r9;rcases hr with rfl|rfl|rfl|rfl|rfl|rfl|rfl|rfl|rfl
 ·skip
  go_wp2_with fail;refine(name_any (S1.o).tape).mono ?_;rintro e w2 ⟨s2,hs2,rfl,t2,b2⟩;have S2:=Zh ((S1.o).call hlt t2 b2);clear t2 b2;go_wp2_with fail;refine(name_any (S2.o).tape).mono ?_;rintro e w3 ⟨s3,hs3,rfl,t3,b3⟩;have S3:=Zh ((S2.o).call hlt t3 b3);clear t3 b3;go_wp2_with fail;refine(name_any (S3.o).tape).mono ?_;rintro e w4 ⟨s4,hs4,rfl,t4,b4⟩;have S4:=Zh ((S3.o).call hlt t4 b4);clear t4 b4;go_wp2_with fail;refine(name_any (S4.o).tape).mono ?_;rintro e w5 ⟨s5,hs5,rfl,t5,b5⟩;have S5:=Zh ((S4.o).call hlt t5 b5);clear t5 b5;go_wp2_with fail;refine(QMc (S5.o.alloc (.cells #[sv s3,sv s4,sv s5] 9)).tape _ ZO).mono ?_;rintro e w6 ⟨r,q1,q2,rfl,t6,b6⟩;have S6:=Zh ((S5.o.alloc (.cells #[sv s3,sv s4,sv s5] 9)).call hlt t6 b6);have hu:Hid (Qea w6 (.slice (some ⟨w5.heap.size,0,none⟩) 3 3) [s3,s4,s5]):=Qg.same (Qg.new [sv s3,sv s4,sv s5] 3 rfl (by unfold maxLen;omega)) (Qf.but b6 (by rw[(S5.o.alloc (.cells #[sv s3,sv s4,sv s5] 9)).tape.ty];decide));clear t6 b6;have hr:r=0∨r=1∨r=2∨r=3:=by omega
  rcases hr with rfl|rfl|rfl|rfl
  ·skip
   have G:=set4 (S6.o).blk (.int .i64 1) (sv s2) (.slice (some ⟨w5.heap.size,0,none⟩) 0 3) (.slice none 0 0);have ⟨gc,_⟩:=Qd G;have ⟨hc,hf⟩:=Qd (S6.o).blk;go_wp2;refine bodyPost_ret (v:=.agg #[.int .i64 1,sv s2,.slice (some ⟨w5.heap.size,0,none⟩) 0 3,.slice none 0 0]) ?_ rfl ?_
   ·simp[results,Tryz.results39,go_sem,gc]
   ·exact Qnw ⟨1,s2,[s3,s4,s5].take 0,[]⟩ (.slice (some ⟨w5.heap.size,0,none⟩) 0 3) (.slice none 0 0) (.inr (.inr (.inr (.inr ⟨rfl,hs2,⟨by simp,by simp[hs3,hs4,hs5]⟩,rfl⟩)))) (S6.o).tape (S6.o).but hlt (S6.o).blk (Qg.frontS hu.o 0 ZO) Qg.nil
  ·skip
   have G:=set4 (S6.o).blk (.int .i64 1) (sv s2) (.slice (some ⟨w5.heap.size,0,none⟩) 1 3) (.slice none 0 0);have ⟨gc,_⟩:=Qd G;have ⟨hc,hf⟩:=Qd (S6.o).blk;go_wp2;refine bodyPost_ret (v:=.agg #[.int .i64 1,sv s2,.slice (some ⟨w5.heap.size,0,none⟩) 1 3,.slice none 0 0]) ?_ rfl ?_
   ·simp[results,Tryz.results39,go_sem,gc]
   ·exact Qnw ⟨1,s2,[s3,s4,s5].take 1,[]⟩ (.slice (some ⟨w5.heap.size,0,none⟩) 1 3) (.slice none 0 0) (.inr (.inr (.inr (.inr ⟨rfl,hs2,⟨by simp,by simp[hs3,hs4,hs5]⟩,rfl⟩)))) (S6.o).tape (S6.o).but hlt (S6.o).blk (Qg.frontS hu.o 1 ZO) Qg.nil
  ·skip
   have G:=set4 (S6.o).blk (.int .i64 1) (sv s2) (.slice (some ⟨w5.heap.size,0,none⟩) 2 3) (.slice none 0 0);have ⟨gc,_⟩:=Qd G;have ⟨hc,hf⟩:=Qd (S6.o).blk;go_wp2;refine bodyPost_ret (v:=.agg #[.int .i64 1,sv s2,.slice (some ⟨w5.heap.size,0,none⟩) 2 3,.slice none 0 0]) ?_ rfl ?_
   ·simp[results,Tryz.results39,go_sem,gc]
   ·exact Qnw ⟨1,s2,[s3,s4,s5].take 2,[]⟩ (.slice (some ⟨w5.heap.size,0,none⟩) 2 3) (.slice none 0 0) (.inr (.inr (.inr (.inr ⟨rfl,hs2,⟨by simp,by simp[hs3,hs4,hs5]⟩,rfl⟩)))) (S6.o).tape (S6.o).but hlt (S6.o).blk (Qg.frontS hu.o 2 ZO) Qg.nil
  ·skip
   have G:=set4 (S6.o).blk (.int .i64 1) (sv s2) (.slice (some ⟨w5.heap.size,0,none⟩) 3 3) (.slice none 0 0);have ⟨gc,_⟩:=Qd G;have ⟨hc,hf⟩:=Qd (S6.o).blk;go_wp2;refine bodyPost_ret (v:=.agg #[.int .i64 1,sv s2,.slice (some ⟨w5.heap.size,0,none⟩) 3 3,.slice none 0 0]) ?_ rfl ?_
   ·simp[results,Tryz.results39,go_sem,gc]
   ·exact Qnw ⟨1,s2,[s3,s4,s5].take 3,[]⟩ (.slice (some ⟨w5.heap.size,0,none⟩) 3 3) (.slice none 0 0) (.inr (.inr (.inr (.inr ⟨rfl,hs2,⟨by simp,by simp[hs3,hs4,hs5]⟩,rfl⟩)))) (S6.o).tape (S6.o).but hlt (S6.o).blk (Qg.frontS hu.o 3 ZO) Qg.nil
 ·skip
  go_wp2_with fail;refine(name_any (S1.o).tape).mono ?_;rintro e w2 ⟨s2,hs2,rfl,t2,b2⟩;have S2:=Zh ((S1.o).call hlt t2 b2);clear t2 b2;go_wp2_with fail;refine(name_any (S2.o).tape).mono ?_;rintro e w3 ⟨s3,hs3,rfl,t3,b3⟩;have S3:=Zh ((S2.o).call hlt t3 b3);clear t3 b3;go_wp2_with fail;refine(QMc (S3.o.alloc (.cells #[sv s2,sv s3] 9)).tape _ ZO).mono ?_;rintro e w4 ⟨r,q1,q2,rfl,t4,b4⟩;have S4:=Zh ((S3.o.alloc (.cells #[sv s2,sv s3] 9)).call hlt t4 b4);have hu:Hid (Qea w4 (.slice (some ⟨w3.heap.size,0,none⟩) 2 2) [s2,s3]):=Qg.same (Qg.new [sv s2,sv s3] 2 rfl (by unfold maxLen;omega)) (Qf.but b4 (by rw[(S3.o.alloc (.cells #[sv s2,sv s3] 9)).tape.ty];decide));clear t4 b4;have hr:r=0∨r=1:=by omega
  rcases hr with rfl|rfl
  ·skip
   have G:=set4 (S4.o).blk (.int .i64 2) (.string ⟨#[]⟩) (.slice (some ⟨w3.heap.size,0,none⟩) 1 2) (.slice none 0 0);have ⟨gc,_⟩:=Qd G;have ⟨hc,hf⟩:=Qd (S4.o).blk;go_wp2;refine bodyPost_ret (v:=.agg #[.int .i64 2,.string ⟨#[]⟩,.slice (some ⟨w3.heap.size,0,none⟩) 1 2,.slice none 0 0]) ?_ rfl ?_
   ·simp[results,Tryz.results39,go_sem,gc]
   ·exact Qnw ⟨2,[],[s2,s3].take 1,[]⟩ (.slice (some ⟨w3.heap.size,0,none⟩) 1 2) (.slice none 0 0) (.inl ⟨rfl,rfl,⟨by simp,by simp,by simp[hs2,hs3]⟩,rfl⟩) (S4.o).tape (S4.o).but hlt (S4.o).blk (Qg.frontS hu.o 1 ZO) Qg.nil
  ·skip
   have G:=set4 (S4.o).blk (.int .i64 2) (.string ⟨#[]⟩) (.slice (some ⟨w3.heap.size,0,none⟩) 2 2) (.slice none 0 0);have ⟨gc,_⟩:=Qd G;have ⟨hc,hf⟩:=Qd (S4.o).blk;go_wp2;refine bodyPost_ret (v:=.agg #[.int .i64 2,.string ⟨#[]⟩,.slice (some ⟨w3.heap.size,0,none⟩) 2 2,.slice none 0 0]) ?_ rfl ?_
   ·simp[results,Tryz.results39,go_sem,gc]
   ·exact Qnw ⟨2,[],[s2,s3].take 2,[]⟩ (.slice (some ⟨w3.heap.size,0,none⟩) 2 2) (.slice none 0 0) (.inl ⟨rfl,rfl,⟨by simp,by simp,by simp[hs2,hs3]⟩,rfl⟩) (S4.o).tape (S4.o).but hlt (S4.o).blk (Qg.frontS hu.o 2 ZO) Qg.nil
 ·skip
  go_wp2_with fail;refine(name_any (S1.o).tape).mono ?_;rintro e w2 ⟨s2,hs2,rfl,t2,b2⟩;have S2:=Zh ((S1.o).call hlt t2 b2);clear t2 b2;have G:=set4 (S2.o).blk (.int .i64 4) (sv s2) (.slice none 0 0) (.slice none 0 0);have ⟨gc,_⟩:=Qd G;have ⟨hc,hf⟩:=Qd (S2.o).blk;go_wp2;refine bodyPost_ret (v:=.agg #[.int .i64 4,sv s2,.slice none 0 0,.slice none 0 0]) ?_ rfl ?_
  ·simp[results,Tryz.results39,go_sem,gc]
  ·exact Qnw ⟨4,s2,[],[]⟩ (.slice none 0 0) (.slice none 0 0) (.inr (.inl ⟨.inl rfl,hs2,rfl,rfl⟩)) (S2.o).tape (S2.o).but hlt (S2.o).blk Qg.nil Qg.nil
 ·skip
  go_wp2_with fail;refine(name_any (S1.o).tape).mono ?_;rintro e w2 ⟨s2,hs2,rfl,t2,b2⟩;have S2:=Zh ((S1.o).call hlt t2 b2);clear t2 b2;have G:=set4 (S2.o.alloc (.cells #[sv s2] 9)).blk (.int .i64 5) (.string ⟨#[]⟩) (.slice (some ⟨w2.heap.size,0,none⟩) 1 1) (.slice none 0 0);have ⟨gc,_⟩:=Qd G;have ⟨hc,hf⟩:=Qd (S2.o.alloc (.cells #[sv s2] 9)).blk;go_wp2;refine bodyPost_ret (v:=.agg #[.int .i64 5,.string ⟨#[]⟩,.slice (some ⟨w2.heap.size,0,none⟩) 1 1,.slice none 0 0]) ?_ rfl ?_
  ·simp[results,Tryz.results39,go_sem,gc]
  ·exact Qnw ⟨5,[],[s2],[]⟩ (.slice (some ⟨w2.heap.size,0,none⟩) 1 1) (.slice none 0 0) (.inr (.inr (.inl ⟨rfl,rfl,⟨s2,hs2,rfl⟩,rfl⟩))) (S2.o.alloc (.cells #[sv s2] 9)).tape (S2.o.alloc (.cells #[sv s2] 9)).but hlt (S2.o.alloc (.cells #[sv s2] 9)).blk (Qg.new [sv s2] 1 rfl (by unfold maxLen;omega)) Qg.nil
 ·skip
  go_wp2_with fail;refine(name_any (S1.o).tape).mono ?_;rintro e w2 ⟨s2,hs2,rfl,t2,b2⟩;have S2:=Zh ((S1.o).call hlt t2 b2);clear t2 b2;have G:=set4 (S2.o).blk (.int .i64 6) (sv s2) (.slice none 0 0) (.slice none 0 0);have ⟨gc,_⟩:=Qd G;have ⟨hc,hf⟩:=Qd (S2.o).blk;go_wp2;refine bodyPost_ret (v:=.agg #[.int .i64 6,sv s2,.slice none 0 0,.slice none 0 0]) ?_ rfl ?_
  ·simp[results,Tryz.results39,go_sem,gc]
  ·exact Qnw ⟨6,s2,[],[]⟩ (.slice none 0 0) (.slice none 0 0) (.inr (.inl ⟨.inr rfl,hs2,rfl,rfl⟩)) (S2.o).tape (S2.o).but hlt (S2.o).blk Qg.nil Qg.nil
 ·skip
  go_wp2_with fail;refine(QMc (S1.o.alloc (.cells #[sv [109],sv [102],sv [103]] 9)).tape _ ZO).mono ?_;rintro e w2 ⟨r,q1,q2,rfl,t2,b2⟩;have S2:=Zh ((S1.o.alloc (.cells #[sv [109],sv [102],sv [103]] 9)).call hlt t2 b2);have hc2:∀o,w2.cell? ⟨w1.heap.size,o,none⟩=_:=(Qd (b2.blk (heap_alloc_new w1 (.cells #[sv [109],sv [102],sv [103]] 9)) (by have:=S1.o.tape.lt;omega))).1;clear t2 b2;have hr:(r=0∧(((0:Nat):Int)<F))∨(r=1∧(((1:Nat):Int)<F))∨(r=2∧(((2:Nat):Int)<F)):=by omega
  have HF:=Zh hr;have hr2:r=0∨r=1∨r=2:=by omega
  clear hr;rcases hr2 with rfl|rfl|rfl
  ·skip
   have G:=set4 (S2.o.alloc (.cells #[sv [109]] 9)).blk (.int .i64 3) (.string ⟨#[]⟩) (.slice none 0 0) (.slice (some ⟨w2.heap.size,0,none⟩) 1 1);have ⟨gc,_⟩:=Qd G;have ⟨hc,hf⟩:=Qd (S2.o.alloc (.cells #[sv [109]] 9)).blk;go_wp2;refine bodyPost_ret (v:=.agg #[.int .i64 3,.string ⟨#[]⟩,.slice none 0 0,.slice (some ⟨w2.heap.size,0,none⟩) 1 1]) ?_ rfl ?_
   ·simp[results,Tryz.results39,go_sem,gc]
   ·exact Qnw ⟨3,[],[],[[109]]⟩ (.slice none 0 0) (.slice (some ⟨w2.heap.size,0,none⟩) 1 1) (.inr (.inr (.inr (.inl ⟨rfl,rfl,rfl,0,by have:=HF.o;omega,_,rfl,rfl⟩)))) (S2.o.alloc (.cells #[sv [109]] 9)).tape (S2.o.alloc (.cells #[sv [109]] 9)).but hlt (S2.o.alloc (.cells #[sv [109]] 9)).blk Qg.nil (Qg.new [sv [109]] 1 rfl (by unfold maxLen;omega))
  ·skip
   have G:=set4 (S2.o.alloc (.cells #[sv [102]] 9)).blk (.int .i64 3) (.string ⟨#[]⟩) (.slice none 0 0) (.slice (some ⟨w2.heap.size,0,none⟩) 1 1);have ⟨gc,_⟩:=Qd G;have ⟨hc,hf⟩:=Qd (S2.o.alloc (.cells #[sv [102]] 9)).blk;go_wp2;refine bodyPost_ret (v:=.agg #[.int .i64 3,.string ⟨#[]⟩,.slice none 0 0,.slice (some ⟨w2.heap.size,0,none⟩) 1 1]) ?_ rfl ?_
   ·simp[results,Tryz.results39,go_sem,gc]
   ·exact Qnw ⟨3,[],[],[[102]]⟩ (.slice none 0 0) (.slice (some ⟨w2.heap.size,0,none⟩) 1 1) (.inr (.inr (.inr (.inl ⟨rfl,rfl,rfl,1,by have:=HF.o;omega,_,rfl,rfl⟩)))) (S2.o.alloc (.cells #[sv [102]] 9)).tape (S2.o.alloc (.cells #[sv [102]] 9)).but hlt (S2.o.alloc (.cells #[sv [102]] 9)).blk Qg.nil (Qg.new [sv [102]] 1 rfl (by unfold maxLen;omega))
  ·skip
   have G:=set4 (S2.o.alloc (.cells #[sv [103]] 9)).blk (.int .i64 3) (.string ⟨#[]⟩) (.slice none 0 0) (.slice (some ⟨w2.heap.size,0,none⟩) 1 1);have ⟨gc,_⟩:=Qd G;have ⟨hc,hf⟩:=Qd (S2.o.alloc (.cells #[sv [103]] 9)).blk;go_wp2;refine bodyPost_ret (v:=.agg #[.int .i64 3,.string ⟨#[]⟩,.slice none 0 0,.slice (some ⟨w2.heap.size,0,none⟩) 1 1]) ?_ rfl ?_
   ·simp[results,Tryz.results39,go_sem,gc]
   ·exact Qnw ⟨3,[],[],[[103]]⟩ (.slice none 0 0) (.slice (some ⟨w2.heap.size,0,none⟩) 1 1) (.inr (.inr (.inr (.inl ⟨rfl,rfl,rfl,2,by have:=HF.o;omega,_,rfl,rfl⟩)))) (S2.o.alloc (.cells #[sv [103]] 9)).tape (S2.o.alloc (.cells #[sv [103]] 9)).but hlt (S2.o.alloc (.cells #[sv [103]] 9)).blk Qg.nil (Qg.new [sv [103]] 1 rfl (by unfold maxLen;omega))
 ·skip
  go_wp2_with fail;refine(QMc (S1.o.alloc (.cells #[sv [109],sv [102],sv [103]] 9)).tape _ ZO).mono ?_;rintro e w2 ⟨r,q1,q2,rfl,t2,b2⟩;have S2:=Zh ((S1.o.alloc (.cells #[sv [109],sv [102],sv [103]] 9)).call hlt t2 b2);have hc2:∀o,w2.cell? ⟨w1.heap.size,o,none⟩=_:=(Qd (b2.blk (heap_alloc_new w1 (.cells #[sv [109],sv [102],sv [103]] 9)) (by have:=S1.o.tape.lt;omega))).1;clear t2 b2;have hr:(r=0∧(((0:Nat):Int)<F))∨(r=1∧(((1:Nat):Int)<F))∨(r=2∧(((2:Nat):Int)<F)):=by omega
  have HF:=Zh hr;have hr2:r=0∨r=1∨r=2:=by omega
  clear hr;rcases hr2 with rfl|rfl|rfl
  ·skip
   have G:=set4 (S2.o.alloc (.cells #[sv [109]] 9)).blk (.int .i64 3) (.string ⟨#[]⟩) (.slice none 0 0) (.slice (some ⟨w2.heap.size,0,none⟩) 1 1);have ⟨gc,_⟩:=Qd G;have ⟨hc,hf⟩:=Qd (S2.o.alloc (.cells #[sv [109]] 9)).blk;go_wp2;refine bodyPost_ret (v:=.agg #[.int .i64 3,.string ⟨#[]⟩,.slice none 0 0,.slice (some ⟨w2.heap.size,0,none⟩) 1 1]) ?_ rfl ?_
   ·simp[results,Tryz.results39,go_sem,gc]
   ·exact Qnw ⟨3,[],[],[[109]]⟩ (.slice none 0 0) (.slice (some ⟨w2.heap.size,0,none⟩) 1 1) (.inr (.inr (.inr (.inl ⟨rfl,rfl,rfl,0,by have:=HF.o;omega,_,rfl,rfl⟩)))) (S2.o.alloc (.cells #[sv [109]] 9)).tape (S2.o.alloc (.cells #[sv [109]] 9)).but hlt (S2.o.alloc (.cells #[sv [109]] 9)).blk Qg.nil (Qg.new [sv [109]] 1 rfl (by unfold maxLen;omega))
  ·skip
   have G:=set4 (S2.o.alloc (.cells #[sv [102]] 9)).blk (.int .i64 3) (.string ⟨#[]⟩) (.slice none 0 0) (.slice (some ⟨w2.heap.size,0,none⟩) 1 1);have ⟨gc,_⟩:=Qd G;have ⟨hc,hf⟩:=Qd (S2.o.alloc (.cells #[sv [102]] 9)).blk;go_wp2;refine bodyPost_ret (v:=.agg #[.int .i64 3,.string ⟨#[]⟩,.slice none 0 0,.slice (some ⟨w2.heap.size,0,none⟩) 1 1]) ?_ rfl ?_
   ·simp[results,Tryz.results39,go_sem,gc]
   ·exact Qnw ⟨3,[],[],[[102]]⟩ (.slice none 0 0) (.slice (some ⟨w2.heap.size,0,none⟩) 1 1) (.inr (.inr (.inr (.inl ⟨rfl,rfl,rfl,1,by have:=HF.o;omega,_,rfl,rfl⟩)))) (S2.o.alloc (.cells #[sv [102]] 9)).tape (S2.o.alloc (.cells #[sv [102]] 9)).but hlt (S2.o.alloc (.cells #[sv [102]] 9)).blk Qg.nil (Qg.new [sv [102]] 1 rfl (by unfold maxLen;omega))
  ·skip
   have G:=set4 (S2.o.alloc (.cells #[sv [103]] 9)).blk (.int .i64 3) (.string ⟨#[]⟩) (.slice none 0 0) (.slice (some ⟨w2.heap.size,0,none⟩) 1 1);have ⟨gc,_⟩:=Qd G;have ⟨hc,hf⟩:=Qd (S2.o.alloc (.cells #[sv [103]] 9)).blk;go_wp2;refine bodyPost_ret (v:=.agg #[.int .i64 3,.string ⟨#[]⟩,.slice none 0 0,.slice (some ⟨w2.heap.size,0,none⟩) 1 1]) ?_ rfl ?_
   ·simp[results,Tryz.results39,go_sem,gc]
   ·exact Qnw ⟨3,[],[],[[103]]⟩ (.slice none 0 0) (.slice (some ⟨w2.heap.size,0,none⟩) 1 1) (.inr (.inr (.inr (.inl ⟨rfl,rfl,rfl,2,by have:=HF.o;omega,_,rfl,rfl⟩)))) (S2.o.alloc (.cells #[sv [103]] 9)).tape (S2.o.alloc (.cells #[sv [103]] 9)).but hlt (S2.o.alloc (.cells #[sv [103]] 9)).blk Qg.nil (Qg.new [sv [103]] 1 rfl (by unfold maxLen;omega))
 ·skip
  go_wp2_with fail;refine(name_any (S1.o).tape).mono ?_;rintro e w2 ⟨s2,hs2,rfl,t2,b2⟩;have S2:=Zh ((S1.o).call hlt t2 b2);clear t2 b2;go_wp2_with fail;refine(name_any (S2.o).tape).mono ?_;rintro e w3 ⟨s3,hs3,rfl,t3,b3⟩;have S3:=Zh ((S2.o).call hlt t3 b3);clear t3 b3;go_wp2_with fail;refine(name_any (S3.o).tape).mono ?_;rintro e w4 ⟨s4,hs4,rfl,t4,b4⟩;have S4:=Zh ((S3.o).call hlt t4 b4);clear t4 b4;go_wp2_with fail;refine(name_any (S4.o).tape).mono ?_;rintro e w5 ⟨s5,hs5,rfl,t5,b5⟩;have S5:=Zh ((S4.o).call hlt t5 b5);clear t5 b5;go_wp2_with fail;refine(QMc (S5.o.alloc (.cells #[sv s3,sv s4,sv s5] 9)).tape _ ZO).mono ?_;rintro e w6 ⟨r,q1,q2,rfl,t6,b6⟩;have S6:=Zh ((S5.o.alloc (.cells #[sv s3,sv s4,sv s5] 9)).call hlt t6 b6);have hu:Hid (Qea w6 (.slice (some ⟨w5.heap.size,0,none⟩) 3 3) [s3,s4,s5]):=Qg.same (Qg.new [sv s3,sv s4,sv s5] 3 rfl (by unfold maxLen;omega)) (Qf.but b6 (by rw[(S5.o.alloc (.cells #[sv s3,sv s4,sv s5] 9)).tape.ty];decide));clear t6 b6;have hr:r=0∨r=1∨r=2∨r=3:=by omega
  rcases hr with rfl|rfl|rfl|rfl
  ·skip
   have G:=set4 (S6.o).blk (.int .i64 1) (sv s2) (.slice (some ⟨w5.heap.size,0,none⟩) 0 3) (.slice none 0 0);have ⟨gc,_⟩:=Qd G;have ⟨hc,hf⟩:=Qd (S6.o).blk;go_wp2;refine bodyPost_ret (v:=.agg #[.int .i64 1,sv s2,.slice (some ⟨w5.heap.size,0,none⟩) 0 3,.slice none 0 0]) ?_ rfl ?_
   ·simp[results,Tryz.results39,go_sem,gc]
   ·exact Qnw ⟨1,s2,[s3,s4,s5].take 0,[]⟩ (.slice (some ⟨w5.heap.size,0,none⟩) 0 3) (.slice none 0 0) (.inr (.inr (.inr (.inr ⟨rfl,hs2,⟨by simp,by simp[hs3,hs4,hs5]⟩,rfl⟩)))) (S6.o).tape (S6.o).but hlt (S6.o).blk (Qg.frontS hu.o 0 ZO) Qg.nil
  ·skip
   have G:=set4 (S6.o).blk (.int .i64 1) (sv s2) (.slice (some ⟨w5.heap.size,0,none⟩) 1 3) (.slice none 0 0);have ⟨gc,_⟩:=Qd G;have ⟨hc,hf⟩:=Qd (S6.o).blk;go_wp2;refine bodyPost_ret (v:=.agg #[.int .i64 1,sv s2,.slice (some ⟨w5.heap.size,0,none⟩) 1 3,.slice none 0 0]) ?_ rfl ?_
   ·simp[results,Tryz.results39,go_sem,gc]
   ·exact Qnw ⟨1,s2,[s3,s4,s5].take 1,[]⟩ (.slice (some ⟨w5.heap.size,0,none⟩) 1 3) (.slice none 0 0) (.inr (.inr (.inr (.inr ⟨rfl,hs2,⟨by simp,by simp[hs3,hs4,hs5]⟩,rfl⟩)))) (S6.o).tape (S6.o).but hlt (S6.o).blk (Qg.frontS hu.o 1 ZO) Qg.nil
  ·skip
   have G:=set4 (S6.o).blk (.int .i64 1) (sv s2) (.slice (some ⟨w5.heap.size,0,none⟩) 2 3) (.slice none 0 0);have ⟨gc,_⟩:=Qd G;have ⟨hc,hf⟩:=Qd (S6.o).blk;go_wp2;refine bodyPost_ret (v:=.agg #[.int .i64 1,sv s2,.slice (some ⟨w5.heap.size,0,none⟩) 2 3,.slice none 0 0]) ?_ rfl ?_
   ·simp[results,Tryz.results39,go_sem,gc]
   ·exact Qnw ⟨1,s2,[s3,s4,s5].take 2,[]⟩ (.slice (some ⟨w5.heap.size,0,none⟩) 2 3) (.slice none 0 0) (.inr (.inr (.inr (.inr ⟨rfl,hs2,⟨by simp,by simp[hs3,hs4,hs5]⟩,rfl⟩)))) (S6.o).tape (S6.o).but hlt (S6.o).blk (Qg.frontS hu.o 2 ZO) Qg.nil
  ·skip
   have G:=set4 (S6.o).blk (.int .i64 1) (sv s2) (.slice (some ⟨w5.heap.size,0,none⟩) 3 3) (.slice none 0 0);have ⟨gc,_⟩:=Qd G;have ⟨hc,hf⟩:=Qd (S6.o).blk;go_wp2;refine bodyPost_ret (v:=.agg #[.int .i64 1,sv s2,.slice (some ⟨w5.heap.size,0,none⟩) 3 3,.slice none 0 0]) ?_ rfl ?_
   ·simp[results,Tryz.results39,go_sem,gc]
   ·exact Qnw ⟨1,s2,[s3,s4,s5].take 3,[]⟩ (.slice (some ⟨w5.heap.size,0,none⟩) 3 3) (.slice none 0 0) (.inr (.inr (.inr (.inr ⟨rfl,hs2,⟨by simp,by simp[hs3,hs4,hs5]⟩,rfl⟩)))) (S6.o).tape (S6.o).but hlt (S6.o).blk (Qg.frontS hu.o 3 ZO) Qg.nil
 ·skip
  go_wp2_with fail;refine(name_any (S1.o).tape).mono ?_;rintro e w2 ⟨s2,hs2,rfl,t2,b2⟩;have S2:=Zh ((S1.o).call hlt t2 b2);clear t2 b2;go_wp2_with fail;refine(name_any (S2.o).tape).mono ?_;rintro e w3 ⟨s3,hs3,rfl,t3,b3⟩;have S3:=Zh ((S2.o).call hlt t3 b3);clear t3 b3;go_wp2_with fail;refine(name_any (S3.o).tape).mono ?_;rintro e w4 ⟨s4,hs4,rfl,t4,b4⟩;have S4:=Zh ((S3.o).call hlt t4 b4);clear t4 b4;go_wp2_with fail;refine(name_any (S4.o).tape).mono ?_;rintro e w5 ⟨s5,hs5,rfl,t5,b5⟩;have S5:=Zh ((S4.o).call hlt t5 b5);clear t5 b5;go_wp2_with fail;refine(QMc (S5.o.alloc (.cells #[sv s3,sv s4,sv s5] 9)).tape _ ZO).mono ?_;rintro e w6 ⟨r,q1,q2,rfl,t6,b6⟩;have S6:=Zh ((S5.o.alloc (.cells #[sv s3,sv s4,sv s5] 9)).call hlt t6 b6);have hu:Hid (Qea w6 (.slice (some ⟨w5.heap.size,0,none⟩) 3 3) [s3,s4,s5]):=Qg.same (Qg.new [sv s3,sv s4,sv s5] 3 rfl (by unfold maxLen;omega)) (Qf.but b6 (by rw[(S5.o.alloc (.cells #[sv s3,sv s4,sv s5] 9)).tape.ty];decide));clear t6 b6;have hr:r=0∨r=1∨r=2∨r=3:=by omega
  rcases hr with rfl|rfl|rfl|rfl
  ·skip
   have G:=set4 (S6.o).blk (.int .i64 1) (sv s2) (.slice (some ⟨w5.heap.size,0,none⟩) 0 3) (.slice none 0 0);have ⟨gc,_⟩:=Qd G;have ⟨hc,hf⟩:=Qd (S6.o).blk;go_wp2;refine bodyPost_ret (v:=.agg #[.int .i64 1,sv s2,.slice (some ⟨w5.heap.size,0,none⟩) 0 3,.slice none 0 0]) ?_ rfl ?_
   ·simp[results,Tryz.results39,go_sem,gc]
   ·exact Qnw ⟨1,s2,[s3,s4,s5].take 0,[]⟩ (.slice (some ⟨w5.heap.size,0,none⟩) 0 3) (.slice none 0 0) (.inr (.inr (.inr (.inr ⟨rfl,hs2,⟨by simp,by simp[hs3,hs4,hs5]⟩,rfl⟩)))) (S6.o).tape (S6.o).but hlt (S6.o).blk (Qg.frontS hu.o 0 ZO) Qg.nil
  ·skip
   have G:=set4 (S6.o).blk (.int .i64 1) (sv s2) (.slice (some ⟨w5.heap.size,0,none⟩) 1 3) (.slice none 0 0);have ⟨gc,_⟩:=Qd G;have ⟨hc,hf⟩:=Qd (S6.o).blk;go_wp2;refine bodyPost_ret (v:=.agg #[.int .i64 1,sv s2,.slice (some ⟨w5.heap.size,0,none⟩) 1 3,.slice none 0 0]) ?_ rfl ?_
   ·simp[results,Tryz.results39,go_sem,gc]
   ·exact Qnw ⟨1,s2,[s3,s4,s5].take 1,[]⟩ (.slice (some ⟨w5.heap.size,0,none⟩) 1 3) (.slice none 0 0) (.inr (.inr (.inr (.inr ⟨rfl,hs2,⟨by simp,by simp[hs3,hs4,hs5]⟩,rfl⟩)))) (S6.o).tape (S6.o).but hlt (S6.o).blk (Qg.frontS hu.o 1 ZO) Qg.nil
  ·skip
   have G:=set4 (S6.o).blk (.int .i64 1) (sv s2) (.slice (some ⟨w5.heap.size,0,none⟩) 2 3) (.slice none 0 0);have ⟨gc,_⟩:=Qd G;have ⟨hc,hf⟩:=Qd (S6.o).blk;go_wp2;refine bodyPost_ret (v:=.agg #[.int .i64 1,sv s2,.slice (some ⟨w5.heap.size,0,none⟩) 2 3,.slice none 0 0]) ?_ rfl ?_
   ·simp[results,Tryz.results39,go_sem,gc]
   ·exact Qnw ⟨1,s2,[s3,s4,s5].take 2,[]⟩ (.slice (some ⟨w5.heap.size,0,none⟩) 2 3) (.slice none 0 0) (.inr (.inr (.inr (.inr ⟨rfl,hs2,⟨by simp,by simp[hs3,hs4,hs5]⟩,rfl⟩)))) (S6.o).tape (S6.o).but hlt (S6.o).blk (Qg.frontS hu.o 2 ZO) Qg.nil
  ·skip
   have G:=set4 (S6.o).blk (.int .i64 1) (sv s2) (.slice (some ⟨w5.heap.size,0,none⟩) 3 3) (.slice none 0 0);have ⟨gc,_⟩:=Qd G;have ⟨hc,hf⟩:=Qd (S6.o).blk;go_wp2;refine bodyPost_ret (v:=.agg #[.int .i64 1,sv s2,.slice (some ⟨w5.heap.size,0,none⟩) 3 3,.slice none 0 0]) ?_ rfl ?_
   ·simp[results,Tryz.results39,go_sem,gc]
   ·exact Qnw ⟨1,s2,[s3,s4,s5].take 3,[]⟩ (.slice (some ⟨w5.heap.size,0,none⟩) 3 3) (.slice none 0 0) (.inr (.inr (.inr (.inr ⟨rfl,hs2,⟨by simp,by simp[hs3,hs4,hs5]⟩,rfl⟩)))) (S6.o).tape (S6.o).but hlt (S6.o).blk (Qg.frontS hu.o 3 ZO) Qg.nil
end
section
open Go.RowKit
variable [Base]
theorem QYu {P:Program}{ops:Array Oper}{o:Oper}{a:Act}{K:Act→World→Prop}{Q:Exit→Act→World→Prop}{E:Prop}{w:World}(news:List Value)(hgd:o.guard=none)(s x:Operand)(t:TypeId)(ho:o.op=.call { callee:=.builtin .append,args:=#[s,x],argTypes:=#[t,t] })(base:Nat)(e:TypeId)(z:Value)(size bytes:Nat)(ht:P.underlying t=some (.slice e))(hi:(P.info? e).map (fun i=>(i.zero,i.size,i.bytes))=some (some z,size,bytes))(hzs:z.cells.size=size)(hsz:0<size)(v:Value)(n:Nat)(xs:List Value)(hown:w.ownsRow base e size v n xs)(hs:a.eval s=v)(hx:a.eval x=.slice (some ⟨w.heap.size,0,none⟩) 1 1)(hl:news.length=size)(h1:news.all Value.oneCell'=true)(h63:n+1≤maxLen)(hbytes:(n+1)*bytes≤140737488355328)(hbase:base≤w.heap.size)(h:∀g cap w',w'.ownsRow base e size (.slice (some ⟨g,0,none⟩) (n+1) cap) (n+1) (xs++news)→w.grownBy w' v.ownBlock→base≤g→g<w'.heap.size →
   K (a.put o.dst (.slice (some ⟨g,0,none⟩) (n+1) cap)) w'):
  if Region.wanted o (yielded ops a.tmps)=true then Oper.wp P o a (w.alloc (.cells news.toArray e)) K Q else E:=by
 obtain⟨i,hi',hz,hs1,hs2⟩:=info_parts hi;refine step_append_lies _ hgd s x t ho base e i z size bytes ht hi' hz hs1 hs2 hzs hsz v n xs hs (hown.alloc _) ⟨w.heap.size,0,none⟩ 1 1 news hx ZO
  QPk (fun u hu=>List.all_eq_true.1 h1 u hu) ZO h63 hbytes (by simp;omega) _ rfl ?_
 intro g cap w' h2 h3 h4 h5;refine h g cap w' h2 ?_ ?_ h5
 ·have ha:=World.grownBy_alloc w (.cells news.toArray e) v.ownBlock;exact⟨h3.os.trans ha.os,h3.tape.trans ha.tape,h3.output.trans ha.output,Nat.le_trans ha.size h3.size,
   fun k hk hn=>(h3.block k (Nat.lt_of_lt_of_le hk ha.size) hn).trans (ha.block k hk hn)⟩
 ·rcases h4 with h4|h4
  ·exact(hown.lt g h4).1
  ·rw[h4];simp;omega
theorem Qcb {P:Program}{ops:Array Oper}{rest:List Oper}{o:Oper}{a:Act}{Q:Exit→Act→World→Prop}{w:World}(news:List Value)(hgd:o.guard=none)(s x:Operand)(t:TypeId)(ho:o.op=.call { callee:=.builtin .append,args:=#[s,x],argTypes:=#[t,t] })(base:Nat)(e:TypeId)(z:Value)(size bytes:Nat)(ht:P.underlying t=some (.slice e))(hi:(P.info? e).map (fun i=>(i.zero,i.size,i.bytes))=some (some z,size,bytes))(hzs:z.cells.size=size)(hsz:0<size)(v:Value)(n:Nat)(xs:List Value)(hown:w.ownsRow base e size v n xs)(hs:a.eval s=v)(H:Nat)(hx:a.eval x=.slice (some ⟨H,0,none⟩) 1 1)(hH:w.heap.size=H)(hl:news.length=size)(h1:news.all Value.oneCell'=true)(h63:n+1≤maxLen)(hbytes:(n+1)*bytes≤140737488355328)(hbase:base≤w.heap.size)(h:∀g cap w',w'.ownsRow base e size (.slice (some ⟨g,0,none⟩) (n+1) cap) (n+1) (xs++news)→w.grownBy w' v.ownBlock→base≤g→g<w'.heap.size →
   wpList P ops Q rest (a.put o.dst (.slice (some ⟨g,0,none⟩) (n+1) cap)) w'):
  wpList P ops Q (o::rest) a (w.alloc (.cells news.toArray e)):=
 QL news hgd s x t ho base e z size bytes ht hi hzs hsz v n xs hown hs (by rw[hH];exact hx) hl h1 h63 hbytes hbase h
end
section
def Qxd:Code→Option Code
|.loop c=>some c
|.seq a b=>match Qxd a with
 |some c=>some c
 |none=>Qxd b
|.block _ c=>Qxd c
|.scope c=>Qxd c
|.cond _ a b=>match Qxd a with
 |some c=>some c
 |none=>Qxd b
|_=>none
def Qqp (a:Act):Nat→Value:=fun i=>a.tmps.getD i undef
end
section
open Go.RowKit
variable [Base]
noncomputable def QBw:Code:=(Tryz.f9.body.bind Qxd).getD .skip
noncomputable def QAw:Code:=(Qxd QBw).getD .skip
noncomputable def QJw:Code:=(Qxd QAw).getD .skip
def frP (bt R:Nat)(F:Int)(iv fp K k bp n:Value)(u:Nat→Value):Act:={ tmps:=#[.pointer (some ⟨bt,0,none⟩),undef,.pointer (some ⟨R,0,none⟩),.pointer (some ⟨R+1,0,none⟩),.int .i64 F,iv,fp,K,k,bp,n,u 11,u 12,u 13,u 14,u 15,u 16,u 17,u 18,u 19,u 20,u 21,u 22,u 23,u 24,u 25,u 26,u 27,u 28,u 29,u 30,u 31,u 32,u 33,u 34,u 35,u 36,u 37,u 38,u 39,u 40,u 41,u 42,u 43,u 44,u 45,u 46,u 47,u 48,u 49,u 50,u 51,u 52,u 53,u 54,u 55,u 56,u 57,u 58,u 59,u 60,u 61,u 62,u 63,u 64,u 65,u 66,u 67,u 68,u 69,u 70,u 71,u 72,u 73,u 74,u 75,u 76,u 77,u 78,u 79,u 80,u 81,u 82,u 83,u 84,u 85,u 86,u 87,u 88,u 89,u 90,u 91,u 92,u 93,u 94,u 95,u 96,u 97,u 98,u 99,u 100,u 101,u 102,u 103],defers:=[] }
theorem QGm:(Tryz.prog.info? 94).map (fun i=>(i.zero,i.size,i.bytes))=some (some (.agg #[.int .i64 0,.string ⟨#[]⟩,.slice none 0 0,.slice none 0 0]),4,72):=by kernel_rfl
theorem QEk:(Tryz.prog.info? 92).map (fun i=>(i.zero,i.size,i.bytes))=some (some (.agg #[.string ⟨#[]⟩,.slice none 0 0]),2,40):=by kernel_rfl
theorem Qvs:(Tryz.prog.info? 89).map (fun i=>(i.zero,i.size,i.bytes))=some (some (.agg #[.string ⟨#[]⟩,.slice none 0 0]),2,40):=by kernel_rfl
def QDd (w:World)(v:Value)(l:List QD):Prop:=∃xss,Qg w 94 4 v xss.flatten∧All2 (QZa w) xss l
def QKa (w:World)(cs:List Value)(b:QI):Prop:=∃v,cs=[sv b.name,v]∧QDd w v b.stmts
def QOc (w:World)(v:Value)(l:List QI):Prop:=∃xss,Qg w 92 2 v xss.flatten∧All2 (QKa w) xss l
def Qab (w:World)(cs:List Value)(f:Qo):Prop:=∃v,cs=[sv f.name,v]∧QOc w v f.blocks
def QAa (w:World)(v:Value)(l:List Qo):Prop:=∃xss,Qg w 89 2 v xss.flatten∧All2 (Qab w) xss l
theorem QZa.keep {w w':World}(h9:Qf 9 w w'){cs:List Value}{s:QD}(h:QZa w cs s):QZa w' cs s:=by
 obtain⟨u,t,e,h1,h2⟩:=h;exact⟨u,t,e,h1.same h9,h2.same h9⟩
theorem QDd.keep {w w':World}(h9:Qf 9 w w')(h64:Qf 94 w w'){v:Value}{l:List QD}(h:QDd w v l):QDd w' v l:=by
 obtain⟨xss,h1,h2⟩:=h;exact⟨xss,h1.same h64,h2.mono fun _ _=>QZa.keep h9⟩
theorem QKa.keep {w w':World}(h9:Qf 9 w w')(h64:Qf 94 w w'){cs:List Value}{b:QI}(h:QKa w cs b):QKa w' cs b:=by
 obtain⟨v,e,h1⟩:=h;exact⟨v,e,h1.keep h9 h64⟩
theorem QOc.keep {w w':World}(h9:Qf 9 w w')(h64:Qf 94 w w')(h62:Qf 92 w w'){v:Value}{l:List QI}(h:QOc w v l):QOc w' v l:=by
 obtain⟨xss,h1,h2⟩:=h;exact⟨xss,h1.same h62,h2.mono fun _ _=>QKa.keep h9 h64⟩
theorem Qab.keep {w w':World}(h9:Qf 9 w w')(h64:Qf 94 w w')(h62:Qf 92 w w'){cs:List Value}{f:Qo}(h:Qab w cs f):Qab w' cs f:=by
 obtain⟨v,e,h1⟩:=h;exact⟨v,e,h1.keep h9 h64 h62⟩
theorem QAa.keep {w w':World}(h9:Qf 9 w w')(h64:Qf 94 w w')(h62:Qf 92 w w')(h59:Qf 89 w w'){v:Value}{l:List Qo}(h:QAa w v l):QAa w' v l:=by
 obtain⟨xss,h1,h2⟩:=h;exact⟨xss,h1.same h59,h2.mono fun _ _=>Qab.keep h9 h64 h62⟩
theorem But.belowB {bt B:Nat}{a w w':World}(h:But bt a w)(k:Below B w w')(hB:a.heap.size≤B):But bt a w':=
 ⟨k.os.trans h.os,k.tape.trans h.tape,k.output.trans h.output,Nat.le_trans h.size k.size,fun i hi hn=>(k.block i ZO).trans (h.block i hi hn)⟩
theorem Qg.one {w:World}{T:TypeId}{sz:Nat}{v:Value}{xs:List Value}(h:Qg w T sz v xs):v.oneCell'=true:=by
 obtain⟨n,cap,h1,h2,h3,h4⟩:=h;rcases h4 with⟨⟨a,rfl⟩,_⟩|⟨b,off,c,fr,rfl,_⟩ <;> rfl
theorem Quy {α:Type}{p:α→Prop}{l:List α}{s:α}(h:∀x∈l,p x)(hs:p s):∀x∈l++[s],p x:=by
 intro x hx;rcases List.mem_append.1 hx with hx|hx
 ·exact h x hx
 ·simp at hx;rw[hx];exact hs
def Qqy:Exit→Act→World→Prop:=fun _ _ _=>False
def QUw (id:Nat)(X:Act→World→Prop):Exit→Act→World→Prop
|.exit i,a,w=>i=id∧X a w
|_,_,_=>False
theorem But.undrew {bt n:Nat}{w w':World}(hb:But bt (w.drewN n) w'):But bt w w':=⟨hb.os,hb.tape,hb.output,hb.size,hb.block⟩
theorem Qvc {bt base sz n:Nat}{e:TypeId}{v:Value}{xs:List Value}{w w':World}(h:w.ownsRow base e sz v n xs)(hb:But bt w w')(hlt:bt<base):w'.ownsRow base e sz v n xs:=by
 refine⟨h.1,?_⟩;rcases h.2 with hn|⟨g,cap,cur,rfl,hg,hh,rest⟩
 ·exact .inl hn
 ·exact .inr ⟨g,cap,cur,rfl,hg,hb.blk hh ZO,rest⟩
structure In3 (B bt bb:Nat)(F:Int)(w0 w:World)(name:Str)(l:List QD):Prop where
 tape:QZ B w bt
 but:But bt w0 w
 ge:w0.heap.size≤bb
 lt:bt<w0.heap.size
 row:∃v xss,w.heap[bb]? = some (.cells #[sv name,v] 92 (0,0))∧w.ownsRow (bb+1) 94 4 v l.length xss.flatten∧All2 (QZa w) xss l
theorem In3.call {B bt bb:Nat}{F:Int}{w0 w w1:World}{name:Str}{l:List QD}(h:In3 B bt bb F w0 w name l)(ht:QZ B w1 bt)(hb':But bt w w1):In3 B bt bb F w0 w1 name l:=by
 obtain⟨v,xss,h1,h2,h3⟩:=h.row;have:=h.lt;have:=h.ge;have hbs:=h.tape.bs;exact⟨ht,h.but.trans hb',h.ge,h.lt,⟨v,xss,hb'.blk h1 ZO,Qvc h2 hb' ZO,h3.mono fun _ _=>QZa.keep (Qf.but hb' (by rw[h.tape.ty];decide))⟩⟩
theorem In3.push {B bt bb:Nat}{F:Int}{w0 w w1:World}{name:Str}{l:List QD}(h:In3 B bt bb F w0 w name l)(s:QD)(cs:List Value)(hc:QZa w cs s){v:Value}{xss:List (List Value)}(hb:w.heap[bb]? = some (.cells #[sv name,v] 92 (0,0)))(hown:w.ownsRow (bb+1) 94 4 v l.length xss.flatten)(hall:All2 (QZa w) xss l){g cap:Nat}(hown1:w1.ownsRow (bb+1) 94 4 (.slice (some ⟨g,0,none⟩) (l.length+1) cap) (l.length+1) (xss.flatten++cs))(hg:w.grownBy w1 v.ownBlock):
  In3 B bt bb F w0 (w1.setCell ⟨bb,1,none⟩ (.slice (some ⟨g,0,none⟩) (l.length+1) cap)) name (l++[s]):=by
 have hlt:=h.lt;have hge:=h.ge;have hbs:=h.tape.bs;have hbb:=Qb hb;have hbel:Below (bb+1) w w1:=Below.of_grown hg hown hbb;have h9:Qf 9 w w1:=Qf.grown hg hown ZD;have hb1:w1.heap[bb]? = some (.cells #[sv name,v] 92 (0,0)):=(hbel.block bb ZO).trans hb;have h9':Qf 9 w (w1.setCell ⟨bb,1,none⟩ (.slice (some ⟨g,0,none⟩) (l.length+1) cap)):=h9.trans (Qf.setCell (U:=92) (Qv hb1) ZD);have hget:=h.tape.ge;refine⟨?_,?_,hge,hlt,⟨.slice (some ⟨g,0,none⟩) (l.length+1) cap,xss++[cs],?_,?_,?_⟩⟩
 ·have t1:QZ B w1 bt:=h.tape.keep (hbel.block bt ZO) (fun k hk=>hbel.block k ZO) hbel.size;exact t1.setCell (by show bb≠bt;omega) (by show B≤bb;omega) _
 ·exact(h.but.belowB hbel ZO).setCell _ (.inr hge) _
 ·simp[World.setCell,Array.getElem?_modify,hb1]
 ·rw[List.length_append,List.flatten_append];refine ownsRow_setCell_below ?_ (by show bb<bb+1;omega) _
  simpa using hown1
 ·exact All2.append (hall.mono fun _ _=>QZa.keep h9') ⟨hc.keep h9',trivial⟩
theorem Qzx {B bt bb R:Nat}{F:Int}{w0 w:World}{name:Str}{l:List QD}{m:Nat}(iv fp K k:Value)(u:Nat→Value)(hF1:1≤F)(hF3:F≤3)(h:In3 B bt bb F w0 w name l)(hm:l.length+(m+1)≤3):
  QJw.wp Tryz.prog (Exit.then (fun a' w'=>(∃s,Qsw F s∧a'=frP bt R F iv fp K k (.pointer (some ⟨bb,0,none⟩)) (.int .i64 m) (Qqp a')∧In3 B bt bb F w0 w' name (l++[s]))) Qqy) (frP bt R F iv fp K k (.pointer (some ⟨bb,0,none⟩)) (.int .i64 ((m+1:Nat):Int)) u) w:=by
 obtain⟨v,xss,hb,hown,hall⟩:=h.row;have hlt:=h.lt;have hge:=h.ge;have H:=Zh h;have HB:=Zh hb;have HO:=Zh hown;have HA:=Zh hall;have ⟨hc,hf⟩:=Qd hb;have c1:=hc 1;have f1:=hf 1;simp at c1;clear h hb hown hall hc hf
 conv=>arg 2;whnf
 unfold frP;go_wp2_with fail;go_region_law (first
  |(go_simp;go_at_call 39;go_must (refine(Qmy (H.o.tape.drewN 1) F hF1 hF3).mono ?_;rintro e w2 ⟨s,us,ts,gs,rfl,hu,ht,tp,bu⟩;have bu:=But.undrew bu;have I2:=Zh (H.o.call tp bu);have HU:=Zh (Qg.one hu);have HT:=Zh (Qg.one ht);have hcs:=Zh (show QZa w2 [.int .i64 s.op,sv s.dfn,us,ts] s from⟨us,ts,rfl,hu,ht⟩);have HO2:=Zh (Qvc HO.o bu ZO);have HB2:=Zh (bu.blk HB.o ZO);have HA2:=Zh (HA.o.mono fun _ _=>QZa.keep (Qf.but bu (by rw[H.o.tape.ty];decide) H.o.tape.bs));have c2:=(Qd HB2.o).1 1;have hsz:=Qb HB2.o;simp only[List.getElem?_toArray,List.getElem?_cons_succ,List.getElem?_cons_zero] at c2))
  |(refine QYu [.int .i64 s.op,sv s.dfn,us,ts] rfl _ _ 90 (by rfl) (bb+1) 94 _ 4 72 Tryz.underlying90 QGm rfl ZO _ _ _ HO2.o (by rfl) (by rfl) rfl (by simp only[List.all_cons,List.all_nil,HU.o,HT.o];rfl) (by unfold maxLen;omega) ZO ZO ?_;intro g cap w3 hown3 hg3 g1 g2;have hb3:=Below.of_grown hg3 HO2.o ZO;have c3:=(hb3.cell (p:=⟨bb,1,none⟩) (by show bb<bb+1;omega)).trans c2;have f3:=(hb3.frozen (p:=⟨bb,1,none⟩) (by show bb<bb+1;omega)).trans ((Qd HB2.o).2 1);have HO3:=Zh hown3;have HG3:=Zh hg3;clear hown3 hg3 hb3)
  |fail)
 all_goals
  go_wp2
  try simp only[Exit.then]
  exact⟨s,gs,rfl,I2.o.push s _ hcs.o HB2.o HO2.o HA2.o HO3.o HG3.o⟩
def End3 (B bt bb R:Nat)(F:Int)(w0:World)(name:Str)(iv fp K k:Value)(a:Act)(w:World):Prop:=
 ∃l,a=frP bt R F iv fp K k (.pointer (some ⟨bb,0,none⟩)) (.int .i64 ((0:Nat):Int)) (Qqp a)∧In3 B bt bb F w0 w name l∧l.length≤3∧∀s∈l,Qsw F s
theorem QPx {B bt bb R:Nat}{F:Int}{w0 w:World}{name:Str}{l:List QD}(iv fp K k:Value)(u:Nat→Value)(h:In3 B bt bb F w0 w name l)(hm:l.length≤3)(hg:∀s∈l,Qsw F s)(I:Act→World→Prop):
  QJw.wp Tryz.prog (Exit.then I (QUw 4 (End3 B bt bb R F w0 name iv fp K k))) (frP bt R F iv fp K k (.pointer (some ⟨bb,0,none⟩)) (.int .i64 ((0:Nat):Int)) u) w:=by
 have H:=Zh h;clear h
 conv=>arg 2;whnf
 unfold frP;go_wp2;exact⟨rfl,l,rfl,H.o,hm,hg⟩
theorem QMx {B bt bb R:Nat}{F:Int}{w0 w:World}{name:Str}{l:List QD}{m:Nat}(iv fp K k:Value)(u:Nat→Value)(hF1:1≤F)(hF3:F≤3)(h:In3 B bt bb F w0 w name l)(hm:l.length+m≤3)(hg:∀s∈l,Qsw F s):
  (Code.loop QJw).wp Tryz.prog (QUw 4 (End3 B bt bb R F w0 name iv fp K k)) (frP bt R F iv fp K k (.pointer (some ⟨bb,0,none⟩)) (.int .i64 (m:Int)) u) w:=by
 refine wp_loop (fun a w=>∃(l:List QD) (m:Nat),a=frP bt R F iv fp K k (.pointer (some ⟨bb,0,none⟩)) (.int .i64 (m:Int)) (Qqp a)∧In3 B bt bb F w0 w name l∧l.length+m≤3∧∀s∈l,Qsw F s) (fun a _=>(intOf (a.tmps.getD 10 undef)).toNat) ?_ ?_
 ·exact⟨l,m,rfl,h,hm,hg⟩
 ·rintro a' w' ⟨l',m',ha,h',hm',hg'⟩;rw[ha];generalize Qqp a'=u'
  cases m' with
 |zero=>exact QPx iv fp K k u' h' ZO hg' _
 |succ m'=>
   refine wp_mono (Qzx (R:=R) iv fp K k u' hF1 hF3 h' ZO) ?_;intro e a w hq
   cases e with
  |normal=>
    obtain⟨s,hgs,ha2,h2⟩:=hq;refine⟨⟨l'++[s],m',ha2,h2,by simp;omega,Quy hg' hgs⟩,?_⟩;rw[ha2];show(intOf (Value.int .i64 (m':Int))).toNat<(intOf (Value.int .i64 ((m' + 1:Nat):Int))).toNat;simp[intOf]
  |_=>exact hq.elim
theorem QCx {B bt bb R:Nat}{F:Int}{w0 w:World}{name:Str}{l:List QD}{m:Nat}{iv fp K k:Value}{a:Act}(hF1:1≤F)(hF3:F≤3)(h:In3 B bt bb F w0 w name l)(hm:l.length+m≤3)(hg:∀s∈l,Qsw F s)(ha:a=frP bt R F iv fp K k (.pointer (some ⟨bb,0,none⟩)) (.int .i64 (m:Int)) (Qqp a)){Q:Exit→Act→World→Prop}(hq:∀a w,End3 B bt bb R F w0 name iv fp K k a w→Q (.exit 4) a w):
  (Code.loop QJw).wp Tryz.prog Q a w:=by
 rw[ha];refine wp_mono (QMx iv fp K k _ hF1 hF3 h hm hg) ?_;intro e a w h
 cases e with
|exit i=>obtain⟨rfl,h⟩:=h;exact hq _ _ h
|_=>exact h.elim
end
section
open Go.RowKit
variable [Base]
theorem Qea.cell {w:World}{v:Value}{l:List Str}(h:Qea w v l):∃a c,v=.slice a l.length c∧l.length≤maxLen∧∀k s,l[k]? = some s→∃b off,a=some ⟨b,off,none⟩∧b<w.heap.size∧w.cell? ⟨b,off+k,none⟩=some (sv s):=by
 obtain⟨a,n,c,rfl,h1,h2,h3,h4,h5⟩:=Qg.form h;simp at h1;subst h1;refine⟨a,c,rfl,h2,fun k s hk=>?_⟩;obtain⟨hk2,rfl⟩:=List.getElem?_eq_some_iff.1 hk;obtain⟨b,off,rfl,hb,ht,hc⟩:=h5 ZO;refine⟨b,off,rfl,hb,?_⟩;rw[hc _ (by simpa using hk2)];simp[hk2]
theorem Qzd {α:Type}(l:List α)(k:Nat)(c:α)(h:l[k]? = some c)(p:α→Bool):(l.drop k).all p=(p c&&(l.drop (k+1)).all p):=by
 obtain⟨h1,rfl⟩:=List.getElem?_eq_some_iff.1 h;rw[List.drop_eq_getElem_cons h1,List.all_cons]
def QTj (b:Bool)(w:World)(e:Ending)(w':World):Prop:=e=.returned (.bool b)∧Below w.heap.size w w'
theorem QWw (l:List Str)(v:Value)(a b:Int)(w:World)(h:Qea w v l):
  Calls Tryz.prog 225 #[v,.int .i64 a,.int .i64 b] w (QTj (Qjl l a b) w):=by
 obtain⟨sa,c,rfl,hn,hc⟩:=h.cell;have HC:=Zh hc;obtain⟨n,hl⟩:=Ze l.length;rw[hl] at hn ⊢;have HL:=Zh hl;clear hc h hl;unfold maxLen at hn;go_enter Tryz.func225,Tryz.ntmps225;go_wp2;go_loopw [7] (fun x wr=>∃k:Nat,k≤n∧x=.int .i64 k∧Hid (Below w.heap.size w wr)∧Hid (l.all QV=(l.drop k).all QV)) (fun x _=>n-(intOf x).toNat)
 case atStart=>exact⟨0,Nat.zero_le _,rfl,Below.refl _ _,by unfold Hid;simp⟩
 case round=>
  obtain⟨k,hk,rfl,HB,hs⟩:=hrel;by_cases hlt:k<n
  ·obtain⟨t,ht⟩:∃t,l[k]? = some t:=⟨_,List.getElem?_eq_getElem (show k<l.length by have:=HL.o;omega)⟩;obtain⟨bb,off,rfl,hb,g⟩:=HC.o k t ht;have g2:=(HB.o.cell (p:=⟨bb,off+k,none⟩) hb).trans g;have st:=Zh (Qzd l k t ht QV);clear ht g hb;have hR:=Zh (fun w=>Qsk ⟨t.toArray⟩ w)
   cases e:QV t
   ·have E:=Zh e;clear e;go_wp2_with fail;refine(hR.o _).mono ?_;rintro e w2 ⟨rfl,hb2⟩;rw[show QV (ByteArray.mk t.toArray).data.toList=false from E.o];have HB2:=Zh (HB.o.trans (hb2.mono HB.o.size));clear hb2;go_wp2;go_ret;exact⟨Qgb (by unfold Qjl;rw[hs.o,st.o,E.o];rfl),HB2.o⟩
   ·have E:=Zh e;clear e;go_wp2_with fail;refine(hR.o _).mono ?_;rintro e w2 ⟨rfl,hb2⟩;rw[show QV (ByteArray.mk t.toArray).data.toList=true from E.o];have HB2:=Zh (HB.o.trans (hb2.mono HB.o.size));clear hb2;go_wp2;go_roundw
    case rel=>exact⟨k+1,by omega,by go_num,HB2,by unfold Hid;rw[hs.o,st.o,E.o];rfl⟩
    case measure=>simp[intOf];omega
  ·have hall:Hid (Qjl l a b=(decide (a≤(n:Int))&&decide ((n:Int)≤b))):=by
    unfold Hid Qjl;rw[hs.o,List.drop_of_length_le (by have:=HL.o;omega),HL.o];rfl
   cases e:decide (a≤(n:Int))
   all_goals
    have E:=Zh e;go_wp2;go_ret;exact⟨Qgb (by rw[hall.o,E.o];rfl),HB.o⟩
end
end Go.Proofs.YtijekimobahgpaaGreatDoor
