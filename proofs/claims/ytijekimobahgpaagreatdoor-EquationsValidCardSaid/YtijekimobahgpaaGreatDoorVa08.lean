/- A part of the proof. -/
import Derived.Test.YtijekimobahgpaaGreatDoorVa07
import Derived.Laws.EntriesVeiled
set_option linter.unusedVariables false
set_option linter.unusedSimpArgs false
set_option linter.unusedSectionVars false
set_option maxRecDepth 100000
set_option maxHeartbeats 16000000
namespace Go.Proofs.YtijekimobahgpaaGreatDoor
section
open Go.RowKit
variable [Base]
theorem QUp {w:World}{x k:Nat}{v:Value}(o:Obj)(h:w.cell? ⟨x,0,none⟩=some v)(hx:x<w.heap.size):((w.drewN k).alloc o).cell? ⟨x,0,none⟩=some v:=
 (((below_drewN (Below.refl w.heap.size w) k).alloc (Nat.le_refl _) o).cell (p:=⟨x,0,none⟩) hx).trans h
theorem QIn {B z nb eb:Nat}{w0 w:World}(kw:KwIn B w0)(hB:B≤w0.heap.size)(hz:w0.heap.size=z)(p:List Qo)(v:Value)(h:QAa w0 v p)(hv:QMa p=true)(hf:∀f∈p,∀b∈f.blocks,∀s∈b.stmts,FitS s)(b0:Below z w0 w)(hne:z≤nb∧z≤eb∧nb≠eb)(x y:Int)(h0:0≤x∧x≤100∧0≤y∧y≤100)(hn:w.heap[nb]? = some (.cells #[iv x] 3 (0,0)))(he:w.heap[eb]? = some (.cells #[iv y] 3 (0,0))):
  Calls Tryz.prog 104 #[.agg #[v],.func (.func 193) #[] #[.pointer (some ⟨nb,0,none⟩),.pointer (some ⟨eb,0,none⟩)]] w (fun e w'=>e=.returned (.tuple #[])∧(w'.heap[nb]? = some (.cells #[iv (x+QDb (QH p))] 3 (0,0))∧w'.heap[eb]? = some (.cells #[iv (y+QEb (QH p))] 3 (0,0)))∧Below z w0 w'):=by
 refine QVo nb eb kw hB hz p v h hv hf b0 (fun d x1=>x1.heap[nb]? = some (.cells #[iv (x+QDb d)] 3 (0,0))∧x1.heap[eb]? = some (.cells #[iv (y+QEb d)] 3 (0,0))) ?_ ?_ ?_
 ·rintro d x1 y1 ⟨h1,h2⟩ b;exact⟨(b.block _ (Qb h1)).trans h1,(b.block _ (Qb h2)).trans h2⟩
 ·rintro d s r u t x1 hsp ⟨h1,h2⟩ hb hu ⟨ta,tn,tc,rfl⟩;have h3:=QVi hv p.length;rw[List.take_length,hsp] at h3;have h4:=Qot d;simp at h3;have hcat:QDb (d++[s])=QDb d+QHd s∧QEb (d++[s])=QEb d+Qod s:=by
   have:=Qtm d [s]
   simpa only [QDb,QEb,sumI,List.map_cons,List.map_nil,List.foldl_cons,List.foldl_nil,Int.zero_add] using this
  obtain⟨ua,uc,rfl,-⟩:=hu.cell;refine(QJn z nb eb s _ _ x1 _ _ hne h1 h2 ZO).mono ?_;rintro e y1 ⟨rfl,h5⟩;refine⟨rfl,⟨?_,?_⟩,h5.below⟩
  ·rw[hcat.1,←Int.add_assoc];exact h5.nat
  ·rw[hcat.2,←Int.add_assoc];exact h5.eat
 ·simp[QDb,QEb,sumI];exact⟨hn,he⟩
theorem Qqq {B:Nat}{w:World}(kw:KwIn B w)(hB:B≤w.heap.size)(p:List Qo)(v:Value)(h:QAa w v p)(hf:∀f∈p,∀b∈f.blocks,∀s∈b.stmts,FitS s):
  Calls Tryz.prog 158 #[.agg #[v]] w (fun e w'=>e=.returned (.tuple #[iv (QMd p),iv (QNd p)])∧Below w.heap.size w w'):=by
 have B0:=(Below.refl w.heap.size w).alloc (Nat.le_refl _) (.cells #[v] 25);have HB0:=Zh B0;have HV:=Zh (QFe (kw.keep fun k hk=>B0.block k (Nat.lt_of_lt_of_le hk hB)) (Nat.le_trans hB B0.size) p v (h.keep (Qf.below B0) (Qf.below B0) (Qf.below B0) (Qf.below B0)) hf);have HSE:=Zh (fun (nb eb:Nat) (W:World) hv b0 hne x y h0 hn he=>QIn (w:=W) (nb:=nb) (eb:=eb) kw hB rfl p v h hv hf b0 hne x y h0 hn he);obtain⟨a,c,rfl,hn,hc⟩:=h.cell;obtain⟨n,hl⟩:=Ze p.length;rw[hl] at hn HV HB0 HSE ⊢;obtain⟨r,hr⟩:=Ze (QMa p);rw[hr] at HV HSE;clear h hc kw B0;go_enter Tryz.func158,Tryz.ntmps158;go_wp2_with fail;refine HV.o.mono ?_;rintro e w1 ⟨rfl,b⟩;have B1:=Zh (HB0.o.trans (b.mono HB0.o.size));have p0:=(b.cell (p:=⟨w.heap.size,0,none⟩) ZS).trans (World.cell?_alloc_new _ _ _ _);have hz:w.heap.size<w1.heap.size:=by have:=b.size;simp at this;omega
 replace p0:w1.cell? ⟨w.heap.size,0,none⟩=some (.slice a n c):=p0
 clear b
 cases r
 ·go_wp2;have e1:QMd p=0:=by unfold QMd;rw[hr];rfl
  have e2:QNd p=0:=by unfold QNd;rw[hr];rfl
  exact bodyPost_ret (v:=.tuple #[iv 0,iv 0]) (by simp[results,Tryz.results158,go_sem]) rfl ⟨by rw[e1,e2],B1.o⟩
 have h8:n≤8:=by unfold QMa at hr;simp only[Bool.and_eq_true,decide_eq_true_eq] at hr;omega
 have HNN:=Zh (show QMd p=2*(n:Int)+QDb (QH p) by unfold QMd QDb;rw[hr,hl];rfl);have HEE:=Zh (show QNd p=(n:Int)+QEb (QH p) by unfold QNd QEb;rw[hr,hl];rfl);clear hr hl;go_upto_region 3 with(fail)
 refine QK (S:=(fun w'=>w'.cell? ⟨w.heap.size,0,none⟩=some (.slice a n c))) (st:=10) ZK ?_;refine Zp 0 ?z0 p0 ?rz0 ?sz0
 case rz0=>intro w hS;go_simp;rfl
 case sz0=>
 refine Zp 1 ?z1 p0 ?rz1 ?sz1
 case rz1=>intro w hS;go_simp;rfl
 case sz1=>
 refine Zp 2 ?z2 p0 ?rz2 ?sz2
 case rz2=>intro w hS;go_simp;rfl
 case sz2=>
 refine Zp 3 ?z3 p0 ?rz3 ?sz3
 case rz3=>intro w hS;go_simp;rfl
 case sz3=>
 refine Zp 4 ?z4 p0 ?rz4 ?sz4
 case rz4=>intro w hS;go_simp;rfl
 case sz4=>
 refine Zp 5 ?z5 p0 ?rz5 ?sz5
 case rz5=>intro w hS;go_simp;rfl
 case sz5=>
 refine Zp 6 ?z6 p0 ?rz6 ?sz6
 case rz6=>intro w hS;go_simp;rfl
 case sz6=>
 refine Qh (rs:=[7,8]) ZK ZD ?_;intro i hi;have hi2:i=7∨i=8:=by simpa using hi
 clear hi;rcases hi2 with rfl|rfl
 ·refine Ql rfl ?_;go_wp2;refine⟨fun _=>QUp _ p0 hz,?_⟩;refine Zt 8 ?_;refine Ql rfl ?_;go_wp2;obtain⟨W2,hW2⟩:=Ze ((((w1.drewN 1).alloc (.cells #[iv 0] 3)).alloc (.cells #[iv 0] 3)));obtain⟨nb,hnb⟩:=Ze w1.heap.size;have HX1:=Zh (show W2.heap[nb]? = some (.cells #[iv 0] 3 (0,0)) by rw[←hW2,←hnb];exact Qfa _ (heap_alloc_new (w1.drewN 1) _));have HX2:=Zh (show W2.heap[nb+1]? = some (.cells #[iv 0] 3 (0,0)) by rw[←hW2,←hnb];have:=heap_alloc_new ((w1.drewN 1).alloc (.cells #[iv 0] 3)) (.cells #[iv 0] 3);simpa using this);have BZ:=Zh (show Below nb w1 W2 by rw[←hW2,←hnb];exact((below_drewN (Below.refl w1.heap.size w1) 1).alloc (Nat.le_refl _) _).alloc ZS _);have hnb':w.heap.size≤nb:=by omega
  rw[show(((w1.drewN 1).alloc (.cells #[.int .i64 0] 3)).alloc (.cells #[.int .i64 0] 3))=W2 from hW2];rw[hnb] at hz ⊢;have p2:=(BZ.o.cell (p:=⟨w.heap.size,0,none⟩) hz).trans p0;have p1:=p0;clear p0 hW2 hnb;refine⟨fun _=>p2,?_⟩;refine Zt 9 ?_;refine Ql rfl ?_;have n0:=(Qd HX1.o).1 0;have e0:=(Qd HX2.o).1 0;have fn:=(Qd HX1.o).2 0;have fe:=(Qd HX2.o).2 0;simp at n0 e0;go_wp2;have HN3:=Zh (Qej HX1.o (iv (2*(n:Int))));have HE3:=Zh ((Qud (b:=nb) (k:=nb+1) (w:=W2) ZO (iv (2*(n:Int)))).trans HX2.o);have B3:=Zh (BZ.o.setCell (p:=⟨nb,0,none⟩) (by show nb≤nb;omega) (iv (2*(n:Int))));obtain⟨W3,hW3⟩:=Ze (W2.setCell ⟨nb,0,none⟩ (iv (2*(n:Int))));rw[show W2.setCell ⟨nb,0,none⟩ (.int .i64 (2*(n:Int)))=W3 from hW3];rw[hW3] at HN3 HE3 B3;clear p2 n0 e0 fn fe hW3;have p2:=(B3.o.cell (p:=⟨w.heap.size,0,none⟩) hz).trans p1;refine⟨fun _=>p2,?_⟩;refine Zt 10 ?_;refine Ql rfl ?_;have n0:=(Qd HN3.o).1 0;have e0:=(Qd HE3.o).1 0;have fn:=(Qd HN3.o).2 0;have fe:=(Qd HE3.o).2 0;simp at n0 e0;go_wp2;refine⟨fun h=>absurd rfl h,?_⟩;refine Qu ZK ?_ _;have HE4:=Zh (Qej HE3.o (iv (n:Int)));have HN4:=Zh ((Qud (b:=nb+1) (k:=nb) (w:=W3) ZO (iv (n:Int))).trans HN3.o);have B4:=Zh (B3.o.setCell (p:=⟨nb+1,0,none⟩) (by show nb≤nb+1;omega) (iv (n:Int)));obtain⟨W4,hW4⟩:=Ze (W3.setCell ⟨nb+1,0,none⟩ (iv (n:Int)));rw[show W3.setCell ⟨nb+1,0,none⟩ (.int .i64 (n:Int))=W4 from hW4];rw[hW4] at HN4 HE4 B4;clear p2 n0 e0 fn fe hW4;have p4:=(B4.o.cell (p:=⟨w.heap.size,0,none⟩) hz).trans p1;have K:=Zh (HSE.o (nb) (nb+1) W4 trivial (B1.o.trans (B4.o.mono hnb')) ZO (2*(n:Int)) (n:Int) ZO HN4.o HE4.o);clear p1;go_wp2_with fail;refine K.o.mono ?_;rintro e w5 ⟨rfl,⟨hn5,he5⟩,b5⟩;have HB5:=Zh b5;have n0:=(Qd hn5).1 0;have e0:=(Qd he5).1 0;simp at n0 e0;clear b5 hn5 he5 p4 K;go_upto_region 5 with(fail)
  go_region;go_wp2;exact bodyPost_ret (v:=.tuple #[iv (2*(n:Int)+QDb (QH p)),iv ((n:Int)+QEb (QH p))]) (by simp[results,Tryz.results158,go_sem]) rfl ⟨by rw[HNN.o,HEE.o],Qp HB5.o 1⟩
 ·refine Ql rfl ?_;go_wp2;refine⟨fun _=>QUp _ p0 hz,?_⟩;refine Zt 7 ?_;refine Ql rfl ?_;go_wp2;obtain⟨W2,hW2⟩:=Ze ((((w1.drewN 1).alloc (.cells #[iv 0] 3)).alloc (.cells #[iv 0] 3)));obtain⟨nb,hnb⟩:=Ze w1.heap.size;have HX1:=Zh (show W2.heap[nb]? = some (.cells #[iv 0] 3 (0,0)) by rw[←hW2,←hnb];exact Qfa _ (heap_alloc_new (w1.drewN 1) _));have HX2:=Zh (show W2.heap[nb+1]? = some (.cells #[iv 0] 3 (0,0)) by rw[←hW2,←hnb];have:=heap_alloc_new ((w1.drewN 1).alloc (.cells #[iv 0] 3)) (.cells #[iv 0] 3);simpa using this);have BZ:=Zh (show Below nb w1 W2 by rw[←hW2,←hnb];exact((below_drewN (Below.refl w1.heap.size w1) 1).alloc (Nat.le_refl _) _).alloc ZS _);have hnb':w.heap.size≤nb:=by omega
  rw[show(((w1.drewN 1).alloc (.cells #[.int .i64 0] 3)).alloc (.cells #[.int .i64 0] 3))=W2 from hW2];rw[hnb] at hz ⊢;have p2:=(BZ.o.cell (p:=⟨w.heap.size,0,none⟩) hz).trans p0;have p1:=p0;clear p0 hW2 hnb;refine⟨fun _=>p2,?_⟩;refine Zt 9 ?_;refine Ql rfl ?_;have n0:=(Qd HX1.o).1 0;have e0:=(Qd HX2.o).1 0;have fn:=(Qd HX1.o).2 0;have fe:=(Qd HX2.o).2 0;simp at n0 e0;go_wp2;have HN3:=Zh (Qej HX2.o (iv (2*(n:Int))));have HE3:=Zh ((Qud (b:=nb+1) (k:=nb) (w:=W2) ZO (iv (2*(n:Int)))).trans HX1.o);have B3:=Zh (BZ.o.setCell (p:=⟨nb+1,0,none⟩) (by show nb≤nb+1;omega) (iv (2*(n:Int))));obtain⟨W3,hW3⟩:=Ze (W2.setCell ⟨nb+1,0,none⟩ (iv (2*(n:Int))));rw[show W2.setCell ⟨nb+1,0,none⟩ (.int .i64 (2*(n:Int)))=W3 from hW3];rw[hW3] at HN3 HE3 B3;clear p2 n0 e0 fn fe hW3;have p2:=(B3.o.cell (p:=⟨w.heap.size,0,none⟩) hz).trans p1;refine⟨fun _=>p2,?_⟩;refine Zt 10 ?_;refine Ql rfl ?_;have n0:=(Qd HN3.o).1 0;have e0:=(Qd HE3.o).1 0;have fn:=(Qd HN3.o).2 0;have fe:=(Qd HE3.o).2 0;simp at n0 e0;go_wp2;refine⟨fun h=>absurd rfl h,?_⟩;refine Qu ZK ?_ _;have HE4:=Zh (Qej HE3.o (iv (n:Int)));have HN4:=Zh ((Qud (b:=nb) (k:=nb+1) (w:=W3) ZO (iv (n:Int))).trans HN3.o);have B4:=Zh (B3.o.setCell (p:=⟨nb,0,none⟩) (by show nb≤nb;omega) (iv (n:Int)));obtain⟨W4,hW4⟩:=Ze (W3.setCell ⟨nb,0,none⟩ (iv (n:Int)));rw[show W3.setCell ⟨nb,0,none⟩ (.int .i64 (n:Int))=W4 from hW4];rw[hW4] at HN4 HE4 B4;clear p2 n0 e0 fn fe hW4;have p4:=(B4.o.cell (p:=⟨w.heap.size,0,none⟩) hz).trans p1;have K:=Zh (HSE.o (nb+1) (nb) W4 trivial (B1.o.trans (B4.o.mono hnb')) ZO (2*(n:Int)) (n:Int) ZO HN4.o HE4.o);clear p1;go_wp2_with fail;refine K.o.mono ?_;rintro e w5 ⟨rfl,⟨hn5,he5⟩,b5⟩;have HB5:=Zh b5;have n0:=(Qd hn5).1 0;have e0:=(Qd he5).1 0;simp at n0 e0;clear b5 hn5 he5 p4 K;go_upto_region 5 with(fail)
  go_region;go_wp2;exact bodyPost_ret (v:=.tuple #[iv (2*(n:Int)+QDb (QH p)),iv ((n:Int)+QEb (QH p))]) (by simp[results,Tryz.results158,go_sem]) rfl ⟨by rw[HNN.o,HEE.o],Qp HB5.o 1⟩
end
section
open Go.RowKit
variable [Base]
def QMg (kb ob nk:Nat)(w:World):Prop:=w.heap[nk]? = some (.cells #[.func (.func 103) #[] #[.pointer (some ⟨kb,0,none⟩),.pointer (some ⟨ob,0,none⟩)]] 164 (0,0))
structure Qcc (z kb ob nk:Nat)(l:List Str)(w:World):Prop where
 kz:z≤kb
 oz:z≤ob
 map:∃mb,z≤mb∧w.heap[kb]? = some (.cells #[.map (some mb)] 163 (0,0))∧Qnb w mb l.length l
 note:QMg kb ob nk w
 o:∃v,w.heap[ob]? = some (.cells #[v] 86 (0,0))∧w.ownsRow z TS 1 v l.length (l.map sv)
theorem Qcc.below {z kb ob nk:Nat}{l:List Str}{w w':World}(h:Qcc z kb ob nk l w)(b:Below w.heap.size w w'):Qcc z kb ob nk l w':=by
 obtain⟨h1,h2,⟨mb,h3,h4,h5⟩,hnk,⟨v,h6,h7⟩⟩:=h;exact⟨h1,h2,⟨mb,h3,(b.block _ (Qb h4)).trans h4,h5.below b⟩,(b.block _ (Qb hnk)).trans hnk,⟨v,(b.block _ (Qb h6)).trans h6,QZd h7 b⟩⟩
theorem Qdb {w:World}{base:Nat}{e:TypeId}{size:Nat}{v:Value}{n:Nat}{xs:List Value}(ho:w.ownsRow base e size v n xs){k:Nat}{o:Obj}(hk:w.heap[k]? = some o)(hne:∀c fr,o≠.cells c e fr):some k≠v.ownBlock:=by
 intro hb;have hb:=hb.symm;rcases ho.2 with⟨rfl,_⟩|⟨g,cap,cur,rfl,_,hh,_⟩
 ·simp[Value.ownBlock] at hb
 ·simp[Value.ownBlock] at hb;subst hb;rw[hh] at hk;injection hk with hk
  exact hne _ _ hk.symm
theorem Qcc.mapped {z kb ob mb nk:Nat}{l:List Str}{n:Str}{v:Value}{w w4:World}{th:List UInt8→Bool}(h4:w.heap[kb]? = some (.cells #[.map (some mb)] 163 (0,0)))(h6:w.heap[ob]? = some (.cells #[v] 86 (0,0)))(h7:w.ownsRow z TS 1 v l.length (l.map sv))(hm:∃es c,w.heap[mb]? = some (Obj.map es c))(h3:z≤mb)(hnk:QMg kb ob nk w)(hM:MapG strK Qbc w4 mb (l.length+1) (fun q=>if q=n then true else l.contains q) th)(hg:w.grownBy w4 (some mb)):
  w4.heap[kb]? = some (.cells #[.map (some mb)] 163 (0,0))∧w4.heap[ob]? = some (.cells #[v] 86 (0,0))∧w4.ownsRow z TS 1 v l.length (l.map sv)∧Qnb w4 mb (l++[n]).length (l++[n])∧Below z w w4∧QMg kb ob nk w4∧Qf 94 w w4:=by
 obtain⟨es,c0,hm⟩:=hm;have hk:∀{k:Nat} {c:Array Value} {t:TypeId} {fr:Nat×Nat},w.heap[k]? = some (.cells c t fr)→w4.heap[k]? = some (.cells c t fr):=fun {k c t fr} h=>(hg.block k (Qb h) (by intro e;injection e with e;subst e;rw[hm] at h;cases h)).trans h
 refine⟨hk h4,hk h6,?_,⟨th,?_⟩,Qyd hg (Qb hm) h3,hk hnk,fun b c fr U _ e=>hk e⟩
 ·obtain⟨e1,e2⟩:=h7;refine⟨e1,?_⟩;rcases e2 with e2|⟨g,cap,cur,e2,e3,e4,e5⟩
  ·exact .inl e2
  ·exact .inr ⟨g,cap,cur,e2,e3,hk e4,e5⟩
 ·rw[List.length_append];refine hM.congr (fun k=>?_) (fun _=>rfl);by_cases e:k=n <;> simp[e]
theorem Qcc.grown {z kb ob mb g cap nk:Nat}{l:List Str}{n:Str}{v:Value}{w w4 w5:World}(h1:z≤kb)(h2:z≤ob)(h3:z≤mb)(h4:w4.heap[kb]? = some (.cells #[.map (some mb)] 163 (0,0)))(h6:w4.heap[ob]? = some (.cells #[v] 86 (0,0)))(h7:w4.ownsRow z TS 1 v l.length (l.map sv))(h5:Qnb w4 mb (l++[n]).length (l++[n]))(hB:Below z w w4)(hzw:z≤w4.heap.size)(hnk:QMg kb ob nk w4)(hS:Qf 94 w w4)(hbz:Base.b≤z)(ho:w5.ownsRow z TS 1 (.slice (some ⟨g,0,none⟩) (l.length+1) cap) (l.length+1) (l.map sv++[sv n]))(hg:w4.grownBy w5 v.ownBlock):
  w5.heap[ob]? = some (.cells #[v] 86 (0,0))∧Qcc z kb ob nk (l++[n]) (w5.setCell ⟨ob,0,none⟩ (.slice (some ⟨g,0,none⟩) (l.length+1) cap))∧Below z w (w5.setCell ⟨ob,0,none⟩ (.slice (some ⟨g,0,none⟩) (l.length+1) cap))∧Qf 94 w (w5.setCell ⟨ob,0,none⟩ (.slice (some ⟨g,0,none⟩) (l.length+1) cap)):=by
 obtain⟨th,hM⟩:=h5;obtain⟨es,c0,hm⟩:=hM.isMap;have k6:=(hg.block ob (Qb h6) (Qdb h7 h6 (by intro c fr h;injection h with _ h;exact absurd h ZD))).trans h6;have k4:=(hg.block kb (Qb h4) (Qdb h7 h4 (by intro c fr h;injection h with _ h;exact absurd h ZD))).trans h4;have km:=hg.block mb (Qb hm) (Qdb h7 hm (by intro c fr h;cases h));have kn:=(hg.block nk (Qb hnk) (Qdb h7 hnk (by intro c fr h;injection h with _ h;exact absurd h ZD))).trans hnk;have hon:nk≠ob:=by
  intro e;subst e;unfold QMg at hnk;rw[hnk] at h6;injection h6 with h6
  injection h6 with _ h6
  exact absurd h6 ZD
 have hok:kb≠ob:=by
  intro e;subst e;rw[h4] at h6;injection h6 with h6
  injection h6 with _ h6
  exact absurd h6 ZD
 have hom:mb≠ob:=by
  intro e;subst e;rw[hm] at h6
  cases h6
 have hgo:g≠ob:=by
  rcases ho.2 with⟨e,_⟩|⟨g',cap',cur,e,_,hh,_⟩
  ·cases e
  ·injection e with e
   injection e with e
   injection e with e
   subst e;rintro rfl;rw[k6] at hh;injection hh with hh
   injection hh with _ hh
   exact absurd hh ZD
 refine⟨k6,⟨h1,h2,⟨mb,h3,(Qud hok.symm _).trans k4,⟨th,hM.block ((Qud hom.symm _).trans km)⟩⟩,(Qud hon.symm _).trans kn,⟨_,Qej k6 _,?_⟩⟩,?_,?_⟩
 ·rw[List.length_append,List.map_append];obtain⟨e1,e2⟩:=ho;refine⟨e1,?_⟩;rcases e2 with e2|⟨g',cap',cur,e2,e3,e4,e5⟩
  ·exact .inl e2
  ·injection e2 with e2 e6 e7
   injection e2 with e2
   injection e2 with e2
   subst e2;subst e7;exact .inr ⟨_,_,cur,rfl,e3,(Qud hgo.symm _).trans e4,e5⟩
 ·exact(hB.trans (Below.of_grown hg h7 hzw)).setCell (p:=⟨ob,0,none⟩) h2 _
 ·exact(hS.trans (Qf.grown hg h7 ZD hbz)).trans (Qf.setCell (U:=86) (Qv k6 (Nat.le_trans hbz h2)) ZD)
theorem Qhq (z kb ob nk:Nat)(hbz:Base.b≤z)(l:List Str)(n:Str)(w:World)(h:Qcc z kb ob nk l w)(hn:n.length≤1000)(hl:l.length≤1000000):
  Calls Tryz.prog 103 #[sv n,.pointer (some ⟨kb,0,none⟩),.pointer (some ⟨ob,0,none⟩)] w (fun e w'=>e=.returned (.tuple #[])∧Qcc z kb ob nk (Qfc l n) w'∧Below z w w'∧Qf 94 w w'):=by
 obtain⟨h1,h2,⟨mb,h3,h4,h5⟩,hnk,⟨v,h6,h7⟩⟩:=h;have HNK:=Zh hnk;clear hnk;obtain⟨a,c,rfl,hc1,hc2⟩:=QXa h7;have zw:z≤w.heap.size:=by have:=Qb h4;omega
 have hlk:=h5.look (x:=n) (by unfold maxLen;omega);have k0:=(Qd h4).1 0;have o0:=(Qd h6).1 0;have kf:=(Qd h4).2 0;have of':=(Qd h6).2 0;simp at k0 o0;have H4:=Zh h4;have H5:=Zh h5;have H6:=Zh h6;have H7:=Zh h7;obtain⟨q,hq⟩:=Ze (l.contains n);rw[hq] at hlk;clear h4 h5 h6 h7;by_cases hne:n=[]
 ·subst hne;have HF:=Zh (show Qcc z kb ob nk (Qfc l []) w by rw[show Qfc l []=l from rfl];exact⟨h1,h2,⟨mb,h3,H4.o,H5.o⟩,HNK.o,⟨_,H6.o,H7.o⟩⟩);go_enter Tryz.func103,Tryz.ntmps103;go_wp2;exact bodyPost_end (v:=.tuple #[]) (by simp[results,Tryz.results103,go_sem]) rfl ⟨rfl,HF.o,(Below.refl _ _).mono zw,Qf.refl⟩
 ·have hie:List.isEmpty n=false:=by cases n <;> simp_all
  have HN:=Zh (show Qfc l n=if q=true then l else l++[n] by unfold Qfc;rw[hie,hq];simp);clear hne hq
  cases q with
 |true=>
   have HF:=Zh (show Qcc z kb ob nk (Qfc l n) w by rw[HN.o];exact⟨h1,h2,⟨mb,h3,H4.o,H5.o⟩,HNK.o,⟨_,H6.o,H7.o⟩⟩);go_enter Tryz.func103,Tryz.ntmps103;go_wp2;exact bodyPost_end (v:=.tuple #[]) (by simp[results,Tryz.results103,go_sem]) rfl ⟨rfl,HF.o,(Below.refl _ _).mono zw,Qf.refl⟩
 |false=>
   go_enter Tryz.func103,Tryz.ntmps103;obtain⟨th,hth⟩:=H5.o;have HTH:=Zh hth;have HNL:=Zh (show n.length≤maxLen by unfold maxLen;omega);have hml:=hth.lt;have HMI:=Zh hth.isMap;clear hth;go_upto_region 2 with(at_mapUpdate;refine QHb (Ky:=strK) Qbc rfl _ _ _ _ rfl QCe rfl HTH.o (by unfold maxLen;omega) (k:=n) rfl HNL.o true rfl ?_;intro w4 hm hg;have HM4:=Zh hm;have HG4:=Zh hg;clear hm hg)
   obtain⟨M4,M6,M7,M5,MB,MN,MS⟩:=Qcc.mapped H4.o H6.o H7.o HMI.o h3 HNK.o HM4.o HG4.o;have zw4:z≤w4.heap.size:=by have:=Qb M4;omega
   have A5:=Zh (fun (g cap:Nat) (w5:World) ho hg=>Qcc.grown (w:=w) (w5:=w5) (g:=g) (cap:=cap) h1 h2 h3 M4 M6 M7 M5 MB zw4 MN MS hbz ho hg);have M7:=Zh M7;have o1:=(Qd M6).1 0;simp at o1;clear HM4 HG4 HTH hlk k0 o0 kf of' M4 M6 M5 MB MN MS H4 H5 H6 H7;go_wp2_with (at_builtin;refine QL [sv n] rfl _ _ _ rfl z TS _ 1 16 Tryz.underlying86 Qph rfl ZO _ _ _ M7.o rfl rfl rfl rfl (by unfold maxLen;omega) ZO zw4 ?_;intro g cap w5 ho hg _ _;have A6:=Zh (A5.o g cap w5 ho hg);have o5:=(Qd A6.o.1).1 0;have f5:=(Qd A6.o.1).2 0;simp at o5;clear ho hg o1);exact bodyPost_end (v:=.tuple #[]) (by simp[results,Tryz.results103,go_sem]) rfl ⟨rfl,by rw[HN.o];exact A6.o.2.1,A6.o.2.2.1,A6.o.2.2.2⟩
theorem Qaf {x:Str}(h:QV x=true):x.length≤1000:=by
 unfold QV at h;simp only[Bool.and_eq_true,decide_eq_true_eq] at h;omega
theorem Qnm (out:List Str)(n:Str):(Qfc out n).length≤out.length+1:=by
 unfold Qfc
 split <;> simp
theorem QPh:∀(l out:List Str),(l.foldl Qfc out).length≤out.length+l.length
|[],out=>by simp
|x::r,out=>by
  have h1:=QPh r (Qfc out x)
  have h2:=Qnm out x
  simp only[List.foldl_cons,List.length_cons]
  omega
theorem QOl {s:QD}(h:stmtB s=true):s.uses.length≤4∧(∀u∈s.uses,u.length≤1000):=by
 obtain⟨h1,h2⟩:=Qje h;exact⟨h2,fun u hu=>Qaf (h1 u hu)⟩
theorem Qlq {s:QD}(h:stmtB s=true):s.dfn.length≤1000:=by
 rw[QYi] at h;unfold QHh at h;simp only[Bool.and_eq_true,Bool.or_eq_true] at h;obtain⟨-,hd,-,-,-,hn⟩:=h
 cases e:dfnB s.op
 ·rw[e] at hd;have:s.dfn=[]:=by simpa using hd
  rw[this];simp
 ·rw[List.all_eq_true] at hn;exact Qaf (hn s.dfn (by unfold Qhh;rw[e];simp))
theorem Qgq {z kb ob nk:Nat}{w0 w:World}(hz:w0.heap.size=z)(b0:Below z w0 w)(hbz:Base.b≤z)(l:List Str)(s:QD)(u t:Value)(h:Qcc z kb ob nk l w)(hu:Qea w0 u s.uses)(ht:∃a n c,t=.slice a n c)(hd:s.dfn.length≤1000)(hus:∀x∈s.uses,x.length≤1000)(hn:s.uses.length≤4)(hl:l.length≤100000):
  Calls Tryz.prog 105 #[.agg #[iv s.op,sv s.dfn,u,t],.pointer (some ⟨nk,0,none⟩)] w (fun e w'=>e=.returned (.tuple #[])∧Qcc z kb ob nk (QYe l s) w'∧Below z w w'):=by
 obtain⟨op,d,us,ts⟩:=s;obtain⟨ta,tn,tc,rfl⟩:=ht;obtain⟨ua,uc,rfl,-,hc⟩:=hu.cell;obtain⟨un,hun⟩:=Ze us.length;simp only at hun hu hc hd hus hn ⊢;rw[hun] at hn ⊢;have zw:z≤w.heap.size:=by have:=b0.size;omega
 have HC:=Zh hc;have HU:=Zh hun;have A1:=(Below.refl w.heap.size w).alloc (Nat.le_refl _) (.cells #[iv op,sv d,.slice ua un uc,.slice ta tn tc] 94);have V0:=Zh (h.below A1);have hb0:=Zh (heap_alloc_new w (.cells #[iv op,sv d,.slice ua un uc,.slice ta tn tc] 94));obtain⟨W,hW⟩:=Ze (w.alloc (.cells #[iv op,sv d,.slice ua un uc,.slice ta tn tc] 94));have HW:=Zh hW;have B0:=Zh (hW▸A1);rw[hW] at V0 hb0;obtain⟨sb,hsb⟩:=Ze w.heap.size;have HSB:=Zh hsb;rw[hsb] at hb0 B0;have K:=Zh (fun (l:List Str) (n:Str) (x:World) (h:Qcc z kb ob nk l x) (hn:n.length≤1000) (hl:l.length≤1000000)=>Qhq z kb ob nk hbz l n x h hn hl);have HL1:=Zh hl;have HUS:=Zh hus;have HZ0:=Zh b0;clear hW hsb hu hc hun h A1 hl hus b0;go_enter Tryz.func105,Tryz.ntmps105;go_upto_region 1 with(fail)
 rw[show w.alloc (.cells #[iv op,sv d,.slice ua un uc,.slice ta tn tc] 94)=W from HW.o,HSB.o];obtain⟨s0,s1,s2,s3⟩:=Qt hb0.o;have n0:=(Qd V0.o.note).1 0;simp at n0;go_wp2_with fail;refine(K.o l d W V0.o hd (Nat.le_trans HL1.o ZO)).mono ?_;rintro e w1 ⟨rfl,V1,b1,t1⟩;have B1:=Zh ((B0.o.mono (show z≤sb by have:=HSB.o;omega)).trans b1);have hb1:=Zh (t1.own hb0.o);have HV1:=Zh V1;have zw1:z≤w1.heap.size:=by have:=B1.o.size;omega
 clear V1 b1 t1 s0 s1 s2 s3 n0 B0 V0;obtain⟨s0,s1,s2,s3⟩:=Qt hb1.o;go_wp2;clear s0 s1 s2 s3;go_loopw [12] (fun x wr=>∃k:Nat,k≤un∧x=.int .i64 k∧Hid (Below z w wr)∧Hid (Qcc z kb ob nk ((us.take k).foldl Qfc (Qfc l d)) wr)) (fun x _=>un-(intOf x).toNat)
 case atStart=>exact⟨0,Nat.zero_le _,rfl,B1,HV1⟩
 case round=>
  obtain⟨k,hk,rfl,HB,HV⟩:=hrel;by_cases hlt:k<un
  ·obtain⟨x,hx⟩:∃x,us[k]? = some x:=⟨_,List.getElem?_eq_getElem (show k<us.length by rw[HU.o];exact hlt)⟩;obtain⟨b1,o1,rfl,hb1,g1⟩:=HC.o k x hx;have g1:=((HZ0.o.trans HB.o).cell (p:=⟨b1,o1+k,none⟩) (by show b1<z;omega)).trans g1;have n0:=(Qd HV.o.note).1 0;simp at n0;have KK:=Zh (K.o _ x wr HV.o (HUS.o x (List.mem_of_getElem? hx)) (by have h1:=QPh (us.take k) (Qfc l d);have h2:=Qnm l d;have h3:=HL1.o;rw[List.length_take] at h1;omega));have HE:=Zh (show Qfc ((us.take k).foldl Qfc (Qfc l d)) x=(us.take (k+1)).foldl Qfc (Qfc l d) by rw[List.take_add_one,hx,List.foldl_append];rfl);clear hx;go_wp2_with fail;refine KK.o.mono ?_;rintro e w2 ⟨rfl,V2,b2,-⟩;have HB2:=Zh (HB.o.trans b2);have HV2:=Zh (HE.o▸V2);clear V2 b2 n0 g1 HB HV KK;go_wp2;go_roundw
   case rel=>exact⟨k+1,by omega,by go_num,HB2,HV2⟩
   case measure=>simp[intOf];omega
  ·have HF:=Zh (show Qcc z kb ob nk (QYe l ⟨op,d,us,ts⟩) wr by unfold QYe;rw[List.foldl_cons,←show us.take k=us from List.take_of_length_le (by rw[HU.o];omega)];exact HV.o);go_wp2;exact bodyPost_end (v:=.tuple #[]) (by simp[results,Tryz.results105,go_sem]) rfl ⟨rfl,HF.o,HB.o⟩
end
section
open Go.RowKit
variable [Base]
theorem Qmr {B z:Nat}(nb:Nat){w0 w:World}(kw:KwIn B w0)(hB:B≤w0.heap.size)(hz:w0.heap.size=z)(p:List Qo)(v:Value)(h:QAa w0 v p)(hv:QMa p=true)(hf:∀f∈p,∀b∈f.blocks,∀s∈b.stmts,FitS s)(b0:Below z w0 w)(St:List QD→World→Prop)(HA:∀d x y,St d x→Below x.heap.size x y→St d y)(HS:∀(d:List QD) (s:QD) (r:List QD) (u t:Value) (x:World),QH p=d++s::r→St d x→Below z w0 x→Qea w0 u s.uses→(∃a n c,t=.slice a n c) →
   Calls Tryz.prog 105 #[.agg #[iv s.op,sv s.dfn,u,t],.pointer (some ⟨nb,0,none⟩)] x (fun e y=>e=.returned (.tuple #[])∧St (d++[s]) y∧Below z x y))(s0:St [] w):
  Calls Tryz.prog 104 #[.agg #[v],.func (.func 105) #[] #[.pointer (some ⟨nb,0,none⟩)]] w (fun e y=>e=.returned (.tuple #[])∧St (QH p) y∧Below z w0 y):=by
 have zw:z≤w.heap.size:=by have:=b0.size;omega
 have C0:=(Below.refl w.heap.size w).alloc (Nat.le_refl _) (.cells #[v] 25);have B0:=b0.trans (C0.mono zw);have HV:=Zh (QFe (w:=w.alloc (.cells #[v] 25)) (kw.keep fun k hk=>B0.block k ZO) (by simp;omega) p v (h.keep (Qf.below (hz▸B0)) (Qf.below (hz▸B0)) (Qf.below (hz▸B0)) (Qf.below (hz▸B0))) hf);rw[hv] at HV;have S0:=Zh (HA _ _ _ s0 C0);have HHA:=Zh HA;have HHS:=Zh HS;obtain⟨a,c,rfl,hn,hc⟩:=h.cell;obtain⟨n,hl⟩:=Ze p.length;rw[hl] at hn HV S0 ⊢;have n8:n≤8:=by have:=(QUc hv).1;omega
 have HL:=Zh hl;have HC:=Zh hc;have HF:=Zh hf;have HW:=Zh (QUc hv);rw[hl] at B0;have HB0:=Zh B0;have hbs:Base.b≤z:=by have:=kw.bs;omega
 clear h hc kw B0 hl hf b0 hv C0 s0 HA HS hn;go_enter Tryz.func104,Tryz.ntmps104;go_wp2_with fail;refine HV.o.mono ?_;rintro e w1 ⟨rfl,b⟩;have p0:w1.heap[w.heap.size]? = some (.cells #[.slice a n c] 25 (0,0)):=(b.block w.heap.size ZS).trans (heap_alloc_new _ _);have S1:=Zh (HHA.o _ _ _ S0.o b);have hsz:=b.size;simp at hsz;have B1:=Zh (HB0.o.trans (b.mono (by simp;omega)));obtain⟨bp,hbp⟩:=Ze w.heap.size;rw[hbp] at p0 hsz zw;rw[hbp];have HP:=Zh p0;have q0:=(Qd p0).1 0;simp at q0;clear b p0 hbp HB0 S0 HV;go_wp2;clear q0;go_loopw [16] (fun x wr=>∃i:Nat,i≤n∧x=.int .i64 i∧Hid (Below z w0 wr)∧z≤wr.heap.size∧Hid (St (QH (p.take i)) wr)) (fun x _=>n-(intOf x).toNat)
 case atStart=>exact⟨0,Nat.zero_le _,rfl,B1,by omega,S1⟩
 case round=>
  obtain⟨i,hi,rfl,HB,hzr,HSt⟩:=hrel;by_cases hlt:i<n
  ·obtain⟨f,hf2⟩:∃f,p[i]? = some f:=⟨_,List.getElem?_eq_getElem (show i<p.length by have:=HL.o;omega)⟩;obtain⟨fb,off,bv,rfl,hfb,g0,g1,hbl⟩:=HC.o i f hf2;have g0:=(HB.o.cell (p:=⟨fb,off+i*2,none⟩) (by show fb<z;omega)).trans g0;have g1:=(HB.o.cell (p:=⟨fb,off+i*2+1,none⟩) (by show fb<z;omega)).trans g1;obtain⟨ba,bc,rfl,hbn,hbc⟩:=hbl.cell;have HBC:=Zh hbc;obtain⟨bn,hbl2⟩:=Ze f.blocks.length;rw[hbl2] at hbn g1;have b16:bn≤16:=by have:=(HW.o.2 f (List.mem_of_getElem? hf2)).1;omega
   have HBL:=Zh hbl2;have HFI:=Zh hf2;clear hf2 hbl hbc hbl2 hbn;have A1:=(Below.refl wr.heap.size wr).alloc (Nat.le_refl _) (.cells #[sv f.name,.slice ba bn bc] 89);have HB2:=Zh (HB.o.trans (A1.mono hzr));have HS2:=Zh (show St (QH (p.take i)++Qga (f.blocks.take 0)) (wr.alloc (.cells #[sv f.name,.slice ba bn bc] 89)) by rw[show QH (p.take i)++Qga (f.blocks.take 0)=QH (p.take i) by simp[Qga]];exact HHA.o _ _ _ HSt.o A1);clear A1 HB HSt;go_wp2;clear g0 g1;go_loopw [23] (fun x wi=>∃k:Nat,k≤bn∧x=.int .i64 k∧Hid (Below z w0 wi)∧z≤wi.heap.size∧Hid (St (QH (p.take i)++Qga (f.blocks.take k)) wi)) (fun x _=>bn-(intOf x).toNat)
   case atStart=>exact⟨0,Nat.zero_le _,rfl,HB2,by simp;omega,HS2⟩
   case round=>
    obtain⟨k,hk,rfl,HB,hzi,HSt⟩:=hrel;by_cases hlt2:k<bn
    ·obtain⟨b,hb⟩:∃b,f.blocks[k]? = some b:=⟨_,List.getElem?_eq_getElem (show k<f.blocks.length by have:=HBL.o;omega)⟩;obtain⟨kb,koff,sv1,rfl,hkb,g0,g1,hsl⟩:=HBC.o k b hb;have g0:=(HB.o.cell (p:=⟨kb,koff+k*2,none⟩) (by show kb<z;omega)).trans g0;have g1:=(HB.o.cell (p:=⟨kb,koff+k*2+1,none⟩) (by show kb<z;omega)).trans g1;obtain⟨sa,sc,rfl,hsn,hsc⟩:=hsl.cell;have HSC:=Zh hsc;obtain⟨sn,hsl2⟩:=Ze b.stmts.length;rw[hsl2] at hsn g1;have s32:sn≤32:=by have:=(HW.o.2 f (List.mem_of_getElem? HFI.o)).2 b (List.mem_of_getElem? hb);omega
     have HSL:=Zh hsl2;have HBI:=Zh hb;clear hb hsl hsc hsl2 hsn;have A1:=(Below.refl wr.heap.size wr).alloc (Nat.le_refl _) (.cells #[sv b.name,.slice sa sn sc] 92);have HB3:=Zh (HB.o.trans (A1.mono hzi));have HS3:=Zh (show St (QH (p.take i)++Qga (f.blocks.take k)++b.stmts.take 0) (wr.alloc (.cells #[sv b.name,.slice sa sn sc] 92)) by rw[List.take_zero,List.append_nil];exact HHA.o _ _ _ HSt.o A1);clear A1 HB HSt;go_wp2;clear g0 g1;go_loopw [30] (fun x wi=>∃j:Nat,j≤sn∧x=.int .i64 j∧Hid (Below z w0 wi)∧z≤wi.heap.size∧Hid (St (QH (p.take i)++Qga (f.blocks.take k)++b.stmts.take j) wi)) (fun x _=>sn-(intOf x).toNat)
     case atStart=>exact⟨0,Nat.zero_le _,rfl,HB3,by simp;omega,HS3⟩
     case round=>
      obtain⟨j,hj,rfl,HB,hzj,HSt⟩:=hrel;by_cases hlt3:j<sn
      ·obtain⟨s,hs⟩:∃s,b.stmts[j]? = some s:=⟨_,List.getElem?_eq_getElem (show j<b.stmts.length by have:=HSL.o;omega)⟩;obtain⟨b4,o4,u,t,rfl,hb4,c0,c1,c2,c3,hu,ht⟩:=HSC.o j s hs;obtain⟨ua,uc,rfl,-⟩:=hu.cell;obtain⟨ta,tc,rfl,-⟩:=ht.cell;obtain⟨un,hun⟩:=Ze s.uses.length;obtain⟨tn,htn⟩:=Ze s.targets.length;rw[hun] at hu c2;rw[htn] at ht c3;obtain⟨r,hsp⟩:=QVg HFI.o HBI.o hs;have c0:=(HB.o.cell (p:=⟨b4,o4+j*4,none⟩) (by show b4<z;omega)).trans c0;have c1:=(HB.o.cell (p:=⟨b4,o4+j*4+1,none⟩) (by show b4<z;omega)).trans c1;have c2:=(HB.o.cell (p:=⟨b4,o4+j*4+2,none⟩) (by show b4<z;omega)).trans c2;have c3:=(HB.o.cell (p:=⟨b4,o4+j*4+3,none⟩) (by show b4<z;omega)).trans c3;have A1:=(Below.refl wr.heap.size wr).alloc (Nat.le_refl _) (.cells #[iv s.op,sv s.dfn,.slice ua un uc,.slice ta tn tc] 94);have HB4:=Zh (HB.o.trans (A1.mono hzj));have K:=Zh (HHS.o _ s r (.slice ua un uc) (.slice ta tn tc) (wr.alloc (.cells #[iv s.op,sv s.dfn,.slice ua un uc,.slice ta tn tc] 94)) hsp (HHA.o _ _ _ HSt.o A1) HB4.o hu ⟨_,_,_,rfl⟩);have HE:=Zh (show QH (p.take i)++Qga (f.blocks.take k)++b.stmts.take j++[s]=QH (p.take i)++Qga (f.blocks.take k)++b.stmts.take (j+1) by rw[List.take_add_one,hs];simp);have zw2:z≤(wr.alloc (.cells #[iv s.op,sv s.dfn,.slice ua un uc,.slice ta tn tc] 94)).heap.size:=by simp;omega
       clear A1 HB HSt hu ht hun htn hsp hs;go_wp2_with fail;refine K.o.mono ?_;rintro e w2 ⟨rfl,S2,b2⟩;have HB5:=Zh (HB4.o.trans b2);have HSt:=Zh (HE.o▸S2);have hz2:z≤w2.heap.size:=Nat.le_trans zw2 b2.size;clear S2 b2 K zw2;go_wp2;go_roundw
       case rel=>exact⟨j+1,by omega,by go_num,HB5,hz2,HSt⟩
       case measure=>simp[intOf];omega
      ·have HSt:=Zh (show St (QH (p.take i)++Qga (f.blocks.take (k+1))) wr by rw[QWg HBI.o,←List.append_assoc,←show b.stmts.take j=b.stmts from List.take_of_length_le (by rw[HSL.o];omega)];exact HSt.o);go_wp2;go_roundw
       case rel=>exact⟨k+1,by omega,by go_num,HB,hzj,HSt⟩
       case measure=>simp[intOf];omega
    ·have HSt:=Zh (show St (QH (p.take (i+1))) wr by rw[Qni HFI.o,show Qzf f=Qga (f.blocks.take k) by rw[List.take_of_length_le (by rw[HBL.o];omega)];rfl];exact HSt.o);go_wp2;go_roundw
     case rel=>exact⟨i+1,by omega,by go_num,HB,hzi,HSt⟩
     case measure=>simp[intOf];omega
  ·have HSt:=Zh (show St (QH p) wr by rw[←show p.take i=p from List.take_of_length_le (by rw[HL.o];omega)];exact HSt.o);go_wp2;exact bodyPost_end (v:=.tuple #[]) (by simp[results,Tryz.results104,go_sem]) rfl ⟨rfl,HSt.o,HB.o⟩
end
section
open Go.RowKit
variable [Base]
def VarsQ (l:List Str)(w:World)(e:Ending)(w':World):Prop:=∃v,e=.returned v∧w'.ownsRow w.heap.size TS 1 v l.length (l.map sv)∧Below w.heap.size w w'
theorem Qji {p:List Qo}(hv:QMa p=true):∀s∈QH p,stmtB s=true:=by
 intro s hs;unfold QH at hs;obtain⟨l,hl1,hs⟩:=List.mem_flatten.1 hs;obtain⟨f,hf1,rfl⟩:=List.mem_map.1 hl1;obtain⟨l,hl2,hs⟩:=List.mem_flatten.1 hs;obtain⟨b,hb1,rfl⟩:=List.mem_map.1 hl2;unfold QMa at hv;simp only[Bool.and_eq_true,decide_eq_true_eq,List.all_eq_true] at hv;have h:=hv.2.2 f hf1;unfold QNc at h;simp only[Bool.and_eq_true,decide_eq_true_eq,List.all_eq_true] at h;have h2:=h.2.2.2 b hb1;unfold Qoc at h2;simp only[Bool.and_eq_true,decide_eq_true_eq,List.all_eq_true] at h2;exact h2.2.2.2 s hs
theorem Qpj:∀(d:List QD) (out:List Str),(∀s∈d,s.uses.length≤4)→(d.foldl QYe out).length≤out.length+5*d.length
|[],out,_=>by simp
|s::r,out,h=>by
  have h1:=Qpj r (QYe out s) (fun q hq=>h q (List.mem_cons_of_mem _ hq))
  have h2:(QYe out s).length≤out.length+(s.dfn::s.uses).length:=QPh _ _
  have h3:=h s List.mem_cons_self
  simp only[List.foldl_cons,List.length_cons] at *
  omega
theorem QPi {B:Nat}{w:World}(kw:KwIn B w)(hB:B≤w.heap.size)(p:List Qo)(v:Value)(h:QAa w v p)(hf:∀f∈p,∀b∈f.blocks,∀s∈b.stmts,FitS s)(hv:QMa p=true):
  Calls Tryz.prog 45 #[.agg #[v]] w (VarsQ (QN p) w):=by
 obtain⟨a,c,rfl,hn,-⟩:=h.cell;obtain⟨n,hl⟩:=Ze p.length;obtain⟨z,hz⟩:=Ze w.heap.size;obtain⟨w1,h1⟩:=Ze (w.alloc (.cells #[.slice a n c] 25));obtain⟨w2,h2⟩:=Ze (w1.alloc (.map #[] 0));obtain⟨w3,h3⟩:=Ze (w2.alloc (.cells #[.map (some (z+1))] 163));obtain⟨w4,h4⟩:=Ze (w3.alloc (.cells #[.slice none 0 0] 86));obtain⟨w5,h5⟩:=Ze (w4.alloc (.cells #[.func (.func 103) #[] #[.pointer (some ⟨z+1+1,0,none⟩),.pointer (some ⟨z+1+1+1,0,none⟩)]] 164));have s1:w1.heap.size=z+1:=by rw[←h1,←hz];simp
 have s2:w2.heap.size=z+1+1:=by rw[←h2,←s1];simp
 have s3:w3.heap.size=z+1+1+1:=by rw[←h3,←s2];simp
 have s4:w4.heap.size=z+1+1+1+1:=by rw[←h4,←s3];simp
 have s5:w5.heap.size=z+1+1+1+1+1:=by rw[←h5,←s4];simp
 have B1:Below z w w1:=by rw[←h1,←hz];exact Zb
 have B2:Below (z+1) w1 w2:=by rw[←h2,←s1];exact Zb
 have B3:Below (z+1+1) w2 w3:=by rw[←h3,←s2];exact Zb
 have B4:Below (z+1+1+1) w3 w4:=by rw[←h4,←s3];exact Zb
 have B5:Below (z+1+1+1+1) w4 w5:=by rw[←h5,←s4];exact Zb
 have p1:w1.heap[z]? = some (.cells #[.slice a n c] 25 (0,0)):=by rw[←h1,←hz];exact heap_alloc_new _ _
 have p5:w5.heap[z]? = some (.cells #[.slice a n c] 25 (0,0)):=(B5.block z ZO).trans ((B4.block z ZO).trans ((B3.block z ZO).trans ((B2.block z ZO).trans p1)));have m2:Qnb w2 (z+1) 0 []:=by rw[←h2,←s1];exact⟨_,(MapG.made strK Qbc w1).congr (fun x=>by simp[Qbc]) (fun _=>rfl)⟩
 have k3:w3.heap[z+1+1]? = some (.cells #[.map (some (z+1))] 163 (0,0)):=by rw[←h3,←s2];exact heap_alloc_new _ _
 have o4:w4.heap[z+1+1+1]? = some (.cells #[.slice none 0 0] 86 (0,0)):=by rw[←h4,←s3];exact heap_alloc_new _ _
 have f5:QMg (z+1+1) (z+1+1+1) (z+1+1+1+1) w5:=by unfold QMg;rw[←h5,←s4];exact heap_alloc_new _ _
 have V5:Qcc z (z+1+1) (z+1+1+1) (z+1+1+1+1) [] w5:=⟨by omega,by omega,⟨z+1,by omega,(B5.block _ ZO).trans ((B4.block _ ZO).trans k3),((m2.below (s2▸B3)).below (s3▸B4)).below (s4▸B5)⟩,f5,⟨_,(B5.block _ ZO).trans o4,by simp[World.ownsRow]⟩⟩;have B05:Below z w w5:=B1.trans ((B2.mono ZO).trans ((B3.mono ZO).trans ((B4.mono ZO).trans (B5.mono ZO))));have hbz:Base.b≤z:=by have:=kw.bs;omega
 have hst:=Qji hv;have K:=Zh (Qmr (w:=w5) (z+1+1+1+1) kw hB hz p _ h hv hf B05 (fun d x=>Qcc z (z+1+1) (z+1+1+1) (z+1+1+1+1) (d.foldl QYe []) x) (fun d x y hx hb=>hx.below hb) (fun d s r u t x hsp hx hb hu ht=>by
   have hm:=hst s (by rw[hsp];simp);have hl:=QOl hm;refine(Qgq hz hb hbz _ s u t hx hu ht (Qlq hm) hl.2 hl.1 ?_).mono ?_
   ·have h1:=Qpj d [] (fun q hq=>(QOl (hst q (by rw[hsp];simp[hq]))).1);have h2:=QVi hv p.length;rw[List.take_length,hsp] at h2;simp at h1 h2;omega
   ·rintro e y ⟨rfl,h1,h2⟩;exact⟨rfl,by rw[List.foldl_append];exact h1,h2⟩) V5)
 have HS:=Zh hz;have H1:=Zh h1;have H2:=Zh h2;have H3:=Zh h3;have H4:=Zh h4;have H5:=Zh h5;rw[hl] at K ⊢;have p0:=(Qd p5).1 0;simp at p0;have hvp:=Zh (show QN p=(QH p).foldl QYe [] by unfold QN;rw[hv];rfl);clear h kw hf hl hv B1 B2 B3 B4 B5 m2 k3 o4 f5 V5 B05 hst p1 p5 s1 s2 s3 s4 s5 h1 h2 h3 h4 h5;have hmm:=@run_makeMap Tryz.prog;go_enter Tryz.func45,Tryz.ntmps45;go_upto_region 4 with(fail)
 try rw[hz]
 rw[show(((((w.alloc (.cells #[.slice a n c] 25)).alloc (.map #[] 0)).alloc (.cells #[.map (some (z+1))] 163)).alloc (.cells #[.slice none 0 0] 86)).alloc (.cells #[.func (.func 103) #[] #[.pointer (some ⟨z+1+1,0,none⟩),.pointer (some ⟨z+1+1+1,0,none⟩)]] 164))=w5 by rw[H1.o,H2.o,H3.o,H4.o,H5.o]];clear hz hmm;go_wp2_with fail;refine K.o.mono ?_;rintro e w6 ⟨rfl,V6,b6⟩;obtain⟨v6,o6,r6⟩:=V6.o;obtain⟨a6,c6,rfl,-,-⟩:=QXa r6;have R6:=Zh r6;have q0:=(Qd o6).1 0;have qf:=(Qd o6).2 0;simp at q0;have B6:=Zh b6;clear V6 b6 r6 o6 p0;go_wp2;rw[show((QH p).foldl QYe [])=QN p from hvp.o.symm];refine bodyPost_ret (v:=.slice a6 (QN p).length c6) (by simp[results,Tryz.results45,go_sem]) rfl ⟨_,rfl,?_,?_⟩
 ·rw[HS.o,hvp.o];exact R6.o
 ·rw[HS.o];exact B6.o
end
end Go.Proofs.YtijekimobahgpaaGreatDoor
