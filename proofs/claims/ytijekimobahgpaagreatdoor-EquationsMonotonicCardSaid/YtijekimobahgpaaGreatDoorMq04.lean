/- A part of the proof. -/
import Derived.Test.YtijekimobahgpaaGreatDoorMq03
set_option linter.unusedVariables false
set_option linter.unusedSimpArgs false
set_option linter.unusedSectionVars false
set_option maxRecDepth 100000
set_option maxHeartbeats 16000000
namespace Go.Proofs.YtijekimobahgpaaGreatDoor
section
open Go.RowKit
variable [Base]
theorem Qwb {w:World} {b:Nat} {a0 a1:Value} {t:TypeId} {fr:Nat×Nat} (h:w.heap[b]? = some (.cells #[a0,a1] t fr)) (x:Value):(w.setCell ⟨b,0,none⟩ x).heap[b]? = some (.cells #[x,a1] t fr):=by
 simp [World.setCell,Array.getElem?_modify,h]
theorem Qvb {w:World} {b:Nat} {a0 a1:Value} {t:TypeId} {fr:Nat×Nat} (h:w.heap[b]? = some (.cells #[a0,a1] t fr)) (x:Value):(w.setCell ⟨b,1,none⟩ x).heap[b]? = some (.cells #[a0,x] t fr):=by
 simp [World.setCell,Array.getElem?_modify,h]
theorem set5 {w:World} {b:Nat} {a0 a1 a2 a3 a4:Value} {t:TypeId} {fr:Nat×Nat} (h:w.heap[b]? = some (.cells #[a0,a1,a2,a3,a4] t fr)) (x0 x1 x2 x3 x4:Value):
  (((((w.setCell ⟨b,0,none⟩ x0).setCell ⟨b,1,none⟩ x1).setCell ⟨b,2,none⟩ x2).setCell ⟨b,3,none⟩ x3).setCell ⟨b,4,none⟩ x4).heap[b]? = some (.cells #[x0,x1,x2,x3,x4] t fr):=by
 simp [World.setCell,Array.getElem?_modify,h]
theorem Qdj {w:World} {b p:Nat} {o:Obj} (h:w.heap[p]? = some o) (hne:p≠b) (x0 x1 x2 x3 x4:Value):
  (((((w.setCell ⟨b,0,none⟩ x0).setCell ⟨b,1,none⟩ x1).setCell ⟨b,2,none⟩ x2).setCell ⟨b,3,none⟩ x3).setCell ⟨b,4,none⟩ x4).heap[p]? = some o:=by
 rw [Below.heap_setCell _ _ _ _ hne,Below.heap_setCell _ _ _ _ hne,Below.heap_setCell _ _ _ _ hne,Below.heap_setCell _ _ _ _ hne,Below.heap_setCell _ _ _ _ hne];exact h
theorem Quc {T U:TypeId} {w:World} {b:Nat} (h:tyAt w b=some U) (hne:T≠U) (x0 x1 x2 x3 x4:Value):Qf T w (((((w.setCell ⟨b,0,none⟩ x0).setCell ⟨b,1,none⟩ x1).setCell ⟨b,2,none⟩ x2).setCell ⟨b,3,none⟩ x3).setCell ⟨b,4,none⟩ x4):=by
 have s:∀(w:World) (o:Nat) (x:Value),tyAt w b=some U→Qf T w (w.setCell ⟨b,o,none⟩ x)∧tyAt (w.setCell ⟨b,o,none⟩ x) b=some U:=fun w o x h=>⟨Qf.setCell h hne,by rw [QS];exact h⟩
 have s0:=s w 0 x0 h;have s1:=s _ 1 x1 s0.2;have s2:=s _ 2 x2 s1.2;have s3:=s _ 3 x3 s2.2;have s4:=s _ 4 x4 s3.2;exact s0.1.trans (s1.1.trans (s2.1.trans (s3.1.trans s4.1)))
def SetV (s:QSet) (w:World) (e:Ending) (w':World):Prop:=∃u,e=.returned (setV s u)∧Qi w' u s.words∧Below w.heap.size w w'
theorem Qog (s:QSet) (u:Value) (w:World) (h:Qi w u s.words) (hn:s.words.length≤1000000) (hbs:Base.b≤w.heap.size):Calls Tryz.prog 106 #[setV s u] w (SetV s w):=by
 have K:=Zh (fun (x:World) (b:Below w.heap.size w x)=>QXh u s.words.length (s.words.map uv) x (h.below b).1 (by rw [List.length_map];omega) (QDh s.words) hn);have HOK:=Zh h.2;obtain⟨ua0,uc0,rfl,-⟩:=h.cell;obtain⟨m,l⟩:=s;simp only at K HOK;simp only [setV];obtain⟨ln,hl⟩:=Ze l.length;simp only [hl] at K ⊢;have HL:=Zh hl;obtain⟨q,hq⟩:=Ze w.heap.size;obtain⟨W,hW⟩:=Ze ((w.alloc (.cells #[iv m,.slice ua0 ln uc0] 52)).alloc (.cells #[iv 0,.slice none 0 0] 52));have hsz:W.heap.size=q+2:=by rw [←hW,←hq];simp
 have BW:=Zh (show Below w.heap.size w W by rw [←hW];exact(Zb).alloc (by simp) _);have HX:=Zh (show W.heap[q]? = some (.cells #[iv m,.slice ua0 ln uc0] 52 (0,0)) by rw [←hW,←hq,Below.heap_alloc _ _ _ (by simp)];exact heap_alloc_new _ _);have HRW:=Zh (show W.heap[q+1]? = some (.cells #[iv 0,.slice none 0 0] 52 (0,0)) by rw [←hW,←hq];exact Qda _ _);have HWW:=Zh hW;have HQ:=Zh hq;have HSS:=Zh (show ∀w',Below W.heap.size W w'→(w'.cell? ⟨q,0,none⟩=some (iv m)∧w'.cell? ⟨q,1,none⟩=some (.slice ua0 ln uc0)) from fun w' hb=>Qq (Qc HX.o hb (Qb HX.o)));have HSZ:=Zh hsz;clear h hn hl hW hsz;go_enter Tryz.func106,Tryz.ntmps106;go_upto_region 1 with(fail)
 rw [show(w.alloc (.cells #[iv m,.slice ua0 ln uc0] 52)).alloc (.cells #[iv 0,.slice none 0 0] 52)=W from HWW.o]
 try rw [hq]
 clear hq;refine QK (S:=fun w'=>w'.cell? ⟨q,0,none⟩=some (iv m)∧w'.cell? ⟨q,1,none⟩=some (.slice ua0 ln uc0)) (st:=6) (by kernel_rfl) ?_;have hS0:(fun w':World=>w'.cell? ⟨q,0,none⟩=some (iv m)∧w'.cell? ⟨q,1,none⟩=some (.slice ua0 ln uc0)) (W.drewN 1):=(HSS.o (W.drewN 1) (Qp (Below.refl _ _) 1));refine Zd 0 (some 3) ?v1 hS0 ?run1 ?rest1
 case run1=>intro w hS;obtain⟨s0,s1⟩:=hS;go_simp;rfl
 refine Zd 1 (some 4) ?v2 hS0 ?run2 ?rest2
 case run2=>intro w hS;obtain⟨s0,s1⟩:=hS;go_simp;rfl
 refine Zd 2 (some 5) ?v3 hS0 ?run3 ?rest3
 case run3=>intro w hS;obtain⟨s0,s1⟩:=hS;go_simp;rfl
 refine Zd 3 (some 6) ?v4 hS0 ?run4 ?rest4
 case run4=>intro w hS;obtain⟨s0,s1⟩:=hS;go_simp;rfl
 refine QP 4 (some 7) 91 #[.slice ua0 ln uc0] rfl (by kernel_rfl) (by kernel_rfl) (by kernel_rfl) rfl ?_;refine(K.o (W.drewN 1) (Qp (BW.o) 1)).mono ?_;rintro e m1 ⟨ua,uc,rfl,o1,b1⟩;have OO:=Zh o1;have BB1:=Zh ((Qp (Below.refl _ _) 1).trans b1:Below W.heap.size W m1);clear hS0 o1 b1;have hS0:=HSS.o _ BB1.o;refine⟨_,rfl,fun _=>hS0,?_⟩;refine Zd 5 (some 8) ?v5 hS0 ?run5 ?rest5
 case run5=>intro w hS;obtain⟨s0,s1⟩:=hS;go_simp;rfl
 have HR1:=Zh (Qc HRW.o BB1.o (by rw [HSZ.o];omega));have fz:=Qa HR1.o;have f0:=fz.2 0;have f1:=fz.2 1;have c0:=fz.1 0;have c1:=fz.1 1;simp only [Zx,Zy,Zz] at c0 c1;refine Qeb 6 none ((m1.setCell ⟨q+1,0,none⟩ (iv m)).setCell ⟨q+1,1,none⟩ (.slice ua ln uc)) rfl (by kernel_rfl) (by kernel_rfl) ?rs1 rfl (fun h=>absurd rfl h) ?_
 case rs1=>go_simp
 refine Qu (by kernel_rfl) ?_ _;generalize hA:Act.put _ _ _=A0;simp only [Qba,Qaa,Zu,Zv,Zw] at hA;subst hA;clear hS0;go_wp2;have HT1:tyAt m1 (q+1)=some 52:=Qv HR1.o (by have:=HQ.o;omega);have o2:=Qza (g:=q+1) (j:=0) (x:=iv m) OO.o HT1 (by decide);have HT2:tyAt (m1.setCell ⟨q+1,0,none⟩ (iv m)) (q+1)=some 52:=by rw [QS];exact HT1
 have o3:=Qza (g:=q+1) (j:=1) (x:=.slice ua ln uc) o2 HT2 (by decide);have HB3:=Zh (show Below w.heap.size w ((m1.setCell ⟨q+1,0,none⟩ (iv m)).setCell ⟨q+1,1,none⟩ (.slice ua ln uc)) from(((BW.o.trans (BB1.o.mono BW.o.size)).setCell (by rw [HQ.o];show q≤q+1;omega) _).setCell (by rw [HQ.o];show q≤q+1;omega) _));have HO3:=Zh o3;have e2:((m1.setCell ⟨q+1,0,none⟩ (iv m)).setCell ⟨q+1,1,none⟩ (.slice ua ln uc)).heap[q+1]? = some (.cells #[iv m,.slice ua ln uc] 52 (0,0)):=Qvb (Qwb HR1.o _) _;obtain⟨g0,g1⟩:=Qq e2;clear o2 o3 HT1 HT2 e2 f0 f1 c0 c1 fz;go_wp2;refine bodyPost_ret (v:=.agg #[iv m,.slice ua ln uc]) (by simp [results,Tryz.results106,go_sem,g0,g1]) rfl ⟨_,rfl,⟨Qg.of_owns HO3.o,HOK.o⟩,HB3.o⟩
def QCl (r:Qw×Int) (w:World) (e:Ending) (w':World):Prop:=∃gu ku cu,e=.returned (.tuple #[trV r.1 gu ku cu,iv r.2])∧Qja w' gu ku cu r.1∧Below w.heap.size w w'
theorem Qzn (m:Nat) (hm:m≤256) (w:World) (hbs:Base.b≤w.heap.size):Calls Tryz.prog 46 #[iv m] w (QCl (idT m,0) w):=by
 obtain⟨q,hq⟩:=Ze w.heap.size;obtain⟨W0,hW0⟩:=Ze (w.alloc (.cells #[iv 0,.slice none 0 0,iv 0,.slice none 0 0,.slice none 0 0] 55));have B0:=Zh (show Below q w W0 by rw [←hW0,←hq];exact Zb);have H0:=Zh (show W0.heap[q]? = some (.cells #[iv 0,.slice none 0 0,iv 0,.slice none 0 0,.slice none 0 0] 55 (0,0)) by rw [←hW0,←hq];exact heap_alloc_new _ _);have HWW:=Zh hW0;have HQ:=Zh hq;clear hW0;go_enter Tryz.func46,Tryz.ntmps46;go_upto_region 1 with(fail)
 rw [show w.alloc (.cells #[iv 0,.slice none 0 0,iv 0,.slice none 0 0,.slice none 0 0] 55)=W0 from HWW.o];go_wp2_with fail;refine(Qxe m hm W0).mono ?_;rintro e w1 ⟨u,rfl,os,b1⟩;have HU:=Zh os.words;obtain⟨ga,gc,rfl,-⟩:=os.words.cell;have HGN:=Zh (show(Qy m).words.length=Qj m by simp [Qy]);rw [HGN.o] at HU ⊢;rw [show setV (Qy m) (.slice ga (Qj m) gc)=.agg #[iv m,.slice ga (Qj m) gc] from rfl];obtain⟨gn,hgn⟩:=Ze (Qj m);have hg5:gn≤5:=by rw [←hgn];unfold Qj;omega
 rw [hgn] at HGN HU ⊢;obtain⟨p,hp⟩:=Ze w1.heap.size;have hpq:q+1≤p:=by have:=b1.size;have:=Qb H0.o;omega
 obtain⟨W,hW⟩:=Ze (w1.alloc (.cells #[iv m,.slice ga gn gc] 52));have hsz:W.heap.size=p+1:=by rw [←hW,←hp];simp
 have A1:Below p w1 W:=by rw [←hW,←hp];exact Zb
 have HSZ:=Zh hsz;have HP1:W.heap[p]? = some (.cells #[iv m,.slice ga gn gc] 52 (0,0)):=by rw [←hW,←hp];exact heap_alloc_new _ _
 have HP:=Zh HP1;have BQ:=Zh (show Below q w W from B0.o.trans ((b1.trans (A1.mono (by have:=b1.size;omega))).mono (by have:=Qb H0.o;omega)));have HRW:=Zh (show W.heap[q]? = some (.cells #[iv 0,.slice none 0 0,iv 0,.slice none 0 0,.slice none 0 0] 55 (0,0)) from Qc (Qc H0.o b1 (Qb H0.o)) A1 (by omega));have HUW:=Zh (show Qi W (.slice ga gn gc) (Qy m).words from HU.o.below (hp▸A1));have K:=Zh (fun (x:World) (b:Below W.heap.size W x)=>Qog (Qy m) (.slice ga gn gc) x (HUW.o.below b) (by rw [HGN.o];omega) (by have:=b.size;omega));have HSS:=Zh (show ∀w',Below W.heap.size W w'→(w'.cell? ⟨p,0,none⟩=some (iv m)∧w'.cell? ⟨p,1,none⟩=some (.slice ga gn gc)) from fun w' hb=>Qq (Qc HP.o hb (Qb HP.o)));have HWW:=Zh hW;obtain⟨x0,x1⟩:=Qq HP.o;clear hW hsz HP1 A1 b1 os hgn;go_upto_region 4 with(fail)
 try rw [hp]
 rw [show w1.alloc (.cells #[iv m,.slice ga gn gc] 52)=W from HWW.o];refine QK (S:=fun w'=>w'.cell? ⟨p,0,none⟩=some (iv m)∧w'.cell? ⟨p,1,none⟩=some (.slice ga gn gc)) (st:=5) (by kernel_rfl) ?_;have hS0:(fun w':World=>w'.cell? ⟨p,0,none⟩=some (iv m)∧w'.cell? ⟨p,1,none⟩=some (.slice ga gn gc)) (W.drewN 1):=(HSS.o (W.drewN 1) (Qp (Below.refl _ _) 1));refine Zd 0 (some 15) ?v6 hS0 ?run6 ?rest6
 case run6=>intro w hS;obtain⟨s0,s1⟩:=hS;go_simp;rfl
 refine Zd 1 (some 16) ?v7 hS0 ?run7 ?rest7
 case run7=>intro w hS;obtain⟨s0,s1⟩:=hS;go_simp;rfl
 refine QP 2 (some 17) 106 #[.agg #[iv m,.slice ga gn gc]] rfl (by kernel_rfl) (by kernel_rfl) (by kernel_rfl) rfl ?_;refine(K.o (W.drewN 1) (Qp (Below.refl _ _) 1)).mono ?_;rintro e m1 ⟨ku,rfl,o1,b1⟩;obtain⟨ka,kc,rfl,-⟩:=o1.cell;have OO:=Zh o1;have BB1:=Zh ((Qp (Below.refl _ _) 1).trans b1:Below W.heap.size W m1);clear hS0 o1 b1;have hS0:=HSS.o _ BB1.o;rw [HGN.o,show setV (Qy m) (.slice ka gn kc)=.agg #[iv m,.slice ka gn kc] from rfl];refine⟨_,rfl,fun _=>hS0,?_⟩;refine Zd 3 (some 18) ?v8 hS0 ?run8 ?rest8
 case run8=>intro w hS;obtain⟨s0,s1⟩:=hS;go_simp;rfl
 have HR1:=Zh (Qc HRW.o BB1.o (by have:=HSZ.o;omega));have fz:=Qa HR1.o;have f0:=fz.2 0;have f1:=fz.2 1;have f2:=fz.2 2;have f3:=fz.2 3;have f4:=fz.2 4;have c0:=fz.1 0;have c1:=fz.1 1;have c2:=fz.1 2;have c3:=fz.1 3;have c4:=fz.1 4;simp only [Zx,Zy,Zz] at c0 c1 c2 c3 c4;have hSF:(fun w':World=>w'.cell? ⟨p,0,none⟩=some (iv m)∧w'.cell? ⟨p,1,none⟩=some (.slice ga gn gc)) ((((((m1.setCell ⟨q,0,none⟩ (iv m)).setCell ⟨q,1,none⟩ (.slice ga gn gc)).setCell ⟨q,2,none⟩ (iv m)).setCell ⟨q,3,none⟩ (.slice ka gn kc)).setCell ⟨q,4,none⟩ (.slice none 0 0))):=Qq (Qdj (Qc HP.o BB1.o (Qb HP.o)) (by omega) _ _ _ _ _);clear hS0;have hS0:=hSF;clear hSF;refine Qeb 4 none ((((((m1.setCell ⟨q,0,none⟩ (iv m)).setCell ⟨q,1,none⟩ (.slice ga gn gc)).setCell ⟨q,2,none⟩ (iv m)).setCell ⟨q,3,none⟩ (.slice ka gn kc)).setCell ⟨q,4,none⟩ (.slice none 0 0))) rfl (by kernel_rfl) (by kernel_rfl) ?rs1 rfl (fun _=>hS0) ?_
 case rs1=>go_simp
 refine QW 5 (some 3) (iv 0) ((((((m1.setCell ⟨q,0,none⟩ (iv m)).setCell ⟨q,1,none⟩ (.slice ga gn gc)).setCell ⟨q,2,none⟩ (iv m)).setCell ⟨q,3,none⟩ (.slice ka gn kc)).setCell ⟨q,4,none⟩ (.slice none 0 0))) rfl (by kernel_rfl) (by kernel_rfl) (by go_simp) rfl (fun h=>absurd rfl h) ?_;refine Qu (by kernel_rfl) ?_ _;generalize hA:Act.put _ _ _=A0;simp only [Qba,Qaa,Zu,Zv,Zw] at hA;subst hA;have e5:(((((((m1.setCell ⟨q,0,none⟩ (iv m)).setCell ⟨q,1,none⟩ (.slice ga gn gc)).setCell ⟨q,2,none⟩ (iv m)).setCell ⟨q,3,none⟩ (.slice ka gn kc)).setCell ⟨q,4,none⟩ (.slice none 0 0)))).heap[q]? = some (.cells #[iv m,.slice ga gn gc,iv m,.slice ka gn kc,.slice none 0 0] 55 (0,0)):=set5 HR1.o _ _ _ _ _;obtain⟨g0,g1,g2,g3,g4⟩:=QJ e5;have HB3:=Zh (show Below w.heap.size w ((((((m1.setCell ⟨q,0,none⟩ (iv m)).setCell ⟨q,1,none⟩ (.slice ga gn gc)).setCell ⟨q,2,none⟩ (iv m)).setCell ⟨q,3,none⟩ (.slice ka gn kc)).setCell ⟨q,4,none⟩ (.slice none 0 0))) from
  (((((show Below w.heap.size w W by rw [HQ.o];exact BQ.o).trans (BB1.o.mono (by have:=HSZ.o;have:=HQ.o;omega))).setCell (Nat.le_of_eq HQ.o) _).setCell (Nat.le_of_eq HQ.o) _).setCell (Nat.le_of_eq HQ.o) _).setCell (Nat.le_of_eq HQ.o) _ |>.setCell (Nat.le_of_eq HQ.o) _)
 have KT:=Zh (show Qf 139 m1 ((((((m1.setCell ⟨q,0,none⟩ (iv m)).setCell ⟨q,1,none⟩ (.slice ga gn gc)).setCell ⟨q,2,none⟩ (iv m)).setCell ⟨q,3,none⟩ (.slice ka gn kc)).setCell ⟨q,4,none⟩ (.slice none 0 0))) from Quc (Qv HR1.o (by have:=HQ.o;omega)) (by decide) _ _ _ _ _);have HU3:=Zh ((HUW.o.below BB1.o).keep KT.o);have HK3:=Zh (OO.o.keep KT.o);clear hS0 f0 f1 f2 f3 f4 c0 c1 c2 c3 c4 fz e5;have HK4:=HK3.o;rw [HGN.o] at HK4;go_wp2;refine bodyPost_ret (v:=.tuple #[.agg #[iv m,.slice ga gn gc,iv m,.slice ka gn kc,.slice none 0 0],iv 0]) (by simp [results,Tryz.results46,go_sem,g0,g1,g2,g3,g4]) rfl ⟨_,_,_,rfl,⟨HU3.o,HK4,QKc.nil⟩,HB3.o⟩
end
section
variable [Base]
def rowK (t:Qw) (m k a:Nat):QSet:=mkS m fun b=>(decide (a=b)&&!QE t.kill.words a)||decide (((a:Int),(b:Int))∈t.cops.take k)
def QGd (t:Qw) (m k i:Nat):List QSet:=(List.range i).map (rowK t m k)
theorem Qqb (t:Qw) (m k i:Nat):(QGd t m k i).length=i:=by simp [QGd]
theorem QVd (t:Qw) {m:Nat} (h:m≤256) (k a:Nat):Ok m (rowK t m k a):=QIb _ h
theorem QAq (t:Qw) {m:Nat} (h:m≤256) {a:Nat} (ha:a<m):rowK t m 0 a=if QE t.kill.words a=true then Qy m else putS (Qy m) a:=by
 unfold rowK;by_cases hk:QE t.kill.words a=true
 ·rw [if_pos hk];refine(QIb _ h).ext (QOb h) fun b=>?_
  rw [Qpb _ h,QNb,hk];simp
 ·rw [if_neg hk];have hp:=(QOb h).put ha;refine(QIb _ h).ext hp.1 fun b=>?_
  rw [Qpb _ h,hp.2,QNb];rw [show QE t.kill.words a=false by simpa using hk];rw [Bool.eq_iff_iff];simp;omega
theorem Qlj (t:Qw) (m k i:Nat):QGd t m k (i+1)=QGd t m k i++[rowK t m k i]:=by
 simp [QGd,List.range_succ]
theorem QLh (t:Qw) (m k i a:Nat) (h:a<i):(QGd t m k i)[a]? = some (rowK t m k a):=by
 unfold QGd;rw [List.getElem?_map,List.getElem?_range h];rfl
theorem QBq {t:Qw} {m k a b:Nat} (h:m≤256) (hc:t.cops[k]? = some ((a:Int),(b:Int))) (hb:b<m) (x:Nat):rowK t m (k+1) x=if x=a then putS (rowK t m k x) b else rowK t m k x:=by
 have hm:∀c,c∈t.cops.take (k+1)↔c∈t.cops.take k∨c=((a:Int),(b:Int)):=fun c=>by
  rw [List.take_add_one,hc];simp
 by_cases e:x=a
 ·subst e;rw [if_pos rfl];have hp:=(QVd t h k x).put hb;refine(QVd t h _ x).ext hp.1 fun y=>?_
  rw [hp.2];unfold rowK;rw [Qpb _ h,Qpb _ h,Bool.eq_iff_iff];simp only [Bool.and_eq_true,Bool.or_eq_true,decide_eq_true_eq,Bool.not_eq_true',hm,Prod.mk.injEq];constructor
  ·rintro⟨h1,h2|h2|⟨_,h2⟩⟩
   ·exact .inl ⟨h1,.inl h2⟩
   ·exact .inl ⟨h1,.inr h2⟩
   ·exact .inr (by omega)
  ·rintro(⟨h1,h2|h2⟩|h2)
   ·exact⟨h1,.inl h2⟩
   ·exact⟨h1,.inr (.inl h2)⟩
   ·subst h2;exact⟨hb,.inr (.inr (by simp))⟩
 ·rw [if_neg e];unfold rowK;refine Qad h fun y _=>?_
  rw [Bool.eq_iff_iff];simp only [Bool.and_eq_true,Bool.or_eq_true,decide_eq_true_eq,Bool.not_eq_true',hm,Prod.mk.injEq];constructor
  ·rintro(h2|h2|⟨h2,_⟩)
   ·exact .inl h2
   ·exact .inr h2
   ·omega
  ·rintro(h2|h2)
   ·exact .inl h2
   ·exact .inr (.inl h2)
theorem QWn {t:Qw} {m k a b:Nat} (h:m≤256) (hc:t.cops[k]? = some ((a:Int),(b:Int))) (hb:b<m):QGd t m (k+1) m=(QGd t m k m).set a (putS (rowK t m k a) b):=by
 refine List.ext_getElem? fun x=>?_
 rw [List.getElem?_set];by_cases hx:x<m
 ·rw [QLh _ _ _ _ _ hx,QLh _ _ _ _ _ hx,QBq h hc hb];by_cases e:a=x
  ·subst e;simp [Qqb,hx]
  ·rw [if_neg (fun h=>e h.symm),if_neg e]
 ·rw [List.getElem?_eq_none (by rw [Qqb];omega),List.getElem?_eq_none (by rw [Qqb];omega)]
  split
  ·next e=>subst e;simp [Qqb,hx]
  ·rfl
def Qpi (t:Qw) (m:Nat):List QSet:=(List.range m).map fun a=>mkS m (folB t a)
theorem Qyq (t:Qw) (m:Nat):QGd t m t.cops.length m=Qpi t m:=by
 unfold QGd Qpi rowK;rw [List.take_length];rfl
def QJb (t:Qw) (m i:Nat):QSet:=mkS m fun a=>QE t.gen.words a||(decide (a<i)&&!folB t a a)
theorem Qre (t:Qw) {m:Nat} (h:m≤256) (i:Nat):Ok m (QJb t m i):=QIb _ h
theorem Qno {t:Qw} {m:Nat} (h:Ok m t.gen):QJb t m 0=t.gen:=by
 refine(QIb _ h.le).ext h fun b=>?_
 rw [Qpb _ h.le];by_cases hb:b<m
 ·simp [hb]
 ·rw [h.tail (by omega)];simp [hb]
theorem Qoo (t:Qw) {m i:Nat} (h:m≤256) (hi:i<m):QJb t m (i+1)=if folB t i i=true then QJb t m i else putS (QJb t m i) i:=by
 by_cases hf:folB t i i=true
 ·rw [if_pos hf];unfold QJb;refine Qad h fun a _=>?_
  by_cases e:a=i
  ·subst e;simp [hf]
  ·rw [show decide (a<i+1)=decide (a<i) by simp;omega]
 ·rw [if_neg hf];have hp:=(Qre t h i).put hi;refine(Qre t h _).ext hp.1 fun a=>?_
  rw [hp.2];unfold QJb;rw [Qpb _ h,Qpb _ h];by_cases e:a=i
  ·subst e;simp [hf,hi]
  ·rw [show decide (a<i+1)=decide (a<i) by simp;omega];simp [e]
theorem QTq (t:Qw) (m:Nat) (h:m≤256):QJb t m m=(Qlb t m).kill:=Qad h fun a ha=>by simp [ha]
def copK (a:Nat) (l:List Nat):List Cp:=(l.filter fun b=>decide (b≠a)).map fun b:Nat=>((a:Int),(b:Int))
theorem QLk (a b:Nat) (l:List Nat):copK a (l++[b])=if b=a then copK a l else copK a l++[((a:Int),(b:Int))]:=by
 unfold copK;rw [List.filter_append,List.map_append];by_cases e:b=a
 ·simp [e]
 ·simp [e]
theorem QKs {t:Qw} {m a:Nat} {r:QSet} (hr:Ok m r) (hb:∀b,QE r.words b=((decide (b<m)&&folB t a b)&&!QE t.gen.words b)):copK a (memS r)=rowC t m a:=by
 unfold copK rowC memS;rw [if_pos hr.ok,hr.width,Int.toNat_natCast,List.filter_filter]
 congr 1
 refine List.filter_congr fun b h=>?_
 have h:=List.mem_range.1 h;rw [hb,Bool.eq_iff_iff];simp [h];omega
end
section
open Go.RowKit
variable [Base]
def QIa (f:Nat→Nat→Nat) (s t:QSet):QSet×Int:=if setB s=false∨setB t=false then (Qrd,1) else if s.width≠t.width then (Qrd,2) else (zipS f s t,0)
def FunQ (fn:FuncId) (f:Nat→Nat→Nat):Prop:=∀(x y:Nat) (w:World),x<18446744073709551616→y<18446744073709551616→f x y<18446744073709551616∧Calls Tryz.prog fn #[uv x,uv y] w fun e w'=>e=.returned (uv (f x y))∧w=w'
def Qdc (f:Nat→Nat→Nat) (s t:QSet) (i:Nat):List Nat:=(List.zipWith f s.words t.words).take i++List.replicate (s.words.length-i) 0
structure XIn (w v wr:World) (r c g m:Nat) (d:Int) (l:List Nat):Prop where
 below:Below w.heap.size w wr
 keep:Below v.heap.size v wr
 res:wr.heap[r]? = some (.cells #[.int .i64 0,.slice none 0 0] 52 (0,0))
 cur:wr.heap[c]? = some (.cells #[.int .i64 d,.slice (some ⟨g,0,none⟩) (Qj m) (Qj m)] 52 (0,0))
 own:wr.heap[g]? = some (.cells (l.map uv).toArray 139 (0,0))
 old:w.heap.size≤r∧w.heap.size≤c∧w.heap.size≤g∧r≠c∧r≠g∧c≠g∧v.heap.size≤g
theorem XIn.drew {w v wr:World} {r c g m:Nat} {d:Int} {l:List Nat} (h:XIn w v wr r c g m d l) (n:Nat):XIn w v (wr.drewN n) r c g m d l:=⟨Qp h.below n,Qp h.keep n,h.res,h.cur,h.own,h.old⟩
theorem XIn.put {w v wr:World} {r c g m:Nat} {d:Int} {l:List Nat} (h:XIn w v wr r c g m d l) (i y:Nat):XIn w v (wr.setCell ⟨g,i,none⟩ (uv y)) r c g m d (l.set i y):=by
 obtain⟨o1,o2,o3,o4,o5,o6,o7⟩:=h.old;have hg:=h.own;refine⟨h.below.setCell (p:=⟨g,i,none⟩) o3 _,h.keep.setCell (p:=⟨g,i,none⟩) o7 _,?_,?_,?_,h.old⟩
 ·rw [Below.heap_setCell _ _ _ _ (by show r≠g;omega)];exact h.res
 ·rw [Below.heap_setCell _ _ _ _ (by show c≠g;omega)];exact h.cur
 ·rw [List.map_set];simp [World.setCell,Array.getElem?_modify,hg]
theorem XIn.fin {w v wr:World} {r c g m:Nat} {d:Int} {l:List Nat} (h:XIn w v wr r c g m d l) (x y:Value):((wr.setCell ⟨r,0,none⟩ x).setCell ⟨r,1,none⟩ y).heap[g]? = some (.cells (l.map uv).toArray 139 (0,0))∧Below w.heap.size w ((wr.setCell ⟨r,0,none⟩ x).setCell ⟨r,1,none⟩ y):=by
 obtain⟨o1,o2,o3,o4,o5,o6,o7⟩:=h.old;refine⟨?_,(h.below.setCell (p:=⟨r,0,none⟩) o1 _).setCell (p:=⟨r,1,none⟩) o1 _⟩;rw [Below.heap_setCell _ _ _ _ (by show g≠r;omega),Below.heap_setCell _ _ _ _ (by show g≠r;omega)];exact h.own
theorem Qkf {f:Nat→Nat→Nat} {s t:QSet} {i x y:Nat} (hx:s.words[i]? = some x) (hy:t.words[i]? = some y) (hl:s.words.length=t.words.length):Qdc f s t (i+1)=(Qdc f s t i).set i (f x y):=by
 have hi:=(List.getElem?_eq_some_iff.1 hx).1;have hz:(List.zipWith f s.words t.words)[i]? = some (f x y):=by rw [List.getElem?_zipWith,hx,hy]
 have hzl:(List.zipWith f s.words t.words).length=s.words.length:=by rw [List.length_zipWith,←hl,Nat.min_self]
 apply List.ext_getElem?;intro j;unfold Qdc;rw [List.getElem?_set,List.getElem?_append,List.getElem?_append,List.length_append,List.length_take,List.length_take,hzl,List.length_replicate,Nat.min_eq_left (by omega:i+1≤s.words.length),Nat.min_eq_left (by omega:i≤s.words.length),List.getElem?_take,List.getElem?_take,List.getElem?_replicate,List.getElem?_replicate];by_cases h1:i=j
 ·subst h1;rw [if_pos rfl,if_pos (by omega),if_pos (by omega),if_pos (by omega),hz]
 ·rw [if_neg h1];by_cases h2:j<i
  ·rw [if_pos (by omega),if_pos (by omega),if_pos h2,if_pos h2]
  ·rw [if_neg (by omega),if_neg h2];by_cases h3:j-i<s.words.length-i
   ·rw [if_pos (by omega),if_pos h3]
   ·rw [if_neg (by omega),if_neg h3]
theorem QTc {f:Nat→Nat→Nat} {s t:QSet} {i:Nat} (hl:s.words.length=t.words.length) (hi:i≤s.words.length):(Qdc f s t i).length=s.words.length:=by
 unfold Qdc;rw [List.length_append,List.length_take,List.length_zipWith,List.length_replicate,←hl,Nat.min_self];omega
theorem QKf {f:Nat→Nat→Nat} {s t:QSet} (hl:s.words.length=t.words.length):Qdc f s t s.words.length=(zipS f s t).words:=by
 unfold Qdc zipS;rw [Nat.sub_self,List.replicate_zero,List.append_nil,List.take_of_length_le];rw [List.length_zipWith,←hl,Nat.min_self];exact Nat.le_refl _
theorem Qjf {f:Nat→Nat→Nat} {s t:QSet} {m:Nat} (h:s.words.length=Qj m):(List.map uv (Qdc f s t 0)).toArray=zc (Qj m):=by
 unfold Qdc zc;rw [h,Nat.sub_zero];simp
theorem QM {w:World} {b g o j:Nat} {u:Value} {x:Option Value} (h:b≠g) (hc:w.cell? ⟨b,o,none⟩=x):(w.setCell ⟨g,j,none⟩ u).drew.cell? ⟨b,o,none⟩=x:=
 (show(w.setCell ⟨g,j,none⟩ u).cell? ⟨b,o,none⟩=x from Qqa h hc)
theorem QRj (a b:Nat) (ha:a<18446744073709551616) (hb:b<18446744073709551616):bits .andNot .u64 (a:Int) (b:Int)=((clr a b:Nat):Int):=by
 have h1:(BitVec.ofInt 64 (a:Int)).toNat=a:=by
  rw [BitVec.ofInt_natCast,BitVec.toNat_ofNat];exact Nat.mod_eq_of_lt (by omega)
 have h2:(BitVec.ofInt 64 (b:Int)).toNat=b:=by
  rw [BitVec.ofInt_natCast,BitVec.toNat_ofNat];exact Nat.mod_eq_of_lt (by omega)
 have h3:(BitVec.ofInt 64 (a:Int) &&& ~~~ BitVec.ofInt 64 (b:Int)).toNat=clr a b:=by
  apply Nat.eq_of_testBit_eq;intro i;rw [QAl,BitVec.testBit_toNat,BitVec.getLsbD_and,BitVec.getLsbD_not,←BitVec.testBit_toNat,←BitVec.testBit_toNat,h1,h2];by_cases hi:i<64
  ·simp [hi]
  ·rw [Nat.testBit_lt_two_pow (Nat.lt_of_lt_of_le ha (Nat.pow_le_pow_right (n:=2) (by decide) (show 64≤i by omega)))];simp
 show IntKind.u64.wrap ((BitVec.ofInt 64 (a:Int) &&& ~~~ BitVec.ofInt 64 (b:Int)).toNat:Int)=_;rw [h3,IntKind.wrap_u64];have:=Qvl (b:=b) ha;omega
theorem Qou:FunQ 87 (· ||| ·):=fun x y w hx hy=>by
 refine⟨Qxm hx hy,?_⟩
 have h:=Qhl x y hx hy
 go_enter Tryz.func87,Tryz.ntmps87
 go_wp2
 go_ret
 exact⟨rfl,rfl⟩
theorem QKt:FunQ 152 clr:=fun x y w hx hy=>by
 refine⟨Qvl hx,?_⟩
 have h:=QRj x y hx hy
 go_enter Tryz.func152,Tryz.ntmps152
 go_wp2
 go_ret
 exact⟨rfl,rfl⟩
end
section
open Go.RowKit
variable [Base]
theorem Qko (f:Nat→Nat→Nat) (hf:FunQ 152 f) (s t:QSet) (u1 u2:Value) (w:World) (h1:Qi w u1 s.words) (h2:Qi w u2 t.words):
  Calls Tryz.prog 86 #[setV s u1,setV t u2,.func (.func 152) #[] #[]] w (SetE (QIa f s t) w):=by
 have hud:∀b:Bool,(undef=Value.bool b)=False:=fun b=>by simp [undef]
 obtain⟨a1,c1,rfl,hm1,hc1,hcm1,hk1⟩:=h1.cell;obtain⟨a2,c2,rfl,hm2,hc2,hcm2,hk2⟩:=h2.cell;obtain⟨n1,hn1⟩:=Ze s.words.length;obtain⟨n2,hn2⟩:=Ze t.words.length;have R1:=Zh h1;have R2:=Zh h2;rw [hn1] at hm1 hc1 R1 ⊢;rw [hn2] at hm2 hc2 R2 ⊢;have N1:=Zh hn1;have N2:=Zh hn2;have K1:=Zh hk1;have K2:=Zh hk2;have OK1:=Zh h1.2;have OK2:=Zh h2.2;have HF:=Zh hf;obtain⟨W,hW⟩:=Ze (((w.alloc (.cells #[.int .i64 s.width,.slice a1 n1 c1] 52)).alloc (.cells #[.int .i64 t.width,.slice a2 n2 c2] 52)).alloc (.cells #[.int .i64 0,.slice none 0 0] 52));have B0:Below w.heap.size w W:=by rw [←hW];exact((Zb).alloc (by simp) _).alloc (by simp;omega) _
 have L1:W.heap[w.heap.size]? = some (.cells #[.int .i64 s.width,.slice a1 n1 c1] 52 (0,0)):=by rw [←hW];exact Qz _ (Qz _ (heap_alloc_new _ _))
 have L2:W.heap[w.heap.size+1]? = some (.cells #[.int .i64 t.width,.slice a2 n2 c2] 52 (0,0)):=by rw [←hW];exact Qz _ (Qda _ _)
 have L3:W.heap[w.heap.size+1+1]? = some (.cells #[.int .i64 0,.slice none 0 0] 52 (0,0)):=by rw [←hW];have k:=heap_alloc_new ((w.alloc (.cells #[.int .i64 s.width,.slice a1 n1 c1] 52)).alloc (.cells #[.int .i64 t.width,.slice a2 n2 c2] 52)) (.cells #[.int .i64 0,.slice none 0 0] 52);simp only [World.size_alloc] at k;exact k
 have HW:=Zh hW;have BB:=Zh B0;have H1:=Zh L1;have H2:=Zh L2;have H3:=Zh L3;have x0:=(Qa L1).1 0;have x1:=(Qa L1).1 1;have y0:=(Qa L2).1 0;have y1:=(Qa L2).1 1;have z0:=(Qa L3).1 0;have z1:=(Qa L3).1 1;have f0:=(Qa L3).2 0;have f1:=(Qa L3).2 1;simp only [Zx,Zy,Zz] at x0 x1 y0 y1 z0 z1;unfold maxLen at hm1 hm2;clear hW B0 L1 L2 L3 h1 h2 hn1 hn2 hk1 hk2 hf;rcases Bool.eq_false_or_eq_true (setB s) with hv1|hv1
 rotate_left
 ·rw [show QIa f s t=(Qrd,1) from by unfold QIa;rw [if_pos (Or.inl hv1)]];have HV1:=Zh hv1;clear hv1;go_enter Tryz.func86,Tryz.ntmps86;go_wp2_with fail;rw [show((w.alloc (.cells #[.int .i64 s.width,.slice a1 _ c1] 52)).alloc (.cells #[.int .i64 t.width,.slice a2 _ c2] 52)).alloc (.cells #[.int .i64 0,.slice none 0 0] 52)=W from HW.o];refine(QT HV1.o _ _ (R1.o.below BB.o)).mono ?_;rintro e v1 ⟨rfl,b1⟩;have B1:=Zh (BB.o.trans (b1.mono BB.o.size));have M11:=Zh (Qc H1.o b1 (Qb H1.o));have M12:=Zh (Qc H2.o b1 (Qb H2.o));have M13:=Zh (Qc H3.o b1 (Qb H3.o));clear b1;clear x0 x1 y0 y1 z0 z1 f0 f1;have x0:=(Qa M11.o).1 0;have x1:=(Qa M11.o).1 1;have y0:=(Qa M12.o).1 0;have y1:=(Qa M12.o).1 1;have z0:=(Qa M13.o).1 0;have z1:=(Qa M13.o).1 1;have f0:=(Qa M13.o).2 0;have f1:=(Qa M13.o).2 1;simp only [Zx,Zy,Zz] at x0 x1 y0 y1 z0 z1;go_wp2;refine bodyPost_ret (v:=.tuple #[QPd,.int .i64 1]) (by simp [results,Tryz.results86,go_sem,z0,z1]) rfl (QJd.set ⟨rfl,(B1.o.setCell (p:=⟨w.heap.size+1+1,0,none⟩) (by show w.heap.size≤w.heap.size+1+1;omega) _).setCell (p:=⟨w.heap.size+1+1,1,none⟩) (by show w.heap.size≤w.heap.size+1+1;omega) _⟩)
 have HV1:=Zh hv1;rcases Bool.eq_false_or_eq_true (setB t) with hv2|hv2
 rotate_left
 ·rw [show QIa f s t=(Qrd,1) from by unfold QIa;rw [if_pos (Or.inr hv2)]];have HV2:=Zh hv2;clear hv1 hv2;go_enter Tryz.func86,Tryz.ntmps86;go_wp2_with fail;rw [show((w.alloc (.cells #[.int .i64 s.width,.slice a1 _ c1] 52)).alloc (.cells #[.int .i64 t.width,.slice a2 _ c2] 52)).alloc (.cells #[.int .i64 0,.slice none 0 0] 52)=W from HW.o];refine(QT HV1.o _ _ (R1.o.below BB.o)).mono ?_;rintro e v1 ⟨rfl,b1⟩;have B1:=Zh (BB.o.trans (b1.mono BB.o.size));have M11:=Zh (Qc H1.o b1 (Qb H1.o));have M12:=Zh (Qc H2.o b1 (Qb H2.o));have M13:=Zh (Qc H3.o b1 (Qb H3.o));clear b1;clear x0 x1 y0 y1 z0 z1 f0 f1;have x0:=(Qa M11.o).1 0;have x1:=(Qa M11.o).1 1;have y0:=(Qa M12.o).1 0;have y1:=(Qa M12.o).1 1;have z0:=(Qa M13.o).1 0;have z1:=(Qa M13.o).1 1;have f0:=(Qa M13.o).2 0;have f1:=(Qa M13.o).2 1;simp only [Zx,Zy,Zz] at x0 x1 y0 y1 z0 z1;go_wp2_with fail;refine(QT HV2.o _ _ (R2.o.below B1.o)).mono ?_;rintro e v2 ⟨rfl,b2⟩;have B2:=Zh (B1.o.trans (b2.mono B1.o.size));have M21:=Zh (Qc M11.o b2 (Qb M11.o));have M22:=Zh (Qc M12.o b2 (Qb M12.o));have M23:=Zh (Qc M13.o b2 (Qb M13.o));clear b2;clear x0 x1 y0 y1 z0 z1 f0 f1;have x0:=(Qa M21.o).1 0;have x1:=(Qa M21.o).1 1;have y0:=(Qa M22.o).1 0;have y1:=(Qa M22.o).1 1;have z0:=(Qa M23.o).1 0;have z1:=(Qa M23.o).1 1;have f0:=(Qa M23.o).2 0;have f1:=(Qa M23.o).2 1;simp only [Zx,Zy,Zz] at x0 x1 y0 y1 z0 z1;go_wp2;refine bodyPost_ret (v:=.tuple #[QPd,.int .i64 1]) (by simp [results,Tryz.results86,go_sem,z0,z1]) rfl (QJd.set ⟨rfl,(B2.o.setCell (p:=⟨w.heap.size+1+1,0,none⟩) (by show w.heap.size≤w.heap.size+1+1;omega) _).setCell (p:=⟨w.heap.size+1+1,1,none⟩) (by show w.heap.size≤w.heap.size+1+1;omega) _⟩)
 have HV2:=Zh hv2;by_cases hd:s.width=t.width;rotate_left
 ·rw [show QIa f s t=(Qrd,2) from by unfold QIa;rw [if_neg (by rw [hv1,hv2];simp),if_pos hd]];have hdb:(s.width != t.width)=true:=by simpa using hd
  clear hv1 hv2;go_enter Tryz.func86,Tryz.ntmps86;go_wp2_with fail;rw [show((w.alloc (.cells #[.int .i64 s.width,.slice a1 _ c1] 52)).alloc (.cells #[.int .i64 t.width,.slice a2 _ c2] 52)).alloc (.cells #[.int .i64 0,.slice none 0 0] 52)=W from HW.o];refine(QT HV1.o _ _ (R1.o.below BB.o)).mono ?_;rintro e v1 ⟨rfl,b1⟩;have B1:=Zh (BB.o.trans (b1.mono BB.o.size));have M11:=Zh (Qc H1.o b1 (Qb H1.o));have M12:=Zh (Qc H2.o b1 (Qb H2.o));have M13:=Zh (Qc H3.o b1 (Qb H3.o));clear b1;clear x0 x1 y0 y1 z0 z1 f0 f1;have x0:=(Qa M11.o).1 0;have x1:=(Qa M11.o).1 1;have y0:=(Qa M12.o).1 0;have y1:=(Qa M12.o).1 1;have z0:=(Qa M13.o).1 0;have z1:=(Qa M13.o).1 1;have f0:=(Qa M13.o).2 0;have f1:=(Qa M13.o).2 1;simp only [Zx,Zy,Zz] at x0 x1 y0 y1 z0 z1;go_wp2_with fail;refine(QT HV2.o _ _ (R2.o.below B1.o)).mono ?_;rintro e v2 ⟨rfl,b2⟩;have B2:=Zh (B1.o.trans (b2.mono B1.o.size));have M21:=Zh (Qc M11.o b2 (Qb M11.o));have M22:=Zh (Qc M12.o b2 (Qb M12.o));have M23:=Zh (Qc M13.o b2 (Qb M13.o));clear b2;clear x0 x1 y0 y1 z0 z1 f0 f1;have x0:=(Qa M21.o).1 0;have x1:=(Qa M21.o).1 1;have y0:=(Qa M22.o).1 0;have y1:=(Qa M22.o).1 1;have z0:=(Qa M23.o).1 0;have z1:=(Qa M23.o).1 1;have f0:=(Qa M23.o).2 0;have f1:=(Qa M23.o).2 1;simp only [Zx,Zy,Zz] at x0 x1 y0 y1 z0 z1;go_wp2;refine bodyPost_ret (v:=.tuple #[QPd,.int .i64 2]) (by simp [results,Tryz.results86,go_sem,z0,z1]) rfl (QJd.set ⟨rfl,(B2.o.setCell (p:=⟨w.heap.size+1+1,0,none⟩) (by show w.heap.size≤w.heap.size+1+1;omega) _).setCell (p:=⟨w.heap.size+1+1,1,none⟩) (by show w.heap.size≤w.heap.size+1+1;omega) _⟩)
 rw [show QIa f s t=(zipS f s t,0) from by unfold QIa;rw [if_neg (by rw [hv1,hv2];simp),if_neg (by simpa using hd)]];have hdb:(s.width != t.width)=false:=by simpa using hd
 have F1:=Zh (QBa hv1 OK1.o);have F2:=Zh (QBa hv2 OK2.o);obtain⟨m,e1,e2,e3⟩:=Qka F1.o;obtain⟨m2,e4,e5,e6⟩:=Qka F2.o;have HD:=Zh hd;have hmm:m2=m:=by omega
 subst hmm;have HM:=Zh e1;have hnn:n1=Qj m2:=by have:=N1.o;omega
 have hnn2:n2=Qj m2:=by have:=N2.o;omega
 subst hnn hnn2;have hwn:Qj m2≤4:=by unfold Qj;omega
 have hmk:=fun w=>QTd (Qj m2) (by omega) (Qj m2:Nat) rfl w
 clear hv1 hv2 e1 e3 e4 e6 hd;go_enter Tryz.func86,Tryz.ntmps86;go_wp2_with fail;rw [show((w.alloc (.cells #[.int .i64 s.width,.slice a1 _ c1] 52)).alloc (.cells #[.int .i64 t.width,.slice a2 _ c2] 52)).alloc (.cells #[.int .i64 0,.slice none 0 0] 52)=W from HW.o];refine(QT HV1.o _ _ (R1.o.below BB.o)).mono ?_;rintro e v1 ⟨rfl,b1⟩;have B1:=Zh (BB.o.trans (b1.mono BB.o.size));have M11:=Zh (Qc H1.o b1 (Qb H1.o));have M12:=Zh (Qc H2.o b1 (Qb H2.o));have M13:=Zh (Qc H3.o b1 (Qb H3.o));clear b1;clear x0 x1 y0 y1 z0 z1 f0 f1;have x0:=(Qa M11.o).1 0;have x1:=(Qa M11.o).1 1;have y0:=(Qa M12.o).1 0;have y1:=(Qa M12.o).1 1;have z0:=(Qa M13.o).1 0;have z1:=(Qa M13.o).1 1;have f0:=(Qa M13.o).2 0;have f1:=(Qa M13.o).2 1;simp only [Zx,Zy,Zz] at x0 x1 y0 y1 z0 z1;go_wp2_with fail;refine(QT HV2.o _ _ (R2.o.below B1.o)).mono ?_;rintro e v2 ⟨rfl,b2⟩;have B2:=Zh (B1.o.trans (b2.mono B1.o.size));have M21:=Zh (Qc M11.o b2 (Qb M11.o));have M22:=Zh (Qc M12.o b2 (Qb M12.o));have M23:=Zh (Qc M13.o b2 (Qb M13.o));clear b2;clear x0 x1 y0 y1 z0 z1 f0 f1;have x0:=(Qa M21.o).1 0;have x1:=(Qa M21.o).1 1;have y0:=(Qa M22.o).1 0;have y1:=(Qa M22.o).1 1;have z0:=(Qa M23.o).1 0;have z1:=(Qa M23.o).1 1;have f0:=(Qa M23.o).2 0;have f1:=(Qa M23.o).2 1;simp only [Zx,Zy,Zz] at x0 x1 y0 y1 z0 z1;go_wp2_with fail;have hz0:w.heap.size+1+1<v2.heap.size:=Qb M23.o;have hz1:w.heap.size≠v2.heap.size:=by omega
 have hz2:w.heap.size<v2.heap.size:=by omega
 go_region
 ·have I0:=Zh (show XIn w v2 ((v2.alloc (.cells (zc (Qj m2)) 139)).alloc (.cells #[.int .i64 s.width,.slice (some ⟨v2.heap.size,0,none⟩) (Qj m2) (Qj m2)] 52)).drew (w.heap.size+1+1) (v2.heap.size+1) v2.heap.size m2 s.width (Qdc f s t 0) from⟨((B2.o.alloc (by omega) _).alloc (by simp;omega) _).drew,((Zb).alloc (by simp) _).drew,Qz _ (Qz _ M23.o),Qda _ _,by rw [Qjf N1.o];exact Qz _ (heap_alloc_new _ _),by omega,by omega,by omega,by omega,by omega,by omega,by omega⟩);obtain⟨V,hV⟩:=Ze (((v2.alloc (.cells (zc (Qj m2)) 139)).alloc (.cells #[.int .i64 s.width,.slice (some ⟨v2.heap.size,0,none⟩) (Qj m2) (Qj m2)] 52)).drew);rw [hV] at I0;have HV:=Zh hV;have hrc:w.heap.size+1+1≠(v2.heap.size+1):=by omega
  have h0c:w.heap.size≠(v2.heap.size+1):=by omega
  have h1c:w.heap.size+1≠(v2.heap.size+1):=by omega
  have h0g:w.heap.size≠v2.heap.size:=by omega
  have h1g:w.heap.size+1≠v2.heap.size:=by omega
  have hcg:(v2.heap.size+1)≠v2.heap.size:=by omega
  have hcur:=I0.o.cur;clear hV x0 x1 y0 y1 z0 z1 f0 f1;have x0:=(Qa hcur).1 0;have x1:=(Qa hcur).1 1;simp only [Zx,Zy,Zz] at x0 x1;clear hcur;go_wp2_with fail;rw [show((v2.alloc (.cells (zc (Qj m2)) 139)).alloc (.cells #[.int .i64 s.width,.slice (some ⟨v2.heap.size,0,none⟩) (Qj m2) (Qj m2)] 52)).drew=V from HV.o];go_loopw [37] (fun y wr=>∃i:Nat,i≤Qj m2∧y=.int .i64 i∧Hid (XIn w v2 wr (w.heap.size+1+1) (v2.heap.size+1) v2.heap.size m2 s.width (Qdc f s t i))) (fun y _=>Qj m2-(intOf y).toNat)
  case atStart=>exact⟨0,Nat.zero_le _,rfl,I0.o⟩
  case round=>
   clear I0 x0 x1;obtain⟨i,hi,rfl,I⟩:=hrel;have J0:=Zh (Qa I.o.cur);have x0:=J0.o.1 0;have x1:=J0.o.1 1;have J1:=Zh (Qa I.o.res);have z0:=J1.o.1 0;have z1:=J1.o.1 1;have f0:=J1.o.2 0;have f1:=J1.o.2 1;simp only [Zx,Zy,Zz] at x0 x1 z0 z1;by_cases hlt:i<Qj m2
   ·obtain⟨x,hx⟩:∃x,s.words[i]? = some x:=⟨_,List.getElem?_eq_getElem (show i<s.words.length by have:=N1.o;omega)⟩;obtain⟨y,hy⟩:∃y,t.words[i]? = some y:=⟨_,List.getElem?_eq_getElem (show i<t.words.length by have:=N2.o;omega)⟩;obtain⟨b1,o1,rfl,hb1,-,hc1⟩:=K1.o i x hx;obtain⟨b2,o2,rfl,hb2,-,hc2⟩:=K2.o i y hy;have g1:=(I.o.below.cell (p:=⟨b1,o1+i,none⟩) hb1).trans hc1;have g2:=(I.o.below.cell (p:=⟨b2,o2+i,none⟩) hb2).trans hc2;have hxl:=OK1.o x (List.mem_of_getElem? hx);have hyl:=OK2.o y (List.mem_of_getElem? hy);have p1:=(Qa (Qc M21.o I.o.keep (Qb M21.o))).1 1;have p2:=(Qa (Qc M22.o I.o.keep (Qb M22.o))).1 1;simp only [Zx,Zy,Zz] at p1 p2;have hgg:=I.o.own;have q0:=(Qa hgg).1 i;have q1:=(Qa hgg).2 i;obtain⟨z,hz⟩:∃z,(Qdc f s t i)[i]? = some z:=⟨_,List.getElem?_eq_getElem (by rw [QTc (N1.o.trans N2.o.symm) (by rw [N1.o];exact hi),N1.o];exact hlt)⟩;rw [List.getElem?_toArray,List.getElem?_map,hz] at q0;simp only [Option.map_some] at q0;have HS:=Zh (Qkf (f:=f) hx hy (N1.o.trans N2.o.symm));have i1:(0:Int)≤(i:Int):=by omega
    have i2:(i:Int)<(Qj m2:Nat):=by omega
    have hc0:b1≠v2.heap.size:=by omega
    have hc9:b2≠v2.heap.size:=by omega
    clear hx hy hz hgg hc1 hc2;go_wp2_with fail;have hfl:f x y<18446744073709551616:=(HF.o x y wr hxl hyl).1;have k0:=Ne.symm h0g;have k4:=Ne.symm hz1;have k1:=Ne.symm h1g;have k2:=Ne.symm hc0;have k3:=Ne.symm hc9;go_region_held3 (fun w'=>w'.cell? ⟨(v2.heap.size+1),1,none⟩=some (.slice (some ⟨v2.heap.size,0,none⟩) (Qj m2) (Qj m2))∧w'.cell? ⟨w.heap.size,1,none⟩=some (.slice (some ⟨b1,o1,none⟩) (Qj m2) c1)∧w'.cell? ⟨w.heap.size+1,1,none⟩=some (.slice (some ⟨b2,o2,none⟩) (Qj m2) c2)∧w'.cell? ⟨b1,o1+i,none⟩=some (uv x)∧w'.cell? ⟨b2,o2+i,none⟩=some (uv y)) (first|go_keep|exact⟨Qqa hcg x1,Qqa h0g p1,Qqa h1g p2,Qqa hc0 g1,Qqa hc9 g2⟩|exact⟨QM h0g p1,QM h1g p2,QM hc0 g1,QM hc9 g2⟩|exact⟨QM hcg x1,QM h0g p1,QM h1g p2,QM hc0 g1,QM hc9 g2⟩) ((go_at_call 152;refine((HF.o x y _ hxl hyl).2).mono ?_;rintro e w9 ⟨rfl,rfl⟩))
    all_goals
     go_wp2;go_roundw
     case rel=>exact⟨i+1,by omega,by go_num,by rw [HS.o];exact((I.o.put i (f x y)).drew 1)⟩
     case measure=>simp [intOf];omega
   ·obtain rfl:i=Qj m2:=by omega
    have HFI:=Zh (I.o.fin (.int .i64 s.width) (.slice (some ⟨v2.heap.size,0,none⟩) (Qj m2) (Qj m2)));have HZ:=Zh (show Qdc f s t (Qj m2)=(zipS f s t).words by rw [←N1.o];exact QKf (N1.o.trans N2.o.symm));have HZF:=Zh (Qee (fun a b ha hb=>(HF.o a b w ha hb).1) F1.o F2.o HD.o).1;go_wp2;refine bodyPost_ret (v:=.tuple #[setV (zipS f s t) (.slice (some ⟨v2.heap.size,0,none⟩) (Qj m2) (Qj m2)),.int .i64 0]) (by simp [results,Tryz.results86,go_sem,z0,z1,zipS]) rfl ⟨_,rfl,.inr ⟨v2.heap.size,?_,by have:=I.o.old.2.2.1;exact this,?_,HZF.o⟩,HFI.o.2⟩
    ·rw [←HZ.o,QTc (N1.o.trans N2.o.symm) (by rw [N1.o];exact Nat.le_refl _),N1.o]
    ·rw [←HZ.o];exact HFI.o.1
 ·have I0:=Zh (show XIn w v2 ((v2.alloc (.cells #[.int .i64 s.width,.slice (some ⟨v2.heap.size+1,0,none⟩) (Qj m2) (Qj m2)] 52)).alloc (.cells (zc (Qj m2)) 139)).drew (w.heap.size+1+1) v2.heap.size (v2.heap.size+1) m2 s.width (Qdc f s t 0) from⟨((B2.o.alloc (by omega) _).alloc (by simp;omega) _).drew,((Zb).alloc (by simp) _).drew,Qz _ (Qz _ M23.o),Qz _ (heap_alloc_new _ _),by rw [Qjf N1.o];exact Qda _ _,by omega,by omega,by omega,by omega,by omega,by omega,by omega⟩);obtain⟨V,hV⟩:=Ze (((v2.alloc (.cells #[.int .i64 s.width,.slice (some ⟨v2.heap.size+1,0,none⟩) (Qj m2) (Qj m2)] 52)).alloc (.cells (zc (Qj m2)) 139)).drew);rw [hV] at I0;have HV:=Zh hV;have hrc:w.heap.size+1+1≠v2.heap.size:=by omega
  have h0c:w.heap.size≠v2.heap.size:=by omega
  have h1c:w.heap.size+1≠v2.heap.size:=by omega
  have h0g:w.heap.size≠(v2.heap.size+1):=by omega
  have h1g:w.heap.size+1≠(v2.heap.size+1):=by omega
  have hcg:v2.heap.size≠(v2.heap.size+1):=by omega
  have hcur:=I0.o.cur;clear hV x0 x1 y0 y1 z0 z1 f0 f1;have x0:=(Qa hcur).1 0;have x1:=(Qa hcur).1 1;simp only [Zx,Zy,Zz] at x0 x1;clear hcur;go_wp2_with fail;rw [show((v2.alloc (.cells #[.int .i64 s.width,.slice (some ⟨v2.heap.size+1,0,none⟩) (Qj m2) (Qj m2)] 52)).alloc (.cells (zc (Qj m2)) 139)).drew=V from HV.o];go_loopw [37] (fun y wr=>∃i:Nat,i≤Qj m2∧y=.int .i64 i∧Hid (XIn w v2 wr (w.heap.size+1+1) v2.heap.size (v2.heap.size+1) m2 s.width (Qdc f s t i))) (fun y _=>Qj m2-(intOf y).toNat)
  case atStart=>exact⟨0,Nat.zero_le _,rfl,I0.o⟩
  case round=>
   clear I0 x0 x1;obtain⟨i,hi,rfl,I⟩:=hrel;have J0:=Zh (Qa I.o.cur);have x0:=J0.o.1 0;have x1:=J0.o.1 1;have J1:=Zh (Qa I.o.res);have z0:=J1.o.1 0;have z1:=J1.o.1 1;have f0:=J1.o.2 0;have f1:=J1.o.2 1;simp only [Zx,Zy,Zz] at x0 x1 z0 z1;by_cases hlt:i<Qj m2
   ·obtain⟨x,hx⟩:∃x,s.words[i]? = some x:=⟨_,List.getElem?_eq_getElem (show i<s.words.length by have:=N1.o;omega)⟩;obtain⟨y,hy⟩:∃y,t.words[i]? = some y:=⟨_,List.getElem?_eq_getElem (show i<t.words.length by have:=N2.o;omega)⟩;obtain⟨b1,o1,rfl,hb1,-,hc1⟩:=K1.o i x hx;obtain⟨b2,o2,rfl,hb2,-,hc2⟩:=K2.o i y hy;have g1:=(I.o.below.cell (p:=⟨b1,o1+i,none⟩) hb1).trans hc1;have g2:=(I.o.below.cell (p:=⟨b2,o2+i,none⟩) hb2).trans hc2;have hxl:=OK1.o x (List.mem_of_getElem? hx);have hyl:=OK2.o y (List.mem_of_getElem? hy);have p1:=(Qa (Qc M21.o I.o.keep (Qb M21.o))).1 1;have p2:=(Qa (Qc M22.o I.o.keep (Qb M22.o))).1 1;simp only [Zx,Zy,Zz] at p1 p2;have hgg:=I.o.own;have q0:=(Qa hgg).1 i;have q1:=(Qa hgg).2 i;obtain⟨z,hz⟩:∃z,(Qdc f s t i)[i]? = some z:=⟨_,List.getElem?_eq_getElem (by rw [QTc (N1.o.trans N2.o.symm) (by rw [N1.o];exact hi),N1.o];exact hlt)⟩;rw [List.getElem?_toArray,List.getElem?_map,hz] at q0;simp only [Option.map_some] at q0;have HS:=Zh (Qkf (f:=f) hx hy (N1.o.trans N2.o.symm));have i1:(0:Int)≤(i:Int):=by omega
    have i2:(i:Int)<(Qj m2:Nat):=by omega
    have hc0:b1≠(v2.heap.size+1):=by omega
    have hc9:b2≠(v2.heap.size+1):=by omega
    clear hx hy hz hgg hc1 hc2;go_wp2_with fail;have hfl:f x y<18446744073709551616:=(HF.o x y wr hxl hyl).1;have k0:=Ne.symm h0g;have k4:=Ne.symm hz1;have k1:=Ne.symm h1g;have k2:=Ne.symm hc0;have k3:=Ne.symm hc9;go_region_held3 (fun w'=>w'.cell? ⟨v2.heap.size,1,none⟩=some (.slice (some ⟨(v2.heap.size+1),0,none⟩) (Qj m2) (Qj m2))∧w'.cell? ⟨w.heap.size,1,none⟩=some (.slice (some ⟨b1,o1,none⟩) (Qj m2) c1)∧w'.cell? ⟨w.heap.size+1,1,none⟩=some (.slice (some ⟨b2,o2,none⟩) (Qj m2) c2)∧w'.cell? ⟨b1,o1+i,none⟩=some (uv x)∧w'.cell? ⟨b2,o2+i,none⟩=some (uv y)) (first|go_keep|exact⟨Qqa hcg x1,Qqa h0g p1,Qqa h1g p2,Qqa hc0 g1,Qqa hc9 g2⟩|exact⟨QM h0g p1,QM h1g p2,QM hc0 g1,QM hc9 g2⟩|exact⟨QM hcg x1,QM h0g p1,QM h1g p2,QM hc0 g1,QM hc9 g2⟩) ((go_at_call 152;refine((HF.o x y _ hxl hyl).2).mono ?_;rintro e w9 ⟨rfl,rfl⟩))
    all_goals
     go_wp2;go_roundw
     case rel=>exact⟨i+1,by omega,by go_num,by rw [HS.o];exact((I.o.put i (f x y)).drew 1)⟩
     case measure=>simp [intOf];omega
   ·obtain rfl:i=Qj m2:=by omega
    have HFI:=Zh (I.o.fin (.int .i64 s.width) (.slice (some ⟨(v2.heap.size+1),0,none⟩) (Qj m2) (Qj m2)));have HZ:=Zh (show Qdc f s t (Qj m2)=(zipS f s t).words by rw [←N1.o];exact QKf (N1.o.trans N2.o.symm));have HZF:=Zh (Qee (fun a b ha hb=>(HF.o a b w ha hb).1) F1.o F2.o HD.o).1;go_wp2;refine bodyPost_ret (v:=.tuple #[setV (zipS f s t) (.slice (some ⟨(v2.heap.size+1),0,none⟩) (Qj m2) (Qj m2)),.int .i64 0]) (by simp [results,Tryz.results86,go_sem,z0,z1,zipS]) rfl ⟨_,rfl,.inr ⟨(v2.heap.size+1),?_,by have:=I.o.old.2.2.1;exact this,?_,HZF.o⟩,HFI.o.2⟩
    ·rw [←HZ.o,QTc (N1.o.trans N2.o.symm) (by rw [N1.o];exact Nat.le_refl _),N1.o]
    ·rw [←HZ.o];exact HFI.o.1
end
section
open Go.RowKit
variable [Base]
theorem Qbi (s t:QSet) (u1 u2:Value) (w:World) (h1:Qi w u1 s.words) (h2:Qi w u2 t.words):
  Calls Tryz.prog 93 #[setV s u1,setV t u2] w (SetE (QIa (clr) s t) w):=by
 obtain⟨a1,n1,c1,rfl⟩:∃a n c,u1=.slice a n c:=by obtain⟨a,c,rfl,-⟩:=h1.cell;exact⟨_,_,_,rfl⟩
 obtain⟨a2,n2,c2,rfl⟩:∃a n c,u2=.slice a n c:=by obtain⟨a,c,rfl,-⟩:=h2.cell;exact⟨_,_,_,rfl⟩
 have R1:=Zh h1;have R2:=Zh h2;obtain⟨W,hW⟩:=Ze (((w.alloc (.cells #[.int .i64 s.width,.slice a1 n1 c1] 52)).alloc (.cells #[.int .i64 t.width,.slice a2 n2 c2] 52)).alloc (.cells #[.int .i64 0,.slice none 0 0] 52));have B0:Below w.heap.size w W:=by rw [←hW];exact((Zb).alloc (by simp) _).alloc (by simp;omega) _
 have L3:W.heap[w.heap.size+1+1]? = some (.cells #[.int .i64 0,.slice none 0 0] 52 (0,0)):=by rw [←hW];have k:=heap_alloc_new ((w.alloc (.cells #[.int .i64 s.width,.slice a1 n1 c1] 52)).alloc (.cells #[.int .i64 t.width,.slice a2 n2 c2] 52)) (.cells #[.int .i64 0,.slice none 0 0] 52);simp only [World.size_alloc] at k;exact k
 have HW:=Zh hW;have BB:=Zh B0;have H3:=Zh L3;clear hW B0 L3 h1 h2;go_enter Tryz.func93,Tryz.ntmps93;go_wp2_with fail;rw [show((w.alloc (.cells #[.int .i64 s.width,.slice a1 n1 c1] 52)).alloc (.cells #[.int .i64 t.width,.slice a2 n2 c2] 52)).alloc (.cells #[.int .i64 0,.slice none 0 0] 52)=W from HW.o];refine(Qko (clr) QKt s t _ _ _ (R1.o.below BB.o) (R2.o.below BB.o)).mono ?_;rintro e v ⟨u,rfl,hu,b1⟩;obtain⟨ua,un,uc,rfl⟩:=hu.shape;obtain⟨q,hq⟩:=Ze (QIa (clr) s t);rw [hq] at hu ⊢;have HU:=Zh hu;have L3:=Zh (Qc H3.o b1 (Qb H3.o));have B1:=Zh (BB.o.trans (b1.mono BB.o.size));have z0:=(Qa L3.o).1 0;have z1:=(Qa L3.o).1 1;have f0:=(Qa L3.o).2 0;have f1:=(Qa L3.o).2 1;simp only [Zx,Zy,Zz] at z0 z1;have hsz:=Qb L3.o;have HLT:=Zh (Qb H3.o);have HQ:=Zh hq;clear hu b1 hq;go_wp2;refine bodyPost_ret (v:=.tuple #[setV q.1 (.slice ua un uc),.int .i64 q.2]) (by simp [results,Tryz.results93,go_sem,z0,z1]) rfl ?_;rw [HQ.o];exact⟨_,rfl,((HU.o.setCell HLT.o).setCell HLT.o).mono BB.o.size,(B1.o.setCell (p:=⟨w.heap.size+1+1,0,none⟩) (by show w.heap.size≤w.heap.size+1+1;omega) _).setCell (p:=⟨w.heap.size+1+1,1,none⟩) (by show w.heap.size≤w.heap.size+1+1;omega) _⟩
end
section
open Go.RowKit
variable [Base]
theorem QIr (l1 l2:List Nat) (u1 u2:Value) (w:World) (h1:Qi w u1 l1) (h2:Qi w u2 l2):Calls Tryz.prog 95 #[u1,u2] w (Qia (decide (l1=l2)) w):=by
 obtain⟨a1,c1,rfl,hm,-,-,hk1⟩:=h1.cell;obtain⟨a2,c2,rfl,hm2,-,-,hk2⟩:=h2.cell;by_cases hl:l1.length=l2.length
 ·obtain⟨n,hn⟩:=Ze l1.length;have hn2:l2.length=n:=hl▸hn;rw [hn] at hm;rw [hn2,hn];obtain⟨d,hd⟩:=Ze (decide (l1=l2));rw [hd];have HD:=Zh hd;have HN:=Zh hn;have HN2:=Zh hn2;have HK1:=Zh hk1;have HK2:=Zh hk2;unfold maxLen at hm;clear hk1 hk2 h1 h2 hd hn hn2 hl hm2;go_enter Tryz.func95,Tryz.ntmps95;have hnn:((n:Int) !=(n:Int))=false:=by simp
  go_wp2_with fail;go_loopw [13] (fun y wr=>∃i:Nat,i≤n∧y=.int .i64 i∧Hid (l1.take i=l2.take i)∧Hid (Below w.heap.size w wr)) (fun y _=>n-(intOf y).toNat)
  case atStart=>exact⟨0,Nat.zero_le _,rfl,rfl,Below.refl _ _⟩
  case round=>
   obtain⟨i,hi,rfl,HE,HB⟩:=hrel;by_cases hlt:i<n
   ·obtain⟨x,hx⟩:∃x,l1[i]? = some x:=⟨_,List.getElem?_eq_getElem (show i<l1.length by have:=HN.o;omega)⟩;obtain⟨y,hy⟩:∃y,l2[i]? = some y:=⟨_,List.getElem?_eq_getElem (show i<l2.length by have:=HN2.o;omega)⟩;obtain⟨b1,o1,rfl,hb1,-,hc1⟩:=HK1.o i x hx;obtain⟨b2,o2,rfl,hb2,-,hc2⟩:=HK2.o i y hy;have g1:=(HB.o.cell (p:=⟨b1,o1+i,none⟩) hb1).trans hc1;have g2:=(HB.o.cell (p:=⟨b2,o2+i,none⟩) hb2).trans hc2;have e1:(0:Int)≤(i:Int):=by omega
    have e2:(i:Int)<(n:Int):=by omega
    have HX:=Zh hx;have HY:=Zh hy;clear hc1 hc2 hx hy HK1 HK2;by_cases hxy:x=y
    ·subst hxy;have q1:((x:Int) !=(x:Int))=false:=by simp
     have HE2:=Zh (show l1.take (i+1)=l2.take (i+1) by rw [List.take_add_one,List.take_add_one,HE.o,HX.o,HY.o]);go_wp2;go_quiet (fail);go_wp2;go_roundw
     case rel=>exact⟨i+1,by omega,by go_num,HE2,Qp HB.o _⟩
     case measure=>simp [intOf];omega
    ·have q1:((x:Int) !=(y:Int))=true:=by simp;omega
     obtain rfl:d=false:=by
      rw [←HD.o];have:l1≠l2:=by
       rintro rfl;have:=HX.o.symm.trans HY.o;injection this with this
       exact hxy this
      simpa using this
     go_wp2;go_quiet (fail);go_wp2;go_ret;exact⟨rfl,Qp HB.o _⟩
   ·obtain rfl:i=n:=by omega
    obtain rfl:d=true:=by
     rw [←HD.o];have h:=HE.o;rw [List.take_of_length_le (by have:=HN.o;omega),List.take_of_length_le (by have:=HN2.o;omega)] at h
     simpa using h
    go_wp2;go_ret;exact⟨rfl,HB.o⟩
 ·have hne:l1≠l2:=fun e=>hl (by rw [e])
  have hd:decide (l1=l2)=false:=by simpa using hne
  rw [hd];obtain⟨n,hn⟩:=Ze l1.length;obtain⟨m,hn2⟩:=Ze l2.length;have hlnm:n≠m:=by omega
  rw [hn,hn2];have hnn:((n:Int) !=(m:Int))=true:=by simp;omega
  clear hk1 hk2 h1 h2 hd hn hn2 hne hl hm hm2;go_enter Tryz.func95,Tryz.ntmps95;go_wp2;go_ret;exact⟨rfl,Below.refl _ _⟩
theorem Qrt {l1 l2:List Nat} {d:Bool} (h:decide (l1=l2)=d) (u1 u2:Value) (w:World) (h1:Qi w u1 l1) (h2:Qi w u2 l2):Calls Tryz.prog 95 #[u1,u2] w (Qia d w):=h▸QIr l1 l2 u1 u2 w h1 h2
def eqB (s t:QSet):Bool:=setB s&&setB t&&decide (s.width=t.width)&&decide (s.words=t.words)
theorem Qdp (s t:QSet) (u1 u2:Value) (w:World) (h1:Qi w u1 s.words) (h2:Qi w u2 t.words):Calls Tryz.prog 38 #[setV s u1,setV t u2] w (Qia (eqB s t) w):=by
 obtain⟨d,hd⟩:=Ze (eqB s t);rw [hd];have HD:=Zh hd;have hud:∀b:Bool,(undef=Value.bool b)=False:=fun b=>by simp [undef]
 clear hd;obtain⟨a1,c1,rfl,-,-,-,-⟩:=h1.cell;obtain⟨a2,c2,rfl,-,-,-,-⟩:=h2.cell;obtain⟨n1,hn1⟩:=Ze s.words.length;obtain⟨n2,hn2⟩:=Ze t.words.length;rw [hn1] at h1 ⊢;rw [hn2] at h2 ⊢;obtain⟨W,hW⟩:=Ze ((w.alloc (.cells #[.int .i64 s.width,.slice a1 n1 c1] 52)).alloc (.cells #[.int .i64 t.width,.slice a2 n2 c2] 52));have B0:Below w.heap.size w W:=by rw [←hW];exact(Zb).alloc (by simp) _
 have HB1:W.heap[w.heap.size]? = some (.cells #[.int .i64 s.width,.slice a1 n1 c1] 52 (0,0)):=by rw [←hW];exact Qz _ (heap_alloc_new _ _)
 have HB2:W.heap[w.heap.size+1]? = some (.cells #[.int .i64 t.width,.slice a2 n2 c2] 52 (0,0)):=by rw [←hW];exact Qda _ _
 have H1:=Zh HB1;have H2:=Zh HB2;have HW:=Zh hW;have BB:=Zh B0;have R1:=Zh (h1.below B0);have R2:=Zh (h2.below B0);clear hW HB1 HB2 B0 hn1 hn2 h1 h2;rcases Bool.eq_false_or_eq_true (setB s) with hv|hv
 rotate_left
 ·have HV:=Zh hv;obtain rfl:d=false:=by rw [←HD.o];unfold eqB;rw [hv];rfl
  clear hv;have E0:=Zh (Below.refl W.heap.size W);go_enter Tryz.func38,Tryz.ntmps38;have x0:=(Qa H1.o).1 0;have x1:=(Qa H1.o).1 1;have y0:=(Qa H2.o).1 0;have y1:=(Qa H2.o).1 1;simp only [Zx,Zy,Zz] at x0 x1 y0 y1;go_wp2_with fail;rw [show(w.alloc (.cells #[.int .i64 s.width,.slice a1 n1 c1] 52)).alloc (.cells #[.int .i64 t.width,.slice a2 n2 c2] 52)=W from HW.o];refine(QT HV.o _ _ R1.o).mono ?_;rintro e w1 ⟨rfl,b⟩;have E1:=Zh (E0.o.trans (b.mono E0.o.size));clear x0 x1 y0 y1 b;have G1:=Zh (Qc H1.o E1.o (Qb H1.o));have K1:=Zh (Qc H2.o E1.o (Qb H2.o));have x0:=(Qa G1.o).1 0;have x1:=(Qa G1.o).1 1;have y0:=(Qa K1.o).1 0;have y1:=(Qa K1.o).1 1;simp only [Zx,Zy,Zz] at x0 x1 y0 y1;go_wp2;go_ret;exact⟨rfl,BB.o.trans (E1.o.mono BB.o.size)⟩
 have HV:=Zh hv;rcases Bool.eq_false_or_eq_true (setB t) with ht|ht
 rotate_left
 ·have HT:=Zh ht;obtain rfl:d=false:=by rw [←HD.o];unfold eqB;rw [hv,ht];rfl
  clear hv ht;have E0:=Zh (Below.refl W.heap.size W);go_enter Tryz.func38,Tryz.ntmps38;have x0:=(Qa H1.o).1 0;have x1:=(Qa H1.o).1 1;have y0:=(Qa H2.o).1 0;have y1:=(Qa H2.o).1 1;simp only [Zx,Zy,Zz] at x0 x1 y0 y1;go_wp2_with fail;rw [show(w.alloc (.cells #[.int .i64 s.width,.slice a1 n1 c1] 52)).alloc (.cells #[.int .i64 t.width,.slice a2 n2 c2] 52)=W from HW.o];refine(QT HV.o _ _ R1.o).mono ?_;rintro e w1 ⟨rfl,b⟩;have E1:=Zh (E0.o.trans (b.mono E0.o.size));clear x0 x1 y0 y1 b;have G1:=Zh (Qc H1.o E1.o (Qb H1.o));have K1:=Zh (Qc H2.o E1.o (Qb H2.o));have x0:=(Qa G1.o).1 0;have x1:=(Qa G1.o).1 1;have y0:=(Qa K1.o).1 0;have y1:=(Qa K1.o).1 1;simp only [Zx,Zy,Zz] at x0 x1 y0 y1;go_wp2_with fail;refine(QT HT.o _ _ (R2.o.below E1.o)).mono ?_;rintro e w2 ⟨rfl,b⟩;have E2:=Zh (E1.o.trans (b.mono E1.o.size));clear x0 x1 y0 y1 b;have G2:=Zh (Qc H1.o E2.o (Qb H1.o));have K2:=Zh (Qc H2.o E2.o (Qb H2.o));have x0:=(Qa G2.o).1 0;have x1:=(Qa G2.o).1 1;have y0:=(Qa K2.o).1 0;have y1:=(Qa K2.o).1 1;simp only [Zx,Zy,Zz] at x0 x1 y0 y1;go_wp2;go_ret;exact⟨rfl,BB.o.trans (E2.o.mono BB.o.size)⟩
 have HT:=Zh ht;by_cases hw:s.width=t.width;rotate_left
 ·obtain rfl:d=false:=by rw [←HD.o];unfold eqB;rw [hv,ht];simp [hw]
  have q1:(s.width==t.width)=false:=by simpa using hw
  clear hv ht;have E0:=Zh (Below.refl W.heap.size W);go_enter Tryz.func38,Tryz.ntmps38;have x0:=(Qa H1.o).1 0;have x1:=(Qa H1.o).1 1;have y0:=(Qa H2.o).1 0;have y1:=(Qa H2.o).1 1;simp only [Zx,Zy,Zz] at x0 x1 y0 y1;go_wp2_with fail;rw [show(w.alloc (.cells #[.int .i64 s.width,.slice a1 n1 c1] 52)).alloc (.cells #[.int .i64 t.width,.slice a2 n2 c2] 52)=W from HW.o];refine(QT HV.o _ _ R1.o).mono ?_;rintro e w1 ⟨rfl,b⟩;have E1:=Zh (E0.o.trans (b.mono E0.o.size));clear x0 x1 y0 y1 b;have G1:=Zh (Qc H1.o E1.o (Qb H1.o));have K1:=Zh (Qc H2.o E1.o (Qb H2.o));have x0:=(Qa G1.o).1 0;have x1:=(Qa G1.o).1 1;have y0:=(Qa K1.o).1 0;have y1:=(Qa K1.o).1 1;simp only [Zx,Zy,Zz] at x0 x1 y0 y1;go_wp2_with fail;refine(QT HT.o _ _ (R2.o.below E1.o)).mono ?_;rintro e w2 ⟨rfl,b⟩;have E2:=Zh (E1.o.trans (b.mono E1.o.size));clear x0 x1 y0 y1 b;have G2:=Zh (Qc H1.o E2.o (Qb H1.o));have K2:=Zh (Qc H2.o E2.o (Qb H2.o));have x0:=(Qa G2.o).1 0;have x1:=(Qa G2.o).1 1;have y0:=(Qa K2.o).1 0;have y1:=(Qa K2.o).1 1;simp only [Zx,Zy,Zz] at x0 x1 y0 y1;go_wp2;go_ret;exact⟨rfl,BB.o.trans (E2.o.mono BB.o.size)⟩
 ·have HL:Hid (decide (s.words=t.words)=d):=Zh (by rw [←HD.o];unfold eqB;rw [hv,ht];simp [hw]);have q1:(s.width==t.width)=true:=by simpa using hw
  clear hv ht hw;have E0:=Zh (Below.refl W.heap.size W);go_enter Tryz.func38,Tryz.ntmps38;have x0:=(Qa H1.o).1 0;have x1:=(Qa H1.o).1 1;have y0:=(Qa H2.o).1 0;have y1:=(Qa H2.o).1 1;simp only [Zx,Zy,Zz] at x0 x1 y0 y1;go_wp2_with fail;rw [show(w.alloc (.cells #[.int .i64 s.width,.slice a1 n1 c1] 52)).alloc (.cells #[.int .i64 t.width,.slice a2 n2 c2] 52)=W from HW.o];refine(QT HV.o _ _ R1.o).mono ?_;rintro e w1 ⟨rfl,b⟩;have E1:=Zh (E0.o.trans (b.mono E0.o.size));clear x0 x1 y0 y1 b;have G1:=Zh (Qc H1.o E1.o (Qb H1.o));have K1:=Zh (Qc H2.o E1.o (Qb H2.o));have x0:=(Qa G1.o).1 0;have x1:=(Qa G1.o).1 1;have y0:=(Qa K1.o).1 0;have y1:=(Qa K1.o).1 1;simp only [Zx,Zy,Zz] at x0 x1 y0 y1;go_wp2_with fail;refine(QT HT.o _ _ (R2.o.below E1.o)).mono ?_;rintro e w2 ⟨rfl,b⟩;have E2:=Zh (E1.o.trans (b.mono E1.o.size));clear x0 x1 y0 y1 b;have G2:=Zh (Qc H1.o E2.o (Qb H1.o));have K2:=Zh (Qc H2.o E2.o (Qb H2.o));have x0:=(Qa G2.o).1 0;have x1:=(Qa G2.o).1 1;have y0:=(Qa K2.o).1 0;have y1:=(Qa K2.o).1 1;simp only [Zx,Zy,Zz] at x0 x1 y0 y1;go_wp2_with fail;refine(Qrt HL.o _ _ _ (R1.o.below E2.o) (R2.o.below E2.o)).mono ?_;rintro e w3 ⟨rfl,b⟩;have E3:=Zh (E2.o.trans (b.mono E2.o.size));clear x0 x1 y0 y1 b;have G3:=Zh (Qc H1.o E3.o (Qb H1.o));have K3:=Zh (Qc H2.o E3.o (Qb H2.o));have x0:=(Qa G3.o).1 0;have x1:=(Qa G3.o).1 1;have y0:=(Qa K3.o).1 0;have y1:=(Qa K3.o).1 1;simp only [Zx,Zy,Zz] at x0 x1 y0 y1;go_wp2;go_ret;exact⟨rfl,BB.o.trans (E3.o.mono BB.o.size)⟩
theorem Qvr {s:QSet} {n:Nat} (hn:(memS s).length=n) (u:Value) (w:World) (h:Qi w u s.words):Calls Tryz.prog 94 #[setV s u] w (IntQ (n:Int) w):=hn▸Qep s u w h
theorem QWs {s t r:QSet} {n:Int} (h:QIa clr s t=(r,n)) (u1 u2:Value) (w:World) (h1:Qi w u1 s.words) (h2:Qi w u2 t.words):Calls Tryz.prog 93 #[setV s u1,setV t u2] w (SetE (r,n) w):=h▸Qbi s t u1 u2 w h1 h2
def subB (s t:QSet):Bool:=decide ((QIa clr s t).2=0)&&decide ((memS (QIa clr s t).1).length=0)
theorem Qln (s t:QSet) (u1 u2:Value) (w:World) (h1:Qi w u1 s.words) (h2:Qi w u2 t.words):Calls Tryz.prog 37 #[setV s u1,setV t u2] w (Qia (subB s t) w):=by
 have hud:∀b:Bool,(undef=Value.bool b)=False:=fun b=>by simp [undef]
 obtain⟨q,hq⟩:=Ze (QIa clr s t);obtain⟨q1,q2⟩:=q;obtain⟨d,hd⟩:=Ze (subB s t);rw [hd];unfold subB at hd;rw [hq] at hd;simp only at hd;have HD:=Zh hd;have HQ:=Zh hq;obtain⟨m,hm⟩:=Ze ((memS q1).length);rw [hm] at hd;have HM:=Zh hm;clear hm hq HD;have HD:=Zh hd;clear hd;obtain⟨a1,c1,rfl,-,-,-,-⟩:=h1.cell;obtain⟨a2,c2,rfl,-,-,-,-⟩:=h2.cell;obtain⟨n1,hn1⟩:=Ze s.words.length;obtain⟨n2,hn2⟩:=Ze t.words.length;rw [hn1] at h1 ⊢;rw [hn2] at h2 ⊢;obtain⟨W,hW⟩:=Ze ((w.alloc (.cells #[.int .i64 s.width,.slice a1 n1 c1] 52)).alloc (.cells #[.int .i64 t.width,.slice a2 n2 c2] 52));have B0:Below w.heap.size w W:=by rw [←hW];exact(Zb).alloc (by simp) _
 have HB1:W.heap[w.heap.size]? = some (.cells #[.int .i64 s.width,.slice a1 n1 c1] 52 (0,0)):=by rw [←hW];exact Qz _ (heap_alloc_new _ _)
 have HB2:W.heap[w.heap.size+1]? = some (.cells #[.int .i64 t.width,.slice a2 n2 c2] 52 (0,0)):=by rw [←hW];exact Qda _ _
 have H1:=Zh HB1;have H2:=Zh HB2;have HW:=Zh hW;have BB:=Zh B0;have R1:=Zh (h1.below B0);have R2:=Zh (h2.below B0);clear hW HB1 HB2 B0 hn1 hn2 h1 h2;have x0:=(Qa H1.o).1 0;have x1:=(Qa H1.o).1 1;have y0:=(Qa H2.o).1 0;have y1:=(Qa H2.o).1 1;simp only [Zx,Zy,Zz] at x0 x1 y0 y1;go_enter Tryz.func37,Tryz.ntmps37;go_wp2_with fail;rw [show(w.alloc (.cells #[.int .i64 s.width,.slice a1 n1 c1] 52)).alloc (.cells #[.int .i64 t.width,.slice a2 n2 c2] 52)=W from HW.o];refine(QWs HQ.o _ _ _ R1.o R2.o).mono ?_;rintro e v ⟨u,rfl,hu,b⟩;have HU:=Zh (NewS.words hu);obtain⟨ua,un,uc,rfl⟩:=hu.shape;have E1:=Zh (BB.o.trans (b.mono BB.o.size));simp only at HU ⊢;clear hu b x0 x1 y0 y1;by_cases h0:q2=0
 ·subst h0;go_wp2_with fail;refine(Qvr HM.o _ _ (HU.o.below (Zb))).mono ?_;rintro e w2 ⟨rfl,b⟩;have E2:=Zh ((E1.o.alloc E1.o.size _).trans (b.mono (Nat.le_trans E1.o.size (by simp))));clear b;by_cases hm0:m=0
  ·subst hm0;obtain rfl:d=true:=by rw [←HD.o];rfl
   go_wp2;go_ret;exact⟨rfl,E2.o⟩
  ·have g1:((m:Int)==0)=false:=by simp;omega
   obtain rfl:d=false:=by rw [←HD.o];simpa using hm0
   go_wp2;go_ret;exact⟨rfl,E2.o⟩
 ·have g1:(q2==0)=false:=by simpa using h0
  obtain rfl:d=false:=by rw [←HD.o];simp [h0]
  go_wp2;go_ret;exact⟨rfl,E1.o.alloc E1.o.size _⟩
end
section
variable [Base]
theorem Qwm {f:Nat→Nat→Nat} {g:Bool→Bool→Bool} (hfg:∀a b k,(f a b).testBit k=g (a.testBit k) (b.testBit k)) (hlt:∀a b,a<18446744073709551616→b<18446744073709551616→f a b<18446744073709551616) (h0:g false false=false)
  {m:Nat} {s t:QSet} (hs:Ok m s) (ht:Ok m t):∃r,QIa f s t=(r,0)∧Ok m r∧∀b:Nat,QE r.words b=g (QE s.words b) (QE t.words b):=by
 have hw:s.width=t.width:=hs.width.trans ht.width.symm;have hz:=Qee hlt hs.form ht.form hw;refine⟨zipS f s t,?_,⟨hz.1,Qzr hfg hlt h0 hs.ok ht.ok hs.words ht.words hw,hs.width⟩,fun b=>?_⟩
 ·unfold QIa;rw [if_neg (by rw [hs.ok,ht.ok];simp),if_neg (by simpa using hw)]
 ·rw [show(zipS f s t).words=List.zipWith f s.words t.words from rfl,QXk hfg hz.2 h0]
theorem or_ok {m:Nat} {s t:QSet} (hs:Ok m s) (ht:Ok m t):∃r,QIa (· ||| ·) s t=(r,0)∧Ok m r∧∀b:Nat,QE r.words b=(QE s.words b||QE t.words b):=Qwm Qcp (fun _ _=>Qxm) rfl hs ht
theorem QXo {m:Nat} {s t:QSet} (hs:Ok m s) (ht:Ok m t):∃r,QIa clr s t=(r,0)∧Ok m r∧∀b:Nat,QE r.words b=(QE s.words b&&!QE t.words b):=Qwm (g:=fun a b=>a&&!b) QAl (fun _ _ h _=>Qvl h) rfl hs ht
theorem QCj {m:Nat} {s:QSet} (h:Ok m s) {k:Nat} (hk:k<m):hasZ s (k:Int)=QE s.words k:=by
 unfold hasZ;rw [h.ok,h.width];simp [hk]
theorem QDs {m:Nat} {s:QSet} (h:Ok m s):eqB s s=true:=by unfold eqB;rw [h.ok];simp
theorem QQq {m:Nat} {s:QSet} (h:Ok m s) (hb:∀b:Nat,QE s.words b=false):memS s=[]:=by
 unfold memS;rw [if_pos h.ok,List.filter_eq_nil_iff];intro b _;rw [hb];simp
theorem Qfu {m:Nat} {s t:QSet} (hs:Ok m s) (ht:Ok m t) (h:∀b:Nat,QE s.words b=true→QE t.words b=true):subB s t=true:=by
 obtain⟨r,e,hr,hb⟩:=QXo hs ht;unfold subB;rw [e,QQq hr fun b=>?_]
 ·rfl
 ·rw [hb]
  cases h1:QE s.words b
  ·rfl
  ·rw [h b h1];rfl
end
section
open Go.RowKit
variable [Base]
def RowW (B:Nat) (w:World) (g cap:Nat) (l:List Nat):Prop:=w.ownsRow B 139 1 (.slice (some ⟨g,0,none⟩) l.length cap) l.length (l.map uv)
theorem RowW.own {B:Nat} {w:World} {g cap k:Nat} {l:List Nat} (h:RowW B w g cap l) (hk:l.length=k):w.ownsRow B 139 1 (.slice (some ⟨g,0,none⟩) k cap) k (l.map uv):=by subst hk;exact h
def PutR (B g cap:Nat) (s:QSet) (w:World) (e:Ending) (w':World):Prop:=e=.returned (.tuple #[])∧RowW B w' g cap s.words∧ButB g w w'
theorem QPs {B:Nat} (s:QSet) (b g cap:Nat) (w:World) (hf:QUb s) (hb:(b:Int)<s.width) (ho:RowW B w g cap s.words) (hbs:Base.b≤B):
  Calls Tryz.prog 118 #[setV s (.slice (some ⟨g,0,none⟩) s.words.length cap),.int .i64 b] w (PutR B g cap (putS s b) w):=by
 obtain⟨m,hm,hm2,hk⟩:=Qka hf;obtain⟨k,hk2⟩:=Ze s.words.length;have hbk:b / 64<k:=by rw [←hk2,hk];unfold Qj;omega
 have hk5:k≤4:=by rw [←hk2,hk];unfold Qj;omega
 obtain⟨x,hx⟩:∃x,s.words[b / 64]? = some x:=⟨_,List.getElem?_eq_getElem (show b / 64<s.words.length by omega)⟩;have hxl:x<18446744073709551616:=hf.2.2 x (List.mem_of_getElem? hx);obtain⟨g',hg',-,hlt,-,hgc,hgf⟩:=QWd ho (by omega) hbs;injection hg' with hg'
 injection hg' with hg'
 subst hg';have g0:=hgc (b / 64) (by rw [List.length_map];omega);have g1:=hgf (b / 64);rw [List.getElem?_map,hx] at g0;simp only [Option.map_some] at g0;have q1:0≤(b:Int) / 64:=by omega
 have q2:(b:Int) / 64<k:=by omega
 have q3:((b:Int) / 64).toNat=b / 64:=by omega
 have q4:0≤(b:Int) % 64:=by omega
 have q5:IntKind.u64.wrap (b:Int)=(b:Int):=by rw [IntKind.wrap_u64];omega
 have q6:((b:Int) % 64).toNat=b % 64:=by omega
 obtain⟨y,hy⟩:=Ze (x ||| 2 ^ (b % 64));have q7:bits .or .u64 (x:Int) (IntKind.u64.wrap (2 ^ (b % 64)))=(y:Int):=by
  have h1:IntKind.u64.wrap (2 ^ (b % 64))=((2 ^ (b % 64):Nat):Int):=by
   have:=Qjd b;rw [show((2:Int) ^ (b % 64))=((2 ^ (b % 64):Nat):Int) by simp,IntKind.wrap_u64];generalize 2 ^ (b % 64)=p at *;omega
  rw [h1,Qhl x _ hxl (Qjd b),hy]
 have HY:=Zh hy;have HX:=Zh hx;have HG:=Zh ho;have hne:w.heap.size≠g:=by omega
 rw [hk2];have HK2:=Zh hk2;clear hk2;clear hy hx ho hf hm hk hgc hgf;go_enter Tryz.func118,Tryz.ntmps118;go_wp2_with fail;have HP:=Zh (show(putS s b).words=s.words.set (b / 64) y by
  unfold putS;rw [List.getD_eq_getElem?_getD,HX.o];simp [←HY.o])
 go_end0;refine⟨rfl,?_,?_⟩
 ·have h:=Qvd (RowW.own HG.o HK2.o) (b / 64) (uv y);unfold RowW;rw [HP.o,List.map_set,List.length_set,HK2.o];exact h.alloc _
 ·exact((ButB.refl g w).setCell _ _).alloc _
def remS (s:QSet) (b:Nat):QSet:=⟨s.width,s.words.set (b / 64) (clr (s.words.getD (b / 64) 0) (2 ^ (b % 64)))⟩
theorem Qqh {s:QSet} (h:QUb s) (b:Nat):QUb (remS s b):=by
 obtain⟨h1,h2,h3⟩:=h;refine⟨h1,?_,fun x hx=>?_⟩
 ·unfold QId remS at *;simp only [List.length_set];exact h2
 ·rcases List.mem_or_eq_of_mem_set hx with hx|rfl
  ·exact h3 x hx
  ·refine Qvl ?_;rw [List.getD_eq_getElem?_getD];rcases Nat.lt_or_ge (b / 64) s.words.length with hl|hl
   ·rw [List.getElem?_eq_getElem hl];exact h3 _ (List.getElem_mem _)
   ·rw [List.getElem?_eq_none hl];decide
theorem QMt {l:List Nat} {k b:Nat}:QE (l.set (k / 64) (clr (l.getD (k / 64) 0) (2 ^ (k % 64)))) b=(QE l b&&!decide (b=k)):=by
 unfold QE;rw [List.getD_eq_getElem?_getD,List.getD_eq_getElem?_getD,List.getElem?_set];by_cases h:k / 64=b / 64
 ·rw [if_pos h];by_cases hl:k / 64<l.length
  ·rw [if_pos (by omega)];simp only [Option.getD_some];rw [QAl,Nat.testBit_two_pow,←h,List.getD_eq_getElem?_getD]
   congr 2
   rw [Bool.eq_iff_iff];simp only [decide_eq_true_eq];omega
  ·rw [if_neg hl,List.getD_eq_getElem?_getD,List.getElem?_eq_none (by omega)];simp
 ·rw [if_neg h];have:¬b=k:=by intro e;subst e;exact h rfl
  simp [this,List.getD_eq_getElem?_getD]
theorem Qwt (s:QSet) (hf:QUb s) (b:Nat) (hb:(b:Int)<s.width):putS (remS s b) b=putS s b:=by
 refine Qrp rfl (Qnd (Qqh hf b) b) (Qnd hf b) fun k=>?_
 rw [Qah (Qqh hf b) hb,Qah hf hb,show QE (remS s b).words k=_ from QMt]
 cases QE s.words k <;> cases hd:decide (k=b) <;> rfl
def chgS (s:QSet) (b:Int) (m:Bool):QSet×Int:=if setB s=true then (if 0≤b∧b<s.width then ((if m=true then putS s b.toNat else remS s b.toNat),0) else (Qrd,3)) else (Qrd,1)
def QAd (r:QSet×Int) (w:World) (e:Ending) (w':World):Prop:=∃u,e=.returned (.tuple #[setV r.1 u,.int .i64 r.2])∧Qi w' u r.1.words∧Below w.heap.size w w'
theorem QJd.words {n:Int} {w w':World} {e:Ending} (h:QJd n w e w'):QAd (Qrd,n) w e w':=⟨.slice none 0 0,h.1,Qi.nil,h.2⟩
structure ChIn (B r c g cap:Nat) (w wx:World) (d:Int) (ws:List Nat):Prop where
 below:Below w.heap.size w wx
 res:wx.heap[r]? = some (.cells #[.int .i64 0,.slice none 0 0] 52 (0,0))
 cur:wx.heap[c]? = some (.cells #[.int .i64 d,.slice (some ⟨g,0,none⟩) ws.length cap] 52 (0,0))
 own:RowW B wx g cap ws
 old:w.heap.size≤r∧w.heap.size≤c∧w.heap.size≤g∧r≠c∧r≠g∧c≠g
theorem ChIn.word {B r c g cap:Nat} {w wx:World} {d:Int} {ws:List Nat} (h:ChIn B r c g cap w wx d ws) (j y:Nat):ChIn B r c g cap w (wx.setCell ⟨g,j,none⟩ (uv y)) d (ws.set j y):=by
 obtain⟨o1,o2,o3,o4,o5,o6⟩:=h.old;refine⟨h.below.setCell (p:=⟨g,j,none⟩) o3 _,?_,?_,?_,h.old⟩
 ·rw [Below.heap_setCell _ _ _ _ (by exact o5)];exact h.res
 ·rw [Below.heap_setCell _ _ _ _ (by exact o6),List.length_set];exact h.cur
 ·unfold RowW;rw [List.length_set,List.map_set];exact Qvd h.own j _
theorem ChIn.but {B r c g cap:Nat} {w wx w':World} {d:Int} {ws ws':List Nat} (h:ChIn B r c g cap w wx d ws) (hb:ButB g wx w') (ho:RowW B w' g cap ws') (hl:ws'.length=ws.length):ChIn B r c g cap w w' d ws':=by
 obtain⟨o1,o2,o3,o4,o5,o6⟩:=h.old;refine⟨⟨hb.os.trans h.below.os,hb.tape.trans h.below.tape,hb.output.trans h.below.output,Nat.le_trans h.below.size hb.size,fun k hk=>(hb.block k (by have:=h.below.size;omega) (by omega)).trans (h.below.block k hk)⟩,?_,?_,ho,h.old⟩
 ·rw [hb.block r (Qb h.res) o5];exact h.res
 ·rw [hb.block c (Qb h.cur) o6,hl];exact h.cur
theorem ChIn.fin {B r c g cap:Nat} {w wx:World} {d:Int} {ws:List Nat} {x y:Value} (h:ChIn B r c g cap w wx d ws) (hok:QLa ws) (hbs:Base.b≤w.heap.size):Qi ((wx.setCell ⟨r,0,none⟩ x).setCell ⟨r,1,none⟩ y) (.slice (some ⟨g,0,none⟩) ws.length cap) ws∧Below w.heap.size w ((wx.setCell ⟨r,0,none⟩ x).setCell ⟨r,1,none⟩ y):=by
 obtain⟨o1,o2,o3,o4,o5,o6⟩:=h.old;have hty:=Qv h.res;exact⟨Qi.keep ⟨Qg.of_owns h.own,hok⟩ (Qf.trans (Qf.setCell (U:=52) hty (by decide)) (Qf.setCell (U:=52) ((QS r).trans hty) (by decide))),
  (h.below.setCell (p:=⟨r,0,none⟩) o1 _).setCell (p:=⟨r,1,none⟩) o1 _⟩
theorem ChIn.mkA {r g cap:Nat} {w w3 v:World} {d:Int} {ws:List Nat} (h3:Below w.heap.size w w3) (hb:Below w3.heap.size w3 v) (hr:w3.heap[r]? = some (.cells #[.int .i64 0,.slice none 0 0] 52 (0,0))) (hw:w.heap.size≤r) (own:RowW w3.heap.size v g cap ws) (hg:w3.heap.size≤g∧g<v.heap.size):
  ChIn w3.heap.size r v.heap.size g cap w (v.alloc (.cells #[.int .i64 d,.slice (some ⟨g,0,none⟩) ws.length cap] 52)) d ws:=by
 have hlt:=Qb hr;have hs:=hb.size;have hs3:=h3.size;exact⟨(h3.trans (hb.mono hs3)).alloc (by omega) _,Qz _ (Qc hr hb hlt),heap_alloc_new _ _,Qnu own (Zb),hw,by omega,by omega,by omega,by omega,by omega⟩
theorem ChIn.mkB {r g cap:Nat} {w w3 v:World} {d:Int} {ws:List Nat} (h3:Below w.heap.size w w3) (hb:Below (w3.heap.size+1) (w3.alloc (.cells #[.int .i64 0,.slice none 0 0] 52)) v) (hr:w3.heap[r]? = some (.cells #[.int .i64 0,.slice none 0 0] 52 (0,0))) (hw:w.heap.size≤r) (own:RowW (w3.heap.size+1) v g cap ws) (hg:w3.heap.size+1≤g) (hbs:Base.b≤w.heap.size):
  ChIn w3.heap.size r w3.heap.size g cap w ((v.setCell ⟨w3.heap.size,0,none⟩ (.int .i64 d)).setCell ⟨w3.heap.size,1,none⟩ (.slice (some ⟨g,0,none⟩) ws.length cap)) d ws:=by
 have hlt:=Qb hr;have hs:=hb.size;simp only [World.size_alloc] at hs;have hs3:=h3.size;have hz:=Qc (heap_alloc_new w3 (.cells #[.int .i64 0,.slice none 0 0] 52)) hb (by omega);have hr2:=Qc (Qz (.cells #[.int .i64 0,.slice none 0 0] 52) hr) hb (by omega);have hty:=Qv hz;refine⟨(((h3.alloc hs3 _).trans (hb.mono (by omega))).setCell (p:=⟨w3.heap.size,0,none⟩) hs3 _).setCell (p:=⟨w3.heap.size,1,none⟩) hs3 _,?_,?_,Qza (Qza (Qao own (by omega)) hty (by decide)) ((QS _).trans hty) (by decide),hw,by omega,by omega,by omega,by omega,by omega⟩
 ·rw [Below.heap_setCell _ _ _ _ (by show r≠w3.heap.size;omega),Below.heap_setCell _ _ _ _ (by show r≠w3.heap.size;omega)];exact hr2
 ·simp [World.setCell,Array.getElem?_modify,hz]
theorem Qrn {B:Nat} {w v:World} (b:Below B w.drew v):Below B w v:=⟨b.os,b.tape,b.output,b.size,b.block⟩
theorem Qqn {n:Nat} {w v:World} {o:Obj} (b:Below (w.alloc o).drew.heap.size (w.alloc o).drew v) (h:w.heap.size+1=n):Below n (w.alloc o) v:=by
 rw [show(w.alloc o).drew.heap.size=n from(World.size_alloc w o).trans h] at b;exact⟨b.os,b.tape,b.output,b.size,b.block⟩
theorem QMi {w:World} {u:Value} {l:List Nat} (h:Qi w u l):Qi w.drew u l:=h.keep fun _ _ _ _ _ e=>e
def QHu (l:List Nat) (w:World) (e:Ending) (w':World):Prop:=∃g cap,e=.returned (.slice (some ⟨g,0,none⟩) l.length cap)∧RowW w.heap.size w' g cap l∧(w.heap.size≤g∧g<w'.heap.size)∧Below w.heap.size w w'
theorem QTp (l:List Nat) (u:Value) (w:World) (h:Qi w u l) (hn:l.length≤1000000) (h0:0<l.length) (hbs:Base.b≤w.heap.size):Calls Tryz.prog 91 #[u] w (QHu l w):=
 (QXh u l.length (l.map uv) w h.1 (by rw [List.length_map];omega) (QDh l) hn).mono fun e w' ⟨a,c,h1,h2,h3⟩=>by
  obtain⟨g,rfl,hg,hg2,-⟩:=QWd h2 h0 hbs
  exact⟨g,c,h1,h2,⟨hg,hg2⟩,h3⟩
theorem QQs {B:Nat} (s:QSet) (b g cap:Nat) (w:World) (hf:QUb s) (hb:(b:Int)<s.width) (ho:RowW B w g cap (remS s b).words) (hbs:Base.b≤B):
  Calls Tryz.prog 118 #[.agg #[.int .i64 s.width,.slice (some ⟨g,0,none⟩) s.words.length cap],.int .i64 b] w (PutR B g cap (putS s b) w):=by
 have h:=QPs (remS s b) b g cap w (Qqh hf b) hb ho hbs;rw [Qwt s hf b hb,show(remS s b).words.length=s.words.length by simp [remS]] at h;exact h
theorem Qjn (s:QSet) (b:Int) (m:Bool) (u:Value) (w:World) (h:Qi w u s.words) (hbs:Base.b≤w.heap.size):Calls Tryz.prog 181 #[setV s u,.int .i64 b,.bool m] w (QAd (chgS s b m) w):=by
 obtain⟨a,c,rfl,hm,hc,hcm,hk⟩:=h.cell;obtain⟨n,hn⟩:=Ze s.words.length;obtain⟨W,hW⟩:=Ze ((w.alloc (.cells #[.int .i64 s.width,.slice a n c] 52)).alloc (.cells #[.int .i64 0,.slice none 0 0] 52));have B0:Below w.heap.size w W:=by rw [←hW];exact(Zb).alloc (by simp) _
 have HB0:W.heap[w.heap.size]? = some (.cells #[.int .i64 s.width,.slice a n c] 52 (0,0)):=by rw [←hW];exact Qz _ (heap_alloc_new _ _)
 have HB1:W.heap[w.heap.size+1]? = some (.cells #[.int .i64 0,.slice none 0 0] 52 (0,0)):=by rw [←hW];exact Qda _ _
 have x0:=(Qa HB0).1 0;have x1:=(Qa HB0).1 1;simp only [Zx,Zy,Zz] at x0 x1;rw [hn] at hm hc ⊢;have H0:=Zh HB0;have H1:=Zh HB1;have HW:=Zh hW;have BB:=Zh B0;have HN:=Zh hn;have HR:=Zh (show Qi W (.slice a n c) s.words by rw [←hn] at *;exact h.below B0);have HOK:=Zh h.2;unfold maxLen at hm;clear hW HB0 HB1 B0 hk hn;rcases Bool.eq_false_or_eq_true (setB s) with hv|hv
 rotate_left
 ·have HV:=Zh hv;rw [show chgS s b m=(Qrd,1) by unfold chgS;rw [hv];rfl];clear hv;go_enter Tryz.func181,Tryz.ntmps181;go_wp2_with fail;rw [show(w.alloc (.cells #[.int .i64 s.width,.slice a n c] 52)).alloc (.cells #[.int .i64 0,.slice none 0 0] 52)=W from HW.o];refine(QT HV.o _ _ HR.o).mono ?_;rintro e w1 ⟨rfl,b1⟩;have B1:=Zh (BB.o.trans (b1.mono BB.o.size));have L1:=Zh (Qc H1.o b1 (Qb H1.o));have y0:=(Qa L1.o).1 0;have y1:=(Qa L1.o).1 1;have f0:=(Qa L1.o).2 0;have f1:=(Qa L1.o).2 1;simp only [Zx,Zy,Zz] at y0 y1;clear x0 x1 b1;go_wp2;exact bodyPost_ret (v:=.tuple #[QPd,.int .i64 1]) (by simp [results,Tryz.results181,go_sem,y0,y1]) rfl (QJd.words ⟨rfl,(B1.o.setCell (p:=⟨w.heap.size+1,0,none⟩) (by show w.heap.size≤w.heap.size+1;omega) _).setCell (p:=⟨w.heap.size+1,1,none⟩) (by show w.heap.size≤w.heap.size+1;omega) _⟩)
 have HV:=Zh hv;by_cases hin:0≤b∧b<s.width;rotate_left
 ·rw [show chgS s b m=(Qrd,3) by unfold chgS;rw [hv,if_pos rfl,if_neg hin]];have HI:=Zh (show(decide (0≤b)&&decide (b<s.width))=false by rw [Bool.eq_false_iff];simpa using hin);clear hv h hin;go_enter Tryz.func181,Tryz.ntmps181;go_wp2_with fail;rw [show(w.alloc (.cells #[.int .i64 s.width,.slice a n c] 52)).alloc (.cells #[.int .i64 0,.slice none 0 0] 52)=W from HW.o];refine(QT HV.o _ _ HR.o).mono ?_;rintro e w1 ⟨rfl,b1⟩;have B1:=Zh (BB.o.trans (b1.mono BB.o.size));have L1:=Zh (Qc H1.o b1 (Qb H1.o));have L0:=Zh (Qc H0.o b1 (Qb H0.o));clear x0 x1 b1;have x0:=(Qa L0.o).1 0;have x1:=(Qa L0.o).1 1;simp only [Zx,Zy,Zz] at x0 x1;go_wp2_with fail;refine(QUe (s:=s) (b:=false) HI.o a n c _).mono ?_;rintro e w2 ⟨rfl,b2⟩;have B2:=Zh (B1.o.trans (b2.mono B1.o.size));have L2:=Zh (Qc L1.o b2 (Qb L1.o));have y0:=(Qa L2.o).1 0;have y1:=(Qa L2.o).1 1;have f0:=(Qa L2.o).2 0;have f1:=(Qa L2.o).2 1;simp only [Zx,Zy,Zz] at y0 y1;clear x0 x1 b2;go_wp2;exact bodyPost_ret (v:=.tuple #[QPd,.int .i64 3]) (by simp [results,Tryz.results181,go_sem,y0,y1]) rfl (QJd.words ⟨rfl,(B2.o.setCell (p:=⟨w.heap.size+1,0,none⟩) (by show w.heap.size≤w.heap.size+1;omega) _).setCell (p:=⟨w.heap.size+1,1,none⟩) (by show w.heap.size≤w.heap.size+1;omega) _⟩)
 have hf:=QBa hv h.2;obtain⟨h1,h2⟩:=hin;obtain⟨k,rfl⟩:=Int.eq_ofNat_of_zero_le h1;obtain⟨m2,e1,e2,e3⟩:=Qka hf;have hkn:k / 64<n:=by have:=HN.o;unfold Qj at e3;omega
 have hn5:n≤4:=by have:=HN.o;unfold Qj at e3;omega
 have HI:=Zh (show(decide (0≤(k:Int))&&decide ((k:Int)<s.width))=true by simp;omega);obtain⟨x,hx⟩:∃x,s.words[k / 64]? = some x:=⟨_,List.getElem?_eq_getElem (by have:=HN.o;omega)⟩;have hxl:x<18446744073709551616:=hf.2.2 x (List.mem_of_getElem? hx);have HF:=Zh hf;have HX:=Zh hx;have HK:=Zh h2;have HC:Hid (chgS s k m=((if m=true then putS s k else remS s k),0)):=by
  refine Zh ?_;unfold chgS;rw [hv,if_pos rfl,if_pos ⟨h1,h2⟩];rfl
 rw [HC.o];obtain⟨R,hR⟩:=Ze ((if m=true then putS s k else remS s k));rw [hR];have HRR:=Zh hR;clear hR;clear hv h hf e1 e2 e3 hx h1 h2 HC;go_enter Tryz.func181,Tryz.ntmps181;go_wp2_with fail;rw [show(w.alloc (.cells #[.int .i64 s.width,.slice a n c] 52)).alloc (.cells #[.int .i64 0,.slice none 0 0] 52)=W from HW.o];refine(QT HV.o _ _ HR.o).mono ?_;rintro e w1 ⟨rfl,b1⟩;have B1:=Zh (BB.o.trans (b1.mono BB.o.size));have L1:=Zh (Qc H1.o b1 (Qb H1.o));have L0:=Zh (Qc H0.o b1 (Qb H0.o));have R1:=Zh (HR.o.below b1);clear x0 x1 b1;have x0:=(Qa L0.o).1 0;have x1:=(Qa L0.o).1 1;simp only [Zx,Zy,Zz] at x0 x1;go_wp2_with fail;refine(QUe (s:=s) (b:=true) HI.o a n c _).mono ?_;rintro e w2 ⟨rfl,b2⟩;have B2:=Zh (B1.o.trans (b2.mono B1.o.size));have M1:=Zh (Qc L1.o b2 (Qb L1.o));have M0:=Zh (Qc L0.o b2 (Qb L0.o));have R2:=Zh (R1.o.below b2);clear x0 x1 b2;have x0:=(Qa M0.o).1 0;have x1:=(Qa M0.o).1 1;simp only [Zx,Zy,Zz] at x0 x1;have hz0:w.heap.size<w2.heap.size:=Qb M0.o;have hbs2:Base.b≤w2.heap.size:=by omega
 have hbs3:Base.b≤w2.drew.heap.size:=hbs2;have hbs4:Base.b≤(w2.alloc (.cells #[.int .i64 0,.slice none 0 0] 52)).drew.heap.size:=by rw [show(w2.alloc (.cells #[.int .i64 0,.slice none 0 0] 52)).drew.heap.size=w2.heap.size+1 from World.size_alloc _ _];omega
 go_upto_region 5 with fail
 go_cut [8] from 20 to 25 (fun y8 wx=>∃o g cap wy,wy=wx∧y8=.pointer (some ⟨o,0,none⟩)∧Hid (ChIn w2.heap.size (w.heap.size+1) o g cap w wy s.width s.words))
 case first=>
  go_region_held3 (fun w'=>w'.cell? ⟨w.heap.size,0,none⟩=some (.int .i64 s.width)∧w'.cell? ⟨w.heap.size,1,none⟩=some (.slice a n c)) (first|go_keep|exact⟨Qqa (by omega) (Qqa (by omega) p0),Qqa (by omega) (Qqa (by omega) p1)⟩) ((first|(go_at_call 91;((with_reducible refine(QTp s.words (.slice a n c) w2.drew (QMi R2.o) (by have:=HN.o;omega) (by have:=HN.o;omega) hbs3).mono ?_));go_must (rintro e v ⟨g,cap,rfl,own,hg,b⟩;have OW:=Zh own;have HG:=Zh hg;have BV:=Zh (Qrn b);have p0:=(BV.o.cell (p:=⟨w.heap.size,0,none⟩) hz0).trans x0;have p1:=(BV.o.cell (p:=⟨w.heap.size,1,none⟩) hz0).trans x1;clear own hg b))|(go_at_call 91;((with_reducible refine(QTp s.words (.slice a n c) (w2.alloc (.cells #[.int .i64 0,.slice none 0 0] 52)).drew (QMi (R2.o.keep Qf.alloc)) (by have:=HN.o;omega) (by have:=HN.o;omega) hbs4).mono ?_));go_must (rintro e v ⟨g,cap,rfl,own,hg,b⟩;have OW:=Zh own;have HG:=Zh hg;have BV:=Zh (Qqn b rfl);have p:=Qc (Qz (.cells #[.int .i64 0,.slice none 0 0] 52) M0.o) BV.o (by omega);have p0:=(Qa p).1 0;have p1:=(Qa p).1 1;have z:=Qc (heap_alloc_new w2 (.cells #[.int .i64 0,.slice none 0 0] 52)) BV.o (by omega);have z0:=(Qa z).1 0;have z1:=(Qa z).1 1;have f0:=(Qa z).2 0;have f1:=(Qa z).2 1;simp only [Zx,Zy,Zz] at p0 p1 z0 z1;clear own hg b p z))))
  ·go_wp2_with fail;go_meet
   case rel=>exact⟨_,_,_,_,rfl,rfl,ChIn.mkA (w3:=w2) B2.o BV.o M1.o (Nat.le_succ _) OW.o HG.o⟩
  ·go_wp2_with fail;go_meet
   case rel=>exact⟨_,_,_,_,rfl,rfl,ChIn.mkB B2.o BV.o M1.o (Nat.le_succ _) (by have h:=OW.o;rw [show(w2.alloc (.cells #[.int .i64 0,.slice none 0 0] 52)).drew.heap.size=w2.heap.size+1 from World.size_alloc _ _] at h;exact h) (by have h:=HG.o.1;rw [show(w2.alloc (.cells #[.int .i64 0,.slice none 0 0] 52)).drew.heap.size=w2.heap.size+1 from World.size_alloc _ _] at h;exact h) hbs⟩
 case rest=>
  clear x0 x1;obtain⟨o,g,cap,wy,rfl,rfl,J0⟩:=hcut;obtain⟨g',hg',-,-,-,hgc,hgf⟩:=QWd J0.o.own (by have:=HN.o;omega) hbs2;injection hg' with hg'
  injection hg' with hg'
  subst hg';have g0:=hgc (k / 64) (by rw [List.length_map];have:=HN.o;omega);have g1:=hgf (k / 64);rw [List.getElem?_map,HX.o] at g0;simp only [Option.map_some] at g0;have c0:=(Qa J0.o.cur).1 0;have c1:=(Qa J0.o.cur).1 1;simp only [Zx,Zy,Zz] at c0 c1;have q1:0≤(k:Int) / 64:=by omega
  have q2:(k:Int) / 64<n:=by omega
  have q3:((k:Int) / 64).toNat=k / 64:=by omega
  have q4:0≤(k:Int) % 64:=by omega
  have hk256:k<256:=by obtain⟨m3,a1,a2,a3⟩:=Qka HF.o;have:=HK.o;omega
  have q5:IntKind.u64.wrap (k:Int)=(k:Int):=by rw [IntKind.wrap_u64];omega
  have q6:((k:Int) % 64).toNat=k % 64:=by omega
  obtain⟨y,hy⟩:=Ze (clr x (2 ^ (k % 64)));have q7:bits .andNot .u64 (x:Int) (IntKind.u64.wrap (2 ^ (k % 64)))=(y:Int):=by
   have h1:IntKind.u64.wrap (2 ^ (k % 64))=((2 ^ (k % 64):Nat):Int):=by
    have:=Qjd k;rw [show((2:Int) ^ (k % 64))=((2 ^ (k % 64):Nat):Int) by simp,IntKind.wrap_u64];generalize 2 ^ (k % 64)=p at *;omega
   rw [h1,QRj x _ hxl (Qjd k),hy]
  have HREM:=Zh (show(remS s k).words=s.words.set (k / 64) y by
   unfold remS;rw [List.getD_eq_getElem?_getD,HX.o];simp [←hy])
  have J1:=Zh (show ChIn w2.heap.size (w.heap.size+1) o g cap w (wy.setCell ⟨g,k / 64,none⟩ (uv y)) s.width (remS s k).words from by rw [HREM.o];exact J0.o.word (k / 64) y);rw [HN.o] at c1;have hlr:(remS s k).words.length=n:=by rw [HREM.o,List.length_set];exact HN.o
  obtain⟨hor,hog,hrg⟩:w.heap.size+1≠o∧o≠g∧w.heap.size+1≠g:=by have:=J0.o.old;omega
  have r0:=(Qa J0.o.res).1 0;have r1:=(Qa J0.o.res).1 1;have r2:=(Qa J0.o.res).2 0;have r3:=(Qa J0.o.res).2 1;simp only [Zx,Zy,Zz] at r0 r1;clear hy hgc hgf J0
  cases m
  ·have hR:=HRR.o;simp only [Bool.false_eq_true,if_false] at hR;subst hR;have FIN:=Zh (fun x' y'=>J1.o.fin (x:=x') (y:=y') (Qqh HF.o k).2.2 hbs);rw [hlr] at FIN;go_wp2;exact bodyPost_ret (v:=.tuple #[setV (remS s k) (.slice (some ⟨g,0,none⟩) n cap),.int .i64 0]) (by simp [results,Tryz.results181,go_sem,r0,r1,remS]) rfl ⟨_,rfl,(FIN.o _ _).1,(FIN.o _ _).2⟩
  ·have hR:=HRR.o;simp only [if_true] at hR;subst hR;go_wp2_with fail;rw [←HN.o];refine(QQs s k g cap _ HF.o HK.o J1.o.own hbs2).mono ?_;rintro e w5 ⟨rfl,ho,hb⟩;have J2:=Zh (J1.o.but hb ho (by rw [hlr];simp [putS,HN.o]));have hlp:(putS s k).words.length=n:=by simp [putS,HN.o]
   have FIN:=Zh (fun x' y'=>J2.o.fin (x:=x') (y:=y') (Qnd HF.o k).2.2 hbs);rw [hlp] at FIN;clear g0 g1 c0 c1 r0 r1 r2 r3 ho hb;have c0:=(Qa J2.o.cur).1 0;have c1:=(Qa J2.o.cur).1 1;have r0:=(Qa J2.o.res).1 0;have r1:=(Qa J2.o.res).1 1;have r2:=(Qa J2.o.res).2 0;have r3:=(Qa J2.o.res).2 1;simp only [Zx,Zy,Zz] at c0 c1 r0 r1;rw [hlp] at c1;rw [HN.o];go_wp2;exact bodyPost_ret (v:=.tuple #[setV (putS s k) (.slice (some ⟨g,0,none⟩) n cap),.int .i64 0]) (by simp [results,Tryz.results181,go_sem,r0,r1,putS]) rfl ⟨_,rfl,(FIN.o _ _).1,(FIN.o _ _).2⟩
theorem QPg (s:QSet) (b:Int) (u:Value) (w:World) (h:Qi w u s.words) (hbs:Base.b≤w.heap.size):Calls Tryz.prog 140 #[setV s u,.int .i64 b] w (QAd (chgS s b true) w):=by
 obtain⟨a1,n1,c1,rfl⟩:∃a n c,u=.slice a n c:=by obtain⟨a,c,rfl,-⟩:=h.cell;exact⟨_,_,_,rfl⟩
 have R1:=Zh h;obtain⟨W,hW⟩:=Ze ((w.alloc (.cells #[.int .i64 s.width,.slice a1 n1 c1] 52)).alloc (.cells #[.int .i64 0,.slice none 0 0] 52));have B0:Below w.heap.size w W:=by rw [←hW];exact(Zb).alloc (by simp) _
 have L3:W.heap[w.heap.size+1]? = some (.cells #[.int .i64 0,.slice none 0 0] 52 (0,0)):=by rw [←hW];exact Qda _ _
 have HW:=Zh hW;have BB:=Zh B0;have H3:=Zh L3;clear hW B0 L3 h;go_enter Tryz.func140,Tryz.ntmps140;go_wp2_with fail;rw [show(w.alloc (.cells #[.int .i64 s.width,.slice a1 n1 c1] 52)).alloc (.cells #[.int .i64 0,.slice none 0 0] 52)=W from HW.o];refine(Qjn s b true _ _ (R1.o.below BB.o) (Nat.le_trans hbs BB.o.size)).mono ?_;rintro e v ⟨u,rfl,hu,b1⟩;obtain⟨ua,un,uc,rfl⟩:=hu.shape;obtain⟨q,hq⟩:=Ze (chgS s b true);rw [hq] at hu ⊢;have HU:=Zh hu;have L3:=Zh (Qc H3.o b1 (Qb H3.o));have B1:=Zh (BB.o.trans (b1.mono BB.o.size));have z0:=(Qa L3.o).1 0;have z1:=(Qa L3.o).1 1;have f0:=(Qa L3.o).2 0;have f1:=(Qa L3.o).2 1;simp only [Zx,Zy,Zz] at z0 z1;have hsz:=Qb L3.o;have hty:tyAt v (w.heap.size+1)=some 52:=Qv L3.o;have HTY:=Zh hty;have HQ:=Zh hq;clear hu b1 hq hty;go_wp2;exact bodyPost_ret (v:=.tuple #[setV q.1 (.slice ua un uc),.int .i64 q.2]) (by simp [results,Tryz.results140,go_sem,z0,z1]) rfl (by rw [HQ.o];exact⟨_,rfl,HU.o.keep (Qf.trans (Qf.setCell (U:=52) HTY.o (by decide)) (Qf.setCell (U:=52) ((QS _).trans HTY.o) (by decide))),(B1.o.setCell (p:=⟨w.heap.size+1,0,none⟩) (by show w.heap.size≤w.heap.size+1;omega) _).setCell (p:=⟨w.heap.size+1,1,none⟩) (by show w.heap.size≤w.heap.size+1;omega) _⟩)
end
end Go.Proofs.YtijekimobahgpaaGreatDoor
