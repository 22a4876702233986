/- A part of the proof. -/
import Derived.Test.YtijekimobahgpaaGreatDoorVa14
import Derived.Lib.TrailingZeros
import Derived.Shelf.Spec.TrailingZeros
import Derived.Lib.LaidTab
set_option linter.unusedVariables false
set_option linter.unusedSimpArgs false
set_option linter.unusedSectionVars false
set_option maxRecDepth 100000
set_option maxHeartbeats 16000000
namespace Go.Proofs.YtijekimobahgpaaGreatDoor
section
open Go.RowKit
variable [Base]
theorem Qwb {w:World}{b:Nat}{a0 a1:Value}{t:TypeId}{fr:Nat×Nat}(h:w.heap[b]? = some (.cells #[a0,a1] t fr))(x:Value):(w.setCell ⟨b,0,none⟩ x).heap[b]? = some (.cells #[x,a1] t fr):=by
 simp[World.setCell,Array.getElem?_modify,h]
theorem Qvb {w:World}{b:Nat}{a0 a1:Value}{t:TypeId}{fr:Nat×Nat}(h:w.heap[b]? = some (.cells #[a0,a1] t fr))(x:Value):(w.setCell ⟨b,1,none⟩ x).heap[b]? = some (.cells #[a0,x] t fr):=by
 simp[World.setCell,Array.getElem?_modify,h]
theorem set5 {w:World}{b:Nat}{a0 a1 a2 a3 a4:Value}{t:TypeId}{fr:Nat×Nat}(h:w.heap[b]? = some (.cells #[a0,a1,a2,a3,a4] t fr))(x0 x1 x2 x3 x4:Value):
  (((((w.setCell ⟨b,0,none⟩ x0).setCell ⟨b,1,none⟩ x1).setCell ⟨b,2,none⟩ x2).setCell ⟨b,3,none⟩ x3).setCell ⟨b,4,none⟩ x4).heap[b]? = some (.cells #[x0,x1,x2,x3,x4] t fr):=by
 simp[World.setCell,Array.getElem?_modify,h]
theorem Qdj {w:World}{b p:Nat}{o:Obj}(h:w.heap[p]? = some o)(hne:p≠b)(x0 x1 x2 x3 x4:Value):
  (((((w.setCell ⟨b,0,none⟩ x0).setCell ⟨b,1,none⟩ x1).setCell ⟨b,2,none⟩ x2).setCell ⟨b,3,none⟩ x3).setCell ⟨b,4,none⟩ x4).heap[p]? = some o:=by
 rw[Below.heap_setCell _ _ _ _ hne,Below.heap_setCell _ _ _ _ hne,Below.heap_setCell _ _ _ _ hne,Below.heap_setCell _ _ _ _ hne,Below.heap_setCell _ _ _ _ hne];exact h
theorem Quc {T U:TypeId}{w:World}{b:Nat}(h:tyAt w b=some U)(hne:T≠U)(x0 x1 x2 x3 x4:Value):Qf T w (((((w.setCell ⟨b,0,none⟩ x0).setCell ⟨b,1,none⟩ x1).setCell ⟨b,2,none⟩ x2).setCell ⟨b,3,none⟩ x3).setCell ⟨b,4,none⟩ x4):=by
 have s:∀(w:World) (o:Nat) (x:Value),tyAt w b=some U→Qf T w (w.setCell ⟨b,o,none⟩ x)∧tyAt (w.setCell ⟨b,o,none⟩ x) b=some U:=fun w o x h=>⟨Qf.setCell h hne,by rw[QS];exact h⟩
 have s0:=s w 0 x0 h;have s1:=s _ 1 x1 s0.2;have s2:=s _ 2 x2 s1.2;have s3:=s _ 3 x3 s2.2;have s4:=s _ 4 x4 s3.2;exact s0.1.trans (s1.1.trans (s2.1.trans (s3.1.trans s4.1)))
def SetV (s:QSet)(w:World)(e:Ending)(w':World):Prop:=∃u,e=.returned (setV s u)∧Qi w' u s.words∧Below w.heap.size w w'
theorem Qog (s:QSet)(u:Value)(w:World)(h:Qi w u s.words)(hn:s.words.length≤1000000)(hbs:Base.b≤w.heap.size):Calls Tryz.prog 106 #[setV s u] w (SetV s w):=by
 have K:=Zh (fun (x:World) (b:Below w.heap.size w x)=>QXh u s.words.length (s.words.map uv) x (h.below b).1 (by rw[List.length_map];omega) (QDh s.words) hn);have HOK:=Zh h.2;obtain⟨ua0,uc0,rfl,-⟩:=h.cell;obtain⟨m,l⟩:=s;simp only at K HOK;simp only[setV];obtain⟨ln,hl⟩:=Ze l.length;simp only[hl] at K ⊢;have HL:=Zh hl;obtain⟨q,hq⟩:=Ze w.heap.size;obtain⟨W,hW⟩:=Ze ((w.alloc (.cells #[iv m,.slice ua0 ln uc0] 52)).alloc (.cells #[iv 0,.slice none 0 0] 52));have hsz:W.heap.size=q+2:=by rw[←hW,←hq];simp
 have BW:=Zh (show Below w.heap.size w W by rw[←hW];exact(Zb).alloc ZS _);have HX:=Zh (show W.heap[q]? = some (.cells #[iv m,.slice ua0 ln uc0] 52 (0,0)) by rw[←hW,←hq,Below.heap_alloc _ _ _ ZS];exact heap_alloc_new _ _);have HRW:=Zh (show W.heap[q+1]? = some (.cells #[iv 0,.slice none 0 0] 52 (0,0)) by rw[←hW,←hq];exact Qda _ _);have HWW:=Zh hW;have HQ:=Zh hq;have HSS:=Zh (show ∀w',Below W.heap.size W w'→(w'.cell? ⟨q,0,none⟩=some (iv m)∧w'.cell? ⟨q,1,none⟩=some (.slice ua0 ln uc0)) from fun w' hb=>Qq (Qc HX.o hb (Qb HX.o)));have HSZ:=Zh hsz;clear h hn hl hW hsz;go_enter Tryz.func106,Tryz.ntmps106;go_upto_region 1 with(fail)
 rw[show(w.alloc (.cells #[iv m,.slice ua0 ln uc0] 52)).alloc (.cells #[iv 0,.slice none 0 0] 52)=W from HWW.o]
 try rw[hq]
 clear hq;refine Zr (fun w'=>w'.cell? ⟨q,0,none⟩=some (iv m)∧w'.cell? ⟨q,1,none⟩=some (.slice ua0 ln uc0)) 6 (HSS.o (W.drewN 1) (Qp (Below.refl _ _) 1)) fun hS0=>?_
 refine Yd 0 3 ?_;refine Yd 1 4 ?_;refine Yd 2 5 ?_;refine Yd 3 6 ?_;refine QP 4 (some 7) 91 #[.slice ua0 ln uc0] rfl ZK ZK ZK rfl ?_;refine(K.o (W.drewN 1) (Qp (BW.o) 1)).mono ?_;rintro e m1 ⟨ua,uc,rfl,o1,b1⟩;have OO:=Zh o1;have BB1:=Zh ((Qp (Below.refl _ _) 1).trans b1:Below W.heap.size W m1);clear hS0 o1 b1;have hS0:=HSS.o _ BB1.o;refine⟨_,rfl,fun _=>hS0,?_⟩;refine Yd 5 8 ?_;have HR1:=Zh (Qc HRW.o BB1.o (by rw[HSZ.o];omega));have fz:=Qa HR1.o;have f0:=fz.2 0;have f1:=fz.2 1;have c0:=fz.1 0;have c1:=fz.1 1;simp only[Zx,Zy,Zz] at c0 c1;refine Qeb 6 none ((m1.setCell ⟨q+1,0,none⟩ (iv m)).setCell ⟨q+1,1,none⟩ (.slice ua ln uc)) rfl ZK ZK ?rs1 rfl (fun h=>absurd rfl h) ?_
 case rs1=>go_simp
 refine Qu ZK ?_ _;generalize hA:Act.put _ _ _=A0;simp only[Qba,Qaa,Zu,Zv,Zw] at hA;subst hA;clear hS0;go_wp2;have HT1:tyAt m1 (q+1)=some 52:=Qv HR1.o (by have:=HQ.o;omega);have o2:=Qza (g:=q+1) (j:=0) (x:=iv m) OO.o HT1 ZD;have HT2:tyAt (m1.setCell ⟨q+1,0,none⟩ (iv m)) (q+1)=some 52:=by rw[QS];exact HT1
 have o3:=Qza (g:=q+1) (j:=1) (x:=.slice ua ln uc) o2 HT2 ZD;have HB3:=Zh (show Below w.heap.size w ((m1.setCell ⟨q+1,0,none⟩ (iv m)).setCell ⟨q+1,1,none⟩ (.slice ua ln uc)) from(((BW.o.trans (BB1.o.mono BW.o.size)).setCell (by rw[HQ.o];show q≤q+1;omega) _).setCell (by rw[HQ.o];show q≤q+1;omega) _));have HO3:=Zh o3;have e2:((m1.setCell ⟨q+1,0,none⟩ (iv m)).setCell ⟨q+1,1,none⟩ (.slice ua ln uc)).heap[q+1]? = some (.cells #[iv m,.slice ua ln uc] 52 (0,0)):=Qvb (Qwb HR1.o _) _;obtain⟨g0,g1⟩:=Qq e2;clear o2 o3 HT1 HT2 e2 f0 f1 c0 c1 fz;go_wp2;refine bodyPost_ret (v:=.agg #[iv m,.slice ua ln uc]) (by simp[results,Tryz.results106,go_sem,g0,g1]) rfl ⟨_,rfl,⟨Qg.of_owns HO3.o,HOK.o⟩,HB3.o⟩
def QCl (r:Qw×Int)(w:World)(e:Ending)(w':World):Prop:=∃gu ku cu,e=.returned (.tuple #[trV r.1 gu ku cu,iv r.2])∧Qja w' gu ku cu r.1∧Below w.heap.size w w'
theorem Qzn (m:Nat)(hm:m≤256)(w:World)(hbs:Base.b≤w.heap.size):Calls Tryz.prog 46 #[iv m] w (QCl (idT m,0) w):=by
 obtain⟨q,hq⟩:=Ze w.heap.size;obtain⟨W0,hW0⟩:=Ze (w.alloc (.cells #[iv 0,.slice none 0 0,iv 0,.slice none 0 0,.slice none 0 0] 55));have B0:=Zh (show Below q w W0 by rw[←hW0,←hq];exact Zb);have H0:=Zh (show W0.heap[q]? = some (.cells #[iv 0,.slice none 0 0,iv 0,.slice none 0 0,.slice none 0 0] 55 (0,0)) by rw[←hW0,←hq];exact heap_alloc_new _ _);have HWW:=Zh hW0;have HQ:=Zh hq;clear hW0;go_enter Tryz.func46,Tryz.ntmps46;go_upto_region 1 with(fail)
 rw[show w.alloc (.cells #[iv 0,.slice none 0 0,iv 0,.slice none 0 0,.slice none 0 0] 55)=W0 from HWW.o];go_wp2_with fail;refine(Qxe m hm W0).mono ?_;rintro e w1 ⟨u,rfl,os,b1⟩;have HU:=Zh os.words;obtain⟨ga,gc,rfl,-⟩:=os.words.cell;have HGN:=Zh (show(Qy m).words.length=Qj m by simp[Qy]);rw[HGN.o] at HU ⊢;rw[show setV (Qy m) (.slice ga (Qj m) gc)=.agg #[iv m,.slice ga (Qj m) gc] from rfl];obtain⟨gn,hgn⟩:=Ze (Qj m);have hg5:gn≤5:=by rw[←hgn];unfold Qj;omega
 rw[hgn] at HGN HU ⊢;obtain⟨p,hp⟩:=Ze w1.heap.size;have hpq:q+1≤p:=by have:=b1.size;have:=Qb H0.o;omega
 obtain⟨W,hW⟩:=Ze (w1.alloc (.cells #[iv m,.slice ga gn gc] 52));have hsz:W.heap.size=p+1:=by rw[←hW,←hp];simp
 have A1:Below p w1 W:=by rw[←hW,←hp];exact Zb
 have HSZ:=Zh hsz;have HP1:W.heap[p]? = some (.cells #[iv m,.slice ga gn gc] 52 (0,0)):=by rw[←hW,←hp];exact heap_alloc_new _ _
 have HP:=Zh HP1;have BQ:=Zh (show Below q w W from B0.o.trans ((b1.trans (A1.mono (by have:=b1.size;omega))).mono (by have:=Qb H0.o;omega)));have HRW:=Zh (show W.heap[q]? = some (.cells #[iv 0,.slice none 0 0,iv 0,.slice none 0 0,.slice none 0 0] 55 (0,0)) from Qc (Qc H0.o b1 (Qb H0.o)) A1 ZO);have HUW:=Zh (show Qi W (.slice ga gn gc) (Qy m).words from HU.o.below (hp▸A1));have K:=Zh (fun (x:World) (b:Below W.heap.size W x)=>Qog (Qy m) (.slice ga gn gc) x (HUW.o.below b) (by rw[HGN.o];omega) (by have:=b.size;omega));have HSS:=Zh (show ∀w',Below W.heap.size W w'→(w'.cell? ⟨p,0,none⟩=some (iv m)∧w'.cell? ⟨p,1,none⟩=some (.slice ga gn gc)) from fun w' hb=>Qq (Qc HP.o hb (Qb HP.o)));have HWW:=Zh hW;obtain⟨x0,x1⟩:=Qq HP.o;clear hW hsz HP1 A1 b1 os hgn;go_upto_region 4 with(fail)
 try rw[hp]
 rw[show w1.alloc (.cells #[iv m,.slice ga gn gc] 52)=W from HWW.o];refine Zr (fun w'=>w'.cell? ⟨p,0,none⟩=some (iv m)∧w'.cell? ⟨p,1,none⟩=some (.slice ga gn gc)) 5 (HSS.o (W.drewN 1) (Qp (Below.refl _ _) 1)) fun hS0=>?_
 refine Yd 0 15 ?_;refine Yd 1 16 ?_;refine QP 2 (some 17) 106 #[.agg #[iv m,.slice ga gn gc]] rfl ZK ZK ZK rfl ?_;refine(K.o (W.drewN 1) (Qp (Below.refl _ _) 1)).mono ?_;rintro e m1 ⟨ku,rfl,o1,b1⟩;obtain⟨ka,kc,rfl,-⟩:=o1.cell;have OO:=Zh o1;have BB1:=Zh ((Qp (Below.refl _ _) 1).trans b1:Below W.heap.size W m1);clear hS0 o1 b1;have hS0:=HSS.o _ BB1.o;rw[HGN.o,show setV (Qy m) (.slice ka gn kc)=.agg #[iv m,.slice ka gn kc] from rfl];refine⟨_,rfl,fun _=>hS0,?_⟩;refine Yd 3 18 ?_;have HR1:=Zh (Qc HRW.o BB1.o (by have:=HSZ.o;omega));have fz:=Qa HR1.o;have f0:=fz.2 0;have f1:=fz.2 1;have f2:=fz.2 2;have f3:=fz.2 3;have f4:=fz.2 4;have c0:=fz.1 0;have c1:=fz.1 1;have c2:=fz.1 2;have c3:=fz.1 3;have c4:=fz.1 4;simp only[Zx,Zy,Zz] at c0 c1 c2 c3 c4;have hSF:(fun w':World=>w'.cell? ⟨p,0,none⟩=some (iv m)∧w'.cell? ⟨p,1,none⟩=some (.slice ga gn gc)) ((((((m1.setCell ⟨q,0,none⟩ (iv m)).setCell ⟨q,1,none⟩ (.slice ga gn gc)).setCell ⟨q,2,none⟩ (iv m)).setCell ⟨q,3,none⟩ (.slice ka gn kc)).setCell ⟨q,4,none⟩ (.slice none 0 0))):=Qq (Qdj (Qc HP.o BB1.o (Qb HP.o)) ZO _ _ _ _ _);clear hS0;have hS0:=hSF;clear hSF;refine Qeb 4 none ((((((m1.setCell ⟨q,0,none⟩ (iv m)).setCell ⟨q,1,none⟩ (.slice ga gn gc)).setCell ⟨q,2,none⟩ (iv m)).setCell ⟨q,3,none⟩ (.slice ka gn kc)).setCell ⟨q,4,none⟩ (.slice none 0 0))) rfl ZK ZK ?rs1 rfl (fun _=>hS0) ?_
 case rs1=>go_simp
 refine QW 5 (some 3) (iv 0) ((((((m1.setCell ⟨q,0,none⟩ (iv m)).setCell ⟨q,1,none⟩ (.slice ga gn gc)).setCell ⟨q,2,none⟩ (iv m)).setCell ⟨q,3,none⟩ (.slice ka gn kc)).setCell ⟨q,4,none⟩ (.slice none 0 0))) rfl ZK ZK (by go_simp) rfl (fun h=>absurd rfl h) ?_;refine Qu ZK ?_ _;generalize hA:Act.put _ _ _=A0;simp only[Qba,Qaa,Zu,Zv,Zw] at hA;subst hA;have e5:(((((((m1.setCell ⟨q,0,none⟩ (iv m)).setCell ⟨q,1,none⟩ (.slice ga gn gc)).setCell ⟨q,2,none⟩ (iv m)).setCell ⟨q,3,none⟩ (.slice ka gn kc)).setCell ⟨q,4,none⟩ (.slice none 0 0)))).heap[q]? = some (.cells #[iv m,.slice ga gn gc,iv m,.slice ka gn kc,.slice none 0 0] 55 (0,0)):=set5 HR1.o _ _ _ _ _;obtain⟨g0,g1,g2,g3,g4⟩:=QJ e5;have HB3:=Zh (show Below w.heap.size w ((((((m1.setCell ⟨q,0,none⟩ (iv m)).setCell ⟨q,1,none⟩ (.slice ga gn gc)).setCell ⟨q,2,none⟩ (iv m)).setCell ⟨q,3,none⟩ (.slice ka gn kc)).setCell ⟨q,4,none⟩ (.slice none 0 0))) from
  (((((show Below w.heap.size w W by rw[HQ.o];exact BQ.o).trans (BB1.o.mono (by have:=HSZ.o;have:=HQ.o;omega))).setCell (Nat.le_of_eq HQ.o) _).setCell (Nat.le_of_eq HQ.o) _).setCell (Nat.le_of_eq HQ.o) _).setCell (Nat.le_of_eq HQ.o) _ |>.setCell (Nat.le_of_eq HQ.o) _)
 have KT:=Zh (show Qf 139 m1 ((((((m1.setCell ⟨q,0,none⟩ (iv m)).setCell ⟨q,1,none⟩ (.slice ga gn gc)).setCell ⟨q,2,none⟩ (iv m)).setCell ⟨q,3,none⟩ (.slice ka gn kc)).setCell ⟨q,4,none⟩ (.slice none 0 0))) from Quc (Qv HR1.o (by have:=HQ.o;omega)) ZD _ _ _ _ _);have HU3:=Zh ((HUW.o.below BB1.o).keep KT.o);have HK3:=Zh (OO.o.keep KT.o);clear hS0 f0 f1 f2 f3 f4 c0 c1 c2 c3 c4 fz e5;have HK4:=HK3.o;rw[HGN.o] at HK4;go_wp2;refine bodyPost_ret (v:=.tuple #[.agg #[iv m,.slice ga gn gc,iv m,.slice ka gn kc,.slice none 0 0],iv 0]) (by simp[results,Tryz.results46,go_sem,g0,g1,g2,g3,g4]) rfl ⟨_,_,_,rfl,⟨HU3.o,HK4,QKc.nil⟩,HB3.o⟩
end
section
variable [Base]
def memS (s:QSet):List Nat:=if setB s=true then (List.range s.width.toNat).filter (QE s.words) else []
def Qjg (w:Nat):List Nat:=(List.range 64).filter (w.testBit ·)
def Qcd (l:List Nat)(k:Nat):List Nat:=(List.range (64*k)).filter (QE l)
theorem Qwj {l:List Nat}{k w:Nat}(h:l[k]? = some w):Qcd l (k+1)=Qcd l k++(Qjg w).map (64*k + ·):=by
 unfold Qcd Qjg;rw[show 64*(k+1)=64*k+64 by omega,List.range_add,List.filter_append,List.filter_map]
 congr 2
 apply List.filter_congr;intro i hi;have hi:=List.mem_range.1 hi;simp only[Function.comp];unfold QE;rw[show(64*k+i) / 64=k by omega,show(64*k+i) % 64=i by omega,List.getD_eq_getElem?_getD,h];rfl
theorem Qyk {s:QSet}(h:setB s=true)(hw:QLa s.words):Qcd s.words s.words.length=memS s:=by
 have hf:=QBa h hw;obtain⟨m,e1,e2,e3⟩:=Qka hf;unfold memS Qcd;rw[if_pos h,e1,Int.toNat_natCast];have hle:m≤64*s.words.length:=by rw[e3];unfold Qj;omega
 obtain⟨d,hd⟩:∃d,64*s.words.length=m+d:=⟨64*s.words.length-m,by omega⟩;rw[hd,List.range_add,List.filter_append];have:List.filter (QE s.words) (List.map (m + ·) (List.range d))=[]:=by
  rw[List.filter_eq_nil_iff];intro x hx;obtain⟨i,_,rfl⟩:=List.mem_map.1 hx;rw[Qge h hw (b:=m+i) (by rw[e1];omega)];simp
 rw[this,List.append_nil]
theorem QGp {s:QSet}(h:setB s=false):memS s=[]:=by unfold memS;rw[h];rfl
theorem Qxp:∀(n x:Nat),pop n x=((List.range n).filter (x.testBit ·)).length
|0,x=>rfl
|n+1,x=>by
  rw[QXe,List.range_succ_eq_map,List.filter_cons,Qxp n (x / 2),List.filter_map]
  have e:((fun i=>x.testBit i) ∘ Nat.succ)=fun i=>(x / 2).testBit i:=by
   funext i
   exact Nat.testBit_succ x i
  rw[e];rcases Nat.mod_two_eq_zero_or_one x with h|h
  ·rw[show x.testBit 0=false by rw[Nat.testBit_zero];simp[h]];simp[h]
  ·rw[show x.testBit 0=true by rw[Nat.testBit_zero];simp[h]];simp[h];omega
theorem QRk (x:Nat):(Qjg x).length=pop 64 x:=(Qxp 64 x).symm
theorem Qap:Qjg 0=[]:=by decide
theorem Qzi {p q:Nat→Bool}{k:Nat}(hk:p k=true)(hp:∀j,j<k→p j=false)(hq:∀j,j≤k→q j=false)(he:∀j,k<j→p j=q j):∀n,(n≤k→(List.range n).filter p=[])∧(n≤k+1→(List.range n).filter q=[])∧(k<n→(List.range n).filter p=k::(List.range n).filter q)
|0=>⟨fun _=>rfl,fun _=>rfl,fun h=>by omega⟩
|n+1=>by
  obtain⟨h1,h2,h3⟩:=Qzi hk hp hq he n
  refine⟨fun h=>?_,fun h=>?_,fun h=>?_⟩
  ·rw[List.range_succ,List.filter_append,h1 ZO,List.filter_cons,hp n ZO];rfl
  ·rw[List.range_succ,List.filter_append,h2 ZO,List.filter_cons,hq n ZO];rfl
  ·rw[List.range_succ,List.filter_append,List.filter_append]
   by_cases hn:n=k
   ·subst hn
    rw[h1 (Nat.le_refl _),h2 ZO,List.filter_cons,List.filter_cons,hk,hq n (Nat.le_refl _)]
    rfl
   ·rw[h3 ZO,List.filter_cons,List.filter_cons,he n ZO]
    rfl
theorem Qbp {w:Nat}(h0:w≠0)(hw:w<18446744073709551616):Lib.ctz 64 w<64∧Qjg w=Lib.ctz 64 w::Qjg (w &&& (w-1)):=by
 obtain⟨m,hm,hk⟩:=Lib.ctzFrom_spec 64 w ZO hw;have hc:Lib.ctz 64 w=Lib.ctzFrom 64 w:=by unfold Lib.ctz;rw[if_neg h0]
 rw[hc];generalize Lib.ctzFrom 64 w=k at *;have hp:0<2 ^ k:=Nat.two_pow_pos k;have hwd:w / 2 ^ k=2*m+1:=by rw[hm,Nat.mul_div_cancel_left _ hp]
 have hw1:(w-1) / 2 ^ k=2*m:=by
  rw[hm];have e:2 ^ k*(2*m+1)-1=(2 ^ k-1)+2 ^ k*(2*m):=by
   rw[Nat.mul_add,Nat.mul_one];omega
  rw[e,Nat.add_mul_div_left _ _ hp,Nat.div_eq_of_lt ZO,Nat.zero_add]
 have hlow:∀j,j<k→w.testBit j=false:=by
  intro j hj;obtain⟨d,rfl⟩:∃d,k=j+(d+1):=⟨k-j-1,by omega⟩;rw[hm,Nat.testBit_eq_decide_div_mod_eq,Nat.pow_add,Nat.mul_assoc,Nat.mul_div_cancel_left _ (Nat.two_pow_pos j),Nat.pow_succ];have:2 ^ d*2*(2*m+1) % 2=0:=by
   rw[Nat.mul_comm (2 ^ d) 2,Nat.mul_assoc];exact Nat.mul_mod_right _ _
  rw[this];rfl
 have hbit:w.testBit k=true:=by
  rw[Nat.testBit_eq_decide_div_mod_eq,hwd];simp
 have hhigh:∀(x y:Nat),x / 2 ^ k=y→∀j,k≤j→x.testBit j=y.testBit (j-k):=by
  intro x y hxy j hj;rw[←hxy,Nat.testBit_div_two_pow]
  congr 1
  omega
 have hq:∀j,j≤k→(w &&& (w-1)).testBit j=false:=by
  intro j hj;rw[Nat.testBit_and];rcases Nat.lt_or_ge j k with h1|h1
  ·rw[hlow j h1];rfl
  ·obtain rfl:j=k:=by omega
   rw[hhigh _ _ hw1 j (Nat.le_refl _),Nat.sub_self,Nat.testBit_zero];simp
 have he:∀j,k<j→w.testBit j=(w &&& (w-1)).testBit j:=by
  intro j hj;rw[Nat.testBit_and,hhigh _ _ hw1 j ZO,hhigh _ _ hwd j ZO];obtain⟨d,hd⟩:∃d,j-k=d+1:=⟨j-k-1,by omega⟩;rw[hd,Nat.testBit_succ,Nat.testBit_succ,show(2*m+1) / 2=m by omega,show 2*m / 2=m by omega,Bool.and_self]
 exact⟨hk,(Qzi hbit hlow hq he 64).2.2 hk⟩
theorem QNs {w:Nat}(h0:w≠0):w &&& (w-1)<w:=Nat.lt_of_le_of_lt Nat.and_le_right ZO
theorem QQf (l:List Nat)(k:Nat):(Qcd l k).length≤64*k:=by
 unfold Qcd;have:=List.length_filter_le (QE l) (List.range (64*k))
 simpa using this
theorem QUs (w:Nat):(Qjg w).length≤64:=by
 unfold Qjg;have:=List.length_filter_le (w.testBit ·) (List.range 64)
 simpa using this
end
section
variable [Base]
def rowK (t:Qw)(m k a:Nat):QSet:=mkS m fun b=>(decide (a=b)&&!QE t.kill.words a)||decide (((a:Int),(b:Int))∈t.cops.take k)
def QGd (t:Qw)(m k i:Nat):List QSet:=(List.range i).map (rowK t m k)
theorem Qqb (t:Qw)(m k i:Nat):(QGd t m k i).length=i:=by simp[QGd]
theorem QVd (t:Qw){m:Nat}(h:m≤256)(k a:Nat):Ok m (rowK t m k a):=QIb _ h
theorem QAq (t:Qw){m:Nat}(h:m≤256){a:Nat}(ha:a<m):rowK t m 0 a=if QE t.kill.words a=true then Qy m else putS (Qy m) a:=by
 unfold rowK;by_cases hk:QE t.kill.words a=true
 ·rw[if_pos hk];refine(QIb _ h).ext (QOb h) fun b=>?_
  rw[Qpb _ h,QNb,hk];simp
 ·rw[if_neg hk];have hp:=(QOb h).put ha;refine(QIb _ h).ext hp.1 fun b=>?_
  rw[Qpb _ h,hp.2,QNb];rw[show QE t.kill.words a=false by simpa using hk];rw[Bool.eq_iff_iff];simp;omega
theorem Qlj (t:Qw)(m k i:Nat):QGd t m k (i+1)=QGd t m k i++[rowK t m k i]:=by
 simp[QGd,List.range_succ]
theorem QLh (t:Qw)(m k i a:Nat)(h:a<i):(QGd t m k i)[a]? = some (rowK t m k a):=by
 unfold QGd;rw[List.getElem?_map,List.getElem?_range h];rfl
theorem QBq {t:Qw}{m k a b:Nat}(h:m≤256)(hc:t.cops[k]? = some ((a:Int),(b:Int)))(hb:b<m)(x:Nat):rowK t m (k+1) x=if x=a then putS (rowK t m k x) b else rowK t m k x:=by
 have hm:∀c,c∈t.cops.take (k+1)↔c∈t.cops.take k∨c=((a:Int),(b:Int)):=fun c=>by
  rw[List.take_add_one,hc];simp
 by_cases e:x=a
 ·subst e;rw[if_pos rfl];have hp:=(QVd t h k x).put hb;refine(QVd t h _ x).ext hp.1 fun y=>?_
  rw[hp.2];unfold rowK;rw[Qpb _ h,Qpb _ h,Bool.eq_iff_iff];simp only[Bool.and_eq_true,Bool.or_eq_true,decide_eq_true_eq,Bool.not_eq_true',hm,Prod.mk.injEq];constructor
  ·rintro⟨h1,h2|h2|⟨_,h2⟩⟩
   ·exact .inl ⟨h1,.inl h2⟩
   ·exact .inl ⟨h1,.inr h2⟩
   ·exact .inr ZO
  ·rintro(⟨h1,h2|h2⟩|h2)
   ·exact⟨h1,.inl h2⟩
   ·exact⟨h1,.inr (.inl h2)⟩
   ·subst h2;exact⟨hb,.inr (.inr ZS)⟩
 ·rw[if_neg e];unfold rowK;refine Qad h fun y _=>?_
  rw[Bool.eq_iff_iff];simp only[Bool.and_eq_true,Bool.or_eq_true,decide_eq_true_eq,Bool.not_eq_true',hm,Prod.mk.injEq];constructor
  ·rintro(h2|h2|⟨h2,_⟩)
   ·exact .inl h2
   ·exact .inr h2
   ·omega
  ·rintro(h2|h2)
   ·exact .inl h2
   ·exact .inr (.inl h2)
theorem QWn {t:Qw}{m k a b:Nat}(h:m≤256)(hc:t.cops[k]? = some ((a:Int),(b:Int)))(hb:b<m):QGd t m (k+1) m=(QGd t m k m).set a (putS (rowK t m k a) b):=by
 refine List.ext_getElem? fun x=>?_
 rw[List.getElem?_set];by_cases hx:x<m
 ·rw[QLh _ _ _ _ _ hx,QLh _ _ _ _ _ hx,QBq h hc hb];by_cases e:a=x
  ·subst e;simp[Qqb,hx]
  ·rw[if_neg (fun h=>e h.symm),if_neg e]
 ·rw[List.getElem?_eq_none (by rw[Qqb];omega),List.getElem?_eq_none (by rw[Qqb];omega)]
  split
  ·next e=>subst e;simp[Qqb,hx]
  ·rfl
def Qpi (t:Qw)(m:Nat):List QSet:=(List.range m).map fun a=>mkS m (folB t a)
theorem Qyq (t:Qw)(m:Nat):QGd t m t.cops.length m=Qpi t m:=by
 unfold QGd Qpi rowK;rw[List.take_length];rfl
def QJb (t:Qw)(m i:Nat):QSet:=mkS m fun a=>QE t.gen.words a||(decide (a<i)&&!folB t a a)
theorem Qre (t:Qw){m:Nat}(h:m≤256)(i:Nat):Ok m (QJb t m i):=QIb _ h
theorem Qno {t:Qw}{m:Nat}(h:Ok m t.gen):QJb t m 0=t.gen:=by
 refine(QIb _ h.le).ext h fun b=>?_
 rw[Qpb _ h.le];by_cases hb:b<m
 ·simp[hb]
 ·rw[h.tail ZO];simp[hb]
theorem Qoo (t:Qw){m i:Nat}(h:m≤256)(hi:i<m):QJb t m (i+1)=if folB t i i=true then QJb t m i else putS (QJb t m i) i:=by
 by_cases hf:folB t i i=true
 ·rw[if_pos hf];unfold QJb;refine Qad h fun a _=>?_
  by_cases e:a=i
  ·subst e;simp[hf]
  ·rw[show decide (a<i+1)=decide (a<i) by simp;omega]
 ·rw[if_neg hf];have hp:=(Qre t h i).put hi;refine(Qre t h _).ext hp.1 fun a=>?_
  rw[hp.2];unfold QJb;rw[Qpb _ h,Qpb _ h];by_cases e:a=i
  ·subst e;simp[hf,hi]
  ·rw[show decide (a<i+1)=decide (a<i) by simp;omega];simp[e]
theorem QTq (t:Qw)(m:Nat)(h:m≤256):QJb t m m=(Qlb t m).kill:=Qad h fun a ha=>by simp[ha]
def copK (a:Nat)(l:List Nat):List Cp:=(l.filter fun b=>decide (b≠a)).map fun b:Nat=>((a:Int),(b:Int))
theorem QLk (a b:Nat)(l:List Nat):copK a (l++[b])=if b=a then copK a l else copK a l++[((a:Int),(b:Int))]:=by
 unfold copK;rw[List.filter_append,List.map_append];by_cases e:b=a
 ·simp[e]
 ·simp[e]
theorem QKs {t:Qw}{m a:Nat}{r:QSet}(hr:Ok m r)(hb:∀b,QE r.words b=((decide (b<m)&&folB t a b)&&!QE t.gen.words b)):copK a (memS r)=rowC t m a:=by
 unfold copK rowC memS;rw[if_pos hr.ok,hr.width,Int.toNat_natCast,List.filter_filter]
 congr 1
 refine List.filter_congr fun b h=>?_
 have h:=List.mem_range.1 h;rw[hb,Bool.eq_iff_iff];simp[h];omega
end
section
open Go.RowKit
variable [Base]
def QIa (f:Nat→Nat→Nat)(s t:QSet):QSet×Int:=if setB s=false∨setB t=false then (Qrd,1) else if s.width≠t.width then (Qrd,2) else (zipS f s t,0)
def FunQ (fn:FuncId)(f:Nat→Nat→Nat):Prop:=∀(x y:Nat) (w:World),x<18446744073709551616→y<18446744073709551616→f x y<18446744073709551616∧Calls Tryz.prog fn #[uv x,uv y] w fun e w'=>e=.returned (uv (f x y))∧w=w'
def Qdc (f:Nat→Nat→Nat)(s t:QSet)(i:Nat):List Nat:=(List.zipWith f s.words t.words).take i++List.replicate (s.words.length-i) 0
structure XIn (w v wr:World)(r c g m:Nat)(d:Int)(l:List Nat):Prop where
 below:Below w.heap.size w wr
 keep:Below v.heap.size v wr
 res:wr.heap[r]? = some (.cells #[.int .i64 0,.slice none 0 0] 52 (0,0))
 cur:wr.heap[c]? = some (.cells #[.int .i64 d,.slice (some ⟨g,0,none⟩) (Qj m) (Qj m)] 52 (0,0))
 own:wr.heap[g]? = some (.cells (l.map uv).toArray 139 (0,0))
 old:w.heap.size≤r∧w.heap.size≤c∧w.heap.size≤g∧r≠c∧r≠g∧c≠g∧v.heap.size≤g
theorem XIn.drew {w v wr:World}{r c g m:Nat}{d:Int}{l:List Nat}(h:XIn w v wr r c g m d l)(n:Nat):XIn w v (wr.drewN n) r c g m d l:=⟨Qp h.below n,Qp h.keep n,h.res,h.cur,h.own,h.old⟩
theorem XIn.put {w v wr:World}{r c g m:Nat}{d:Int}{l:List Nat}(h:XIn w v wr r c g m d l)(i y:Nat):XIn w v (wr.setCell ⟨g,i,none⟩ (uv y)) r c g m d (l.set i y):=by
 obtain⟨o1,o2,o3,o4,o5,o6,o7⟩:=h.old;have hg:=h.own;refine⟨h.below.setCell (p:=⟨g,i,none⟩) o3 _,h.keep.setCell (p:=⟨g,i,none⟩) o7 _,?_,?_,?_,h.old⟩
 ·rw[Below.heap_setCell _ _ _ _ (by show r≠g;omega)];exact h.res
 ·rw[Below.heap_setCell _ _ _ _ (by show c≠g;omega)];exact h.cur
 ·rw[List.map_set];simp[World.setCell,Array.getElem?_modify,hg]
theorem XIn.fin {w v wr:World}{r c g m:Nat}{d:Int}{l:List Nat}(h:XIn w v wr r c g m d l)(x y:Value):((wr.setCell ⟨r,0,none⟩ x).setCell ⟨r,1,none⟩ y).heap[g]? = some (.cells (l.map uv).toArray 139 (0,0))∧Below w.heap.size w ((wr.setCell ⟨r,0,none⟩ x).setCell ⟨r,1,none⟩ y):=by
 obtain⟨o1,o2,o3,o4,o5,o6,o7⟩:=h.old;refine⟨?_,(h.below.setCell (p:=⟨r,0,none⟩) o1 _).setCell (p:=⟨r,1,none⟩) o1 _⟩;rw[Below.heap_setCell _ _ _ _ (by show g≠r;omega),Below.heap_setCell _ _ _ _ (by show g≠r;omega)];exact h.own
theorem Qkf {f:Nat→Nat→Nat}{s t:QSet}{i x y:Nat}(hx:s.words[i]? = some x)(hy:t.words[i]? = some y)(hl:s.words.length=t.words.length):Qdc f s t (i+1)=(Qdc f s t i).set i (f x y):=by
 have hi:=(List.getElem?_eq_some_iff.1 hx).1;have hz:(List.zipWith f s.words t.words)[i]? = some (f x y):=by rw[List.getElem?_zipWith,hx,hy]
 have hzl:(List.zipWith f s.words t.words).length=s.words.length:=by rw[List.length_zipWith,←hl,Nat.min_self]
 apply List.ext_getElem?;intro j;unfold Qdc;rw[List.getElem?_set,List.getElem?_append,List.getElem?_append,List.length_append,List.length_take,List.length_take,hzl,List.length_replicate,Nat.min_eq_left (by omega:i+1≤s.words.length),Nat.min_eq_left (by omega:i≤s.words.length),List.getElem?_take,List.getElem?_take,List.getElem?_replicate,List.getElem?_replicate];by_cases h1:i=j
 ·subst h1;rw[if_pos rfl,if_pos ZO,if_pos ZO,if_pos ZO,hz]
 ·rw[if_neg h1];by_cases h2:j<i
  ·rw[if_pos ZO,if_pos ZO,if_pos h2,if_pos h2]
  ·rw[if_neg ZO,if_neg h2];by_cases h3:j-i<s.words.length-i
   ·rw[if_pos ZO,if_pos h3]
   ·rw[if_neg ZO,if_neg h3]
theorem QTc {f:Nat→Nat→Nat}{s t:QSet}{i:Nat}(hl:s.words.length=t.words.length)(hi:i≤s.words.length):(Qdc f s t i).length=s.words.length:=by
 unfold Qdc;rw[List.length_append,List.length_take,List.length_zipWith,List.length_replicate,←hl,Nat.min_self];omega
theorem QKf {f:Nat→Nat→Nat}{s t:QSet}(hl:s.words.length=t.words.length):Qdc f s t s.words.length=(zipS f s t).words:=by
 unfold Qdc zipS;rw[Nat.sub_self,List.replicate_zero,List.append_nil,List.take_of_length_le];rw[List.length_zipWith,←hl,Nat.min_self];exact Nat.le_refl _
theorem Qjf {f:Nat→Nat→Nat}{s t:QSet}{m:Nat}(h:s.words.length=Qj m):(List.map uv (Qdc f s t 0)).toArray=zc (Qj m):=by
 unfold Qdc zc;rw[h,Nat.sub_zero];simp
theorem QM {w:World}{b g o j:Nat}{u:Value}{x:Option Value}(h:b≠g)(hc:w.cell? ⟨b,o,none⟩=x):(w.setCell ⟨g,j,none⟩ u).drew.cell? ⟨b,o,none⟩=x:=
 (show(w.setCell ⟨g,j,none⟩ u).cell? ⟨b,o,none⟩=x from Qqa h hc)
theorem QRj (a b:Nat)(ha:a<18446744073709551616)(hb:b<18446744073709551616):bits .andNot .u64 (a:Int) (b:Int)=((clr a b:Nat):Int):=by
 have h1:(BitVec.ofInt 64 (a:Int)).toNat=a:=by
  rw[BitVec.ofInt_natCast,BitVec.toNat_ofNat];exact Nat.mod_eq_of_lt ZO
 have h2:(BitVec.ofInt 64 (b:Int)).toNat=b:=by
  rw[BitVec.ofInt_natCast,BitVec.toNat_ofNat];exact Nat.mod_eq_of_lt ZO
 have h3:(BitVec.ofInt 64 (a:Int) &&& ~~~ BitVec.ofInt 64 (b:Int)).toNat=clr a b:=by
  apply Nat.eq_of_testBit_eq;intro i;rw[QAl,BitVec.testBit_toNat,BitVec.getLsbD_and,BitVec.getLsbD_not,←BitVec.testBit_toNat,←BitVec.testBit_toNat,h1,h2];by_cases hi:i<64
  ·simp[hi]
  ·rw[Nat.testBit_lt_two_pow (Nat.lt_of_lt_of_le ha (Nat.pow_le_pow_right (n:=2) ZD (show 64≤i by omega)))];simp
 show IntKind.u64.wrap ((BitVec.ofInt 64 (a:Int) &&& ~~~ BitVec.ofInt 64 (b:Int)).toNat:Int)=_;rw[h3,IntKind.wrap_u64];have:=Qvl (b:=b) ha;omega
theorem QKt:FunQ 152 clr:=fun x y w hx hy=>by
 refine⟨Qvl hx,?_⟩
 have h:=QRj x y hx hy
 go_enter Tryz.func152,Tryz.ntmps152
 go_wp2
 go_ret
 exact⟨rfl,rfl⟩
end
section
open Go.RowKit
variable [Base]
theorem Qnt (x k idx:Nat)(w:World)(hx0:((x:Int)==0)=false)(key:IntKind.u64.wrap (bits BinOp.and IntKind.u64 (x:Int) (IntKind.u64.wrap (-(x:Int)))*285870213051353865) / 288230376151711744=(idx:Int))(hi:idx<64)(hk:k<64)(hcell:w.cell? ⟨1,idx,none⟩=some (.int .u8 k)):
  Calls Tryz.prog 182 #[.int .u64 x] w fun e w'=>e=.returned (.int .i64 k)∧w=w':=by
 go_enter Tryz.func182,Tryz.ntmps182;go_wp2_with (simp only[key]);go_ret;exact⟨rfl,rfl⟩
theorem Qeu (x:Nat)(hx0:x≠0)(hx:x<18446744073709551616)(w:World)(hT:TabAt 1 Lib.deBruijn64tab w):
  Calls Tryz.prog 182 #[.int .u64 x] w fun e w'=>e=.returned (.int .i64 (Lib.ctz 64 x:Nat))∧w=w':=by
 obtain⟨hlow,hk⟩:=Lib.lowest_bit 64 x hx0 hx;obtain⟨hi,htab⟩:=Lib.deBruijn64_at _ hk;have hcell:=hT _ hi;rw[htab] at hcell;exact Qnt x _ _ w (by simp;omega) (tz64_key x _ hx hx0 hlow) hi hk hcell
theorem Qai (c:Nat)(hc:c<9223372036854775808):bits .and .i64 (c:Int) 127=((c % 128:Nat):Int):=by
 have h1:(BitVec.ofInt 64 (c:Int)).toNat=c:=by
  rw[BitVec.ofInt_natCast,BitVec.toNat_ofNat];exact Nat.mod_eq_of_lt ZO
 show IntKind.i64.wrap ((BitVec.ofInt 64 (c:Int) &&& BitVec.ofInt 64 (127:Int)).toNat:Int)=_;rw[BitVec.toNat_and,h1,show(BitVec.ofInt 64 (127:Int)).toNat=2 ^ 7-1 from by decide,Nat.and_two_pow_sub_one_eq_mod,IntWalk.i64_in _ ZO]
theorem ones1 (x:Nat)(hx:x<18446744073709551616):IntKind.u64.wrap (bits BinOp.and IntKind.u64 ((x:Int) / 2) 6148914691236517205+bits BinOp.and IntKind.u64 (x:Int) 6148914691236517205)=((A1 8 x:Nat):Int):=by
 have h1:(x:Int) / 2=((x / 2:Nat):Int):=by omega
 have l1:x / 2 &&& 6148914691236517205≤6148914691236517205:=Nat.and_le_right;have l2:x &&& 6148914691236517205≤6148914691236517205:=Nat.and_le_right;rw[h1,show(6148914691236517205:Int)=((6148914691236517205:Nat):Int) from rfl,bits_and_u64_nat _ _ ZO ZO,bits_and_u64_nat _ _ hx ZO,IntKind.wrap_u64];unfold A1;rw[show repB 8 85=6148914691236517205 from by decide];omega
theorem ones2 (x:Nat)(hx:x<18446744073709551616):IntKind.u64.wrap (bits BinOp.and IntKind.u64 ((x:Int) / 4) 3689348814741910323+bits BinOp.and IntKind.u64 (x:Int) 3689348814741910323)=((A2 8 x:Nat):Int):=by
 have h1:(x:Int) / 4=((x / 4:Nat):Int):=by omega
 have l1:x / 4 &&& 3689348814741910323≤3689348814741910323:=Nat.and_le_right;have l2:x &&& 3689348814741910323≤3689348814741910323:=Nat.and_le_right;rw[h1,show(3689348814741910323:Int)=((3689348814741910323:Nat):Int) from rfl,bits_and_u64_nat _ _ ZO ZO,bits_and_u64_nat _ _ hx ZO,IntKind.wrap_u64];unfold A2;rw[show repB 8 51=3689348814741910323 from by decide];omega
theorem ones3 (x:Nat)(hx:x≤7378697629483820646):bits BinOp.and IntKind.u64 (IntKind.u64.wrap ((x:Int) / 16+(x:Int))) 1085102592571150095=((A3 8 x:Nat):Int):=by
 have h1:IntKind.u64.wrap ((x:Int) / 16+(x:Int))=((x / 16+x:Nat):Int):=by rw[IntKind.wrap_u64];omega
 rw[h1,show(1085102592571150095:Int)=((1085102592571150095:Nat):Int) from rfl,bits_and_u64_nat _ _ ZO ZO];unfold A3;rw[show repB 8 15=1085102592571150095 from by decide]
theorem A1_lt (x:Nat):A1 8 x<18446744073709551616:=by
 have l1:x / 2 &&& 6148914691236517205≤6148914691236517205:=Nat.and_le_right;have l2:x &&& 6148914691236517205≤6148914691236517205:=Nat.and_le_right;unfold A1;rw[show repB 8 85=6148914691236517205 from by decide];omega
theorem A2_le (x:Nat):A2 8 x≤7378697629483820646:=by
 have l1:x / 4 &&& 3689348814741910323≤3689348814741910323:=Nat.and_le_right;have l2:x &&& 3689348814741910323≤3689348814741910323:=Nat.and_le_right;unfold A2;rw[show repB 8 51=3689348814741910323 from by decide];omega
theorem A3_le (x:Nat):A3 8 x≤1085102592571150095:=by
 unfold A3;rw[show repB 8 15=1085102592571150095 from by decide];exact Nat.and_le_right
theorem ones4 (x:Nat)(hx:x≤1085102592571150095):bits BinOp.and IntKind.i64 (wrap64 (IntKind.u64.wrap (IntKind.u64.wrap (IntKind.u64.wrap ((x:Int)+(x:Int) / 256)+IntKind.u64.wrap ((x:Int)+(x:Int) / 256) / 65536)+IntKind.u64.wrap (IntKind.u64.wrap ((x:Int)+(x:Int) / 256)+IntKind.u64.wrap ((x:Int)+(x:Int) / 256) / 65536) / 4294967296))) 127=((QFk x:Nat):Int):=by
 have h1:IntKind.u64.wrap ((x:Int)+(x:Int) / 256)=((x+x / 256:Nat):Int):=by rw[IntKind.wrap_u64];omega
 rw[h1];obtain⟨y,hy⟩:=Ze (x+x / 256);have yl:y≤1089341274573381300:=by omega
 rw[hy];have h2:IntKind.u64.wrap ((y:Int)+(y:Int) / 65536)=((y+y / 65536:Nat):Int):=by rw[IntKind.wrap_u64];omega
 rw[h2];obtain⟨z,hz⟩:=Ze (y+y / 65536);have zl:z≤1089357896609000000:=by omega
 rw[hz];have h3:IntKind.u64.wrap ((z:Int)+(z:Int) / 4294967296)=((z+z / 4294967296:Nat):Int):=by rw[IntKind.wrap_u64];omega
 rw[h3,IntWalk.wrap64_in _ ZO,Qai _ ZO];unfold QFk;dsimp only;rw[hy,hz]
theorem QYr (x:Nat)(hx:x<18446744073709551616)(w:World):
  Calls Tryz.prog 153 #[.int .u64 x] w fun e w'=>e=.returned (.int .i64 (pop 64 x:Nat))∧w=w':=by
 go_enter Tryz.func153,Tryz.ntmps153;go_wp2_with fail;go_ret;refine⟨?_,rfl⟩;simp only[Array.getD_eq_getD_getElem?,List.getElem?_toArray,List.getElem?_cons_zero,List.getElem?_cons_succ,Option.getD_some];rw[ones1 x hx,ones2 _ (A1_lt x),ones3 _ (A2_le _),ones4 _ (A3_le _),Qyt x hx]
end
section
open Go.RowKit
variable [Base]
abbrev miv (l:List Nat):List Value:=l.map fun n:Nat=>iv (n:Int)
theorem QRa:(Tryz.prog.info? 3).map (fun i=>(i.zero,i.size,i.bytes))=some (some (Value.int .i64 0),1,8):=by kernel_rfl
theorem Qep (s:QSet)(u:Value)(w:World)(h:Qi w u s.words):Calls Tryz.prog 94 #[setV s u] w (IntQ ((memS s).length:Nat) w):=by
 obtain⟨a,c,rfl,hm,hc,hcm,hk⟩:=h.cell;obtain⟨n,hn⟩:=Ze s.words.length;obtain⟨W,hW⟩:=Ze (w.alloc (.cells #[.int .i64 s.width,.slice a n c] 52));have B0:Below w.heap.size w W:=by rw[←hW];exact Zb
 have HB0:W.heap[w.heap.size]? = some (.cells #[.int .i64 s.width,.slice a n c] 52 (0,0)):=by rw[←hW];exact heap_alloc_new _ _
 have x0:=(Qa HB0).1 0;have x1:=(Qa HB0).1 1;simp at x0 x1;rw[hn] at hm hc ⊢;have H0:=Zh HB0;have HW:=Zh hW;have BB:=Zh B0;have HN:=Zh hn;have HR:=Zh (show Qi W (.slice a n c) s.words by rw[←hn] at *;exact h.below B0);have HK:=Zh hk;have HOK:=Zh h.2;unfold maxLen at hm;clear hW HB0 B0 hk hn h;rcases Bool.eq_false_or_eq_true (setB s) with hv|hv
 rotate_left
 ·have HV:=Zh hv;rw[QGp hv];clear hv;go_enter Tryz.func94,Tryz.ntmps94;go_wp2_with fail;rw[show w.alloc (.cells #[.int .i64 s.width,.slice a n c] 52)=W from HW.o];refine(QT HV.o _ _ HR.o).mono ?_;rintro e w1 ⟨rfl,b1⟩;have B1:=Zh (BB.o.trans (b1.mono BB.o.size));have L1:=Zh (Qc H0.o b1 (Qb H0.o));clear x0 x1 b1;have x0:=(Qa L1.o).1 0;have x1:=(Qa L1.o).1 1;simp only[Zx,Zy,Zz] at x0 x1;go_wp2;go_ret;exact⟨rfl,B1.o⟩
 have HV:=Zh hv;have HE:=Zh (Qyk hv HOK.o);obtain⟨m,f1,f2,f3⟩:=Qka (QBa hv HOK.o);have hn4:n≤4:=by have:=HN.o;unfold Qj at f3;omega
 clear hv f1 f2 f3;go_enter Tryz.func94,Tryz.ntmps94;go_wp2_with fail;rw[show w.alloc (.cells #[.int .i64 s.width,.slice a n c] 52)=W from HW.o];refine(QT HV.o _ _ HR.o).mono ?_;rintro e w1 ⟨rfl,b1⟩;have B1:=Zh (BB.o.trans (b1.mono BB.o.size));have L1:=Zh (Qc H0.o b1 (Qb H0.o));clear x0 x1 b1;have x0:=(Qa L1.o).1 0;have x1:=(Qa L1.o).1 1;simp only[Zx,Zy,Zz] at x0 x1;go_wp2_with fail;go_loop [3,11] (fun z y=>∃i:Nat,i≤n∧y=.int .i64 i∧z=.int .i64 ((Qcd s.words i).length:Nat)) (fun _ y=>n-(intOf y).toNat)
 case atStart=>exact⟨0,Nat.zero_le _,rfl,rfl⟩
 case round=>
  obtain⟨i,hi,rfl,rfl⟩:=hrel;have ml:=QQf s.words i;by_cases hlt:i<n
  ·obtain⟨x,hx⟩:∃x,s.words[i]? = some x:=⟨_,List.getElem?_eq_getElem (show i<s.words.length by have:=HN.o;omega)⟩;obtain⟨xb,off,rfl,hxb,-,hcell⟩:=HK.o i x hx;have hxl:x<18446744073709551616:=HOK.o x (List.mem_of_getElem? hx);have gc:=(B1.o.cell (p:=⟨xb,off+i,none⟩) hxb).trans hcell;have HS:=Zh (show(Qcd s.words (i+1)).length=(Qcd s.words i).length+pop 64 x by rw[Qwj hx,List.length_append,List.length_map,QRk]);have hp:pop 64 x≤64:=by rw[←QRk];exact QUs x
   obtain⟨a0,ha0⟩:=Ze ((Qcd s.words i).length);obtain⟨p0,hp0⟩:=Ze (pop 64 x);have HP:=Zh hp0;have HA:=Zh ha0;rw[ha0] at ml ⊢;rw[hp0] at hp;clear hx hcell hp0 ha0;go_wp2_with (go_at_call 153;refine(QYr x hxl _).mono ?_;rw[HP.o];rintro e w' ⟨rfl,rfl⟩);go_round
   case rel=>exact⟨i+1,by omega,by go_num,by rw[HS.o,HA.o,HP.o];go_num⟩
   case measure=>simp[intOf];omega
  ·obtain rfl:i=n:=by omega
   have HF:=Zh (show((Qcd s.words i).length:Nat)=(memS s).length by rw[←HE.o,HN.o]);go_wp2;go_ret;exact⟨Qob (by rw[HF.o]),B1.o⟩
theorem Qpr (a:Option Addr)(n c:Nat)(h:n≤c)(hc:c≤9223372036854775807)(w:World):Calls Tryz.prog 183 #[.slice a n c] w fun e w'=>e=.returned (.slice a n n)∧w=w':=by
 have i1:(0:Int)≤(n:Int):=by omega
 have i2:(n:Int)≤(c:Int):=by omega
 have i3:(n:Int)≤(n:Int):=by omega
 go_enter Tryz.func183,Tryz.ntmps183;go_wp2;go_ret;exact⟨rfl,rfl⟩
theorem QJa.clip {w:World}{a:Option Addr}{n c:Nat}{l:List Int}(h:QJa w (.slice a n c) l):QJa w (.slice a n n) l:=by
 obtain⟨n',cap,h1,h2,h3,h4⟩:=h;rcases h4 with⟨⟨a',h4⟩,h0⟩|⟨b,off,c',fr,e4,e5,e6⟩
 ·injection h4 with _ h6 _
  subst h0 h6;exact⟨0,0,h1,Nat.le_refl _,Nat.zero_le _,.inl ⟨⟨a,rfl⟩,rfl⟩⟩
 ·injection e4 with e4 e7 e8
  subst e4 e7 e8;exact⟨n,n,h1,Nat.le_refl _,by omega,.inr ⟨b,off,c',fr,rfl,e5,e6⟩⟩
def QWk (l:List Int)(w:World)(e:Ending)(w':World):Prop:=∃v,e=.returned v∧QJa w' v l∧Below w.heap.size w w'
structure MIn (w0 wr:World)(v:Value)(l:List Nat):Prop where
 below:Below w0.heap.size w0 wr
 own:wr.ownsRow w0.heap.size 3 1 v l.length (miv l)
theorem MIn.push {w0 wr w2:World}{v v2:Value}{l:List Nat}{x:Nat}(h:MIn w0 wr v l)(ho:w2.ownsRow w0.heap.size 3 1 v2 (l.length+1) (miv l++[iv (x:Int)]))(hg:wr.grownBy w2 v.ownBlock):MIn w0 w2 v2 (l++[x]):=
 ⟨h.below.trans (Below.of_grown hg h.own h.below.size),by rw[List.length_append];simpa [miv] using ho⟩
theorem MIn.shape {w0 wr:World}{v:Value}{l:List Nat}(h:MIn w0 wr v l):∃a c,v=.slice a l.length c∧l.length≤c∧c≤maxLen:=QXa h.own
theorem MIn.ints {w0 wr:World}{v:Value}{l:List Nat}(h:MIn w0 wr v l):QJa wr v (l.map fun n:Nat=>(n:Int)):=by
 unfold QJa;rw[List.map_map];exact Qg.of_owns h.own
theorem Qxl {B:Nat}(s:QSet)(u:Value)(w:World)(h:Qi w u s.words)(hT:TabAt 1 Lib.deBruijn64tab w)(hg:1<w.heap.size):Calls Tryz.prog 141 #[setV s u] w (QWk ((memS s).map fun n:Nat=>(n:Int)) w):=by
 obtain⟨a,c,rfl,hm,hc,hcm,hk⟩:=h.cell;obtain⟨n,hn⟩:=Ze s.words.length;obtain⟨W,hW⟩:=Ze (w.alloc (.cells #[.int .i64 s.width,.slice a n c] 52));have B0:Below w.heap.size w W:=by rw[←hW];exact Zb
 have HB0:W.heap[w.heap.size]? = some (.cells #[.int .i64 s.width,.slice a n c] 52 (0,0)):=by rw[←hW];exact heap_alloc_new _ _
 have x0:=(Qa HB0).1 0;have x1:=(Qa HB0).1 1;simp at x0 x1;rw[hn] at hm hc ⊢;have H0:=Zh HB0;have HW:=Zh hW;have BB:=Zh B0;have HN:=Zh hn;have HR:=Zh (show Qi W (.slice a n c) s.words by rw[←hn] at *;exact h.below B0);have HK:=Zh hk;have HOK:=Zh h.2;unfold maxLen at hm;clear hW HB0 B0 hk hn h;have HT:=Zh (show ∀w9,Below w.heap.size w w9→TabAt 1 Lib.deBruijn64tab w9 from fun w9 hb j hj=>(hb.cell (p:=⟨1,j,none⟩) hg).trans (hT j hj));clear hT hg;rcases Bool.eq_false_or_eq_true (setB s) with hv|hv
 rotate_left
 ·have HV:=Zh hv;rw[QGp hv];clear hv;go_enter Tryz.func141,Tryz.ntmps141;go_wp2_with fail;rw[show w.alloc (.cells #[.int .i64 s.width,.slice a n c] 52)=W from HW.o];refine(QT HV.o _ _ HR.o).mono ?_;rintro e w1 ⟨rfl,b1⟩;have B1:=Zh (BB.o.trans (b1.mono BB.o.size));have L1:=Zh (Qc H0.o b1 (Qb H0.o));clear x0 x1 b1;have x0:=(Qa L1.o).1 0;have x1:=(Qa L1.o).1 1;simp only[Zx,Zy,Zz] at x0 x1;go_wp2;go_ret;exact⟨_,rfl,QJa.nil,B1.o⟩
 have HV:=Zh hv;have HE:=Zh (Qyk hv HOK.o);obtain⟨m,f1,f2,f3⟩:=Qka (QBa hv HOK.o);have hn4:n≤4:=by have:=HN.o;unfold Qj at f3;omega
 clear hv f1 f2 f3;go_enter Tryz.func141,Tryz.ntmps141;go_wp2_with fail;rw[show w.alloc (.cells #[.int .i64 s.width,.slice a n c] 52)=W from HW.o];refine(QT HV.o _ _ HR.o).mono ?_;rintro e w1 ⟨rfl,b1⟩;have B1:=Zh (BB.o.trans (b1.mono BB.o.size));have L1:=Zh (Qc H0.o b1 (Qb H0.o));clear x0 x1 b1;have x0:=(Qa L1.o).1 0;have x1:=(Qa L1.o).1 1;simp only[Zx,Zy,Zz] at x0 x1;go_wp2_with fail;have I0:=Zh (show MIn w w1 (.slice none 0 0) (Qcd s.words 0) from⟨B1.o,World.ownsRow_nil _ _ _ _⟩);go_loopw [3,12] (fun z y wr=>∃i:Nat,i≤n∧y=.int .i64 i∧Hid (MIn w wr z (Qcd s.words i))) (fun _ y _=>n-(intOf y).toNat)
 case atStart=>exact⟨0,Nat.zero_le _,rfl,I0⟩
 case round=>
  clear I0;obtain⟨i,hi,rfl,I⟩:=hrel;by_cases hlt:i<n
  ·obtain⟨x,hx⟩:∃x,s.words[i]? = some x:=⟨_,List.getElem?_eq_getElem (show i<s.words.length by have:=HN.o;omega)⟩;obtain⟨xb,off,rfl,hxb,-,hcell⟩:=HK.o i x hx;have hxl:x<18446744073709551616:=HOK.o x (List.mem_of_getElem? hx);have gc:=(I.o.below.cell (p:=⟨xb,off+i,none⟩) hxb).trans hcell;have HS:=Zh (Qwj hx);clear hx hcell;go_wp2_with fail;go_loopw [3,5] (fun z q wr=>∃(y:Nat) (acc:List Nat),q=uv y∧y<18446744073709551616∧acc.length≤64*(i+1)∧Hid (MIn w wr z acc∧acc++(Qjg y).map (64*i + ·)=Qcd s.words (i+1))) (fun _ q _=>(intOf q).toNat)
   case atStart=>exact⟨x,Qcd s.words i,rfl,hxl,by have:=QQf s.words i;omega,I.o,HS.o.symm⟩
   case round=>
    clear I gc;obtain⟨y,acc,rfl,hyl,hal,II⟩:=hrel;by_cases hy:y=0
    ·subst hy;have HI:Hid (MIn w wr u3 (Qcd s.words (i+1))):=Zh (by have h2:=II.o.2;rw[Qap,List.map_nil,List.append_nil] at h2;rw[←h2];exact II.o.1);go_wp2;go_roundw
     case rel=>exact⟨i+1,by omega,by go_num,HI⟩
     case measure=>simp[intOf];omega
    ·have hy1:((y:Int) != 0)=true:=by simpa using hy
     obtain⟨st1,st2⟩:=Qbp hy hyl;obtain⟨k,hk⟩:=Ze (Lib.ctz 64 y);rw[hk] at st1;have ST:=Zh st2;have HKK:=Zh hk;have hcl:=QNs hy;have hand:bits BinOp.and IntKind.u64 (y:Int) ((y:Int)-1)=((y &&& (y-1):Nat):Int):=by
      rw[show((y:Int)-1)=((y-1:Nat):Int) by omega];exact QBl y (y-1) hyl ZO
     obtain⟨q,hq⟩:=Ze (y &&& (y-1));rw[hq] at hand hcl;have HQ:=Zh hq;have OWN:=Zh II.o.1.own;have LE:=Zh II.o.1.below.size;have HTW:=Zh (HT.o _ II.o.1.below);clear st2 hk hq;go_wp2_with first|(go_at_call 182;refine(Qeu y hy hyl _ HTW.o).mono ?_;rw[HKK.o];rintro e w' ⟨rfl,rfl⟩)|(at_builtin;refine Qcb [iv ((i:Int)*64+(k:Int))] rfl _ _ 22 rfl w.heap.size 3 _ 1 8 Tryz.underlying22 QRa rfl ZD _ acc.length _ OWN.o rfl _ rfl rfl rfl rfl (by unfold maxLen;omega) ZO LE.o ?_;intro g cap w6 own2 gr2 q1 q2;have OW2:=Zh own2;have GR2:=Zh gr2;clear own2 gr2 q1 q2)
     have HCA:Hid ((acc++[64*i+k])++(Qjg q).map (64*i + ·)=Qcd s.words (i+1)):=Zh (by rw[←II.o.2,ST.o,HKK.o,HQ.o,List.map_cons,List.append_assoc];rfl);have HLA:(acc++[64*i+k]).length≤64*(i+1):=by
      have h1:=congrArg List.length HCA.o;rw[List.length_append] at h1;have:=QQf s.words (i+1);omega
     have HMI:=Zh (II.o.1.push (x:=64*i+k) (by rw[show iv ((64*i+k:Nat):Int)=iv ((i:Int)*64+(k:Int)) from by congr 1;omega];exact OW2.o) GR2.o);go_roundw
     case rel=>exact⟨q,_,rfl,by omega,HLA,HMI.o,HCA.o⟩
     case measure=>simp[intOf];omega
  ·obtain rfl:i=n:=by omega
   have HF:=Zh (show Qcd s.words i=memS s by rw[←HE.o,HN.o]);obtain⟨za,zc,rfl,zl,zm⟩:=I.o.shape;obtain⟨ln,hln⟩:=Ze ((Qcd s.words i).length);have HLN:=Zh hln;have hl4:=QQf s.words i;rw[hln] at zl hl4 I ⊢;clear hln;go_wp2_with (go_at_call 183;refine(Qpr za ln zc zl (by unfold maxLen at zm;omega) _).mono ?_;rintro e w' ⟨rfl,rfl⟩);go_ret;refine⟨_,rfl,?_,I.o.below⟩;have k:=I.o.ints;rw[HF.o] at k;exact k.clip
end
end Go.Proofs.YtijekimobahgpaaGreatDoor
