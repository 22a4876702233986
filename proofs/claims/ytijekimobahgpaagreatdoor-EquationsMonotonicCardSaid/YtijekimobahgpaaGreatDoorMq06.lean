/- A part of the proof. -/
import Derived.Test.YtijekimobahgpaaGreatDoorMq04
import Derived.Test.YtijekimobahgpaaGreatDoorMq05
set_option linter.unusedVariables false
set_option linter.unusedSimpArgs false
set_option linter.unusedSectionVars false
set_option maxRecDepth 100000
set_option maxHeartbeats 16000000
namespace Go.Proofs.YtijekimobahgpaaGreatDoor
section
open Go.RowKit
variable [Base]
abbrev ST:TypeId:=52
abbrev RT:TypeId:=135
theorem Qwd:(Tryz.prog.info? ST).map (fun i=>(i.zero,i.size,i.bytes))=some (some (Value.agg #[iv 0,.slice none 0 0]),2,32):=by kernel_rfl
theorem QTh:∀(xss:List (List Value)) (a:Nat) (x y:Value),(∀l∈xss,l.length=2)→a<xss.length→(xss.flatten.set (a*2) x).set (a*2+1) y=(xss.set a [x,y]).flatten
|[],_,_,_,_,h=>by simp at h
|l::r,0,x,y,hl,_=>by
  have h2:=hl l (by simp)
  match l,h2 with
 |[p,q],_=>simp
|l::r,a+1,x,y,hl,h=>by
  have h2:=hl l (by simp)
  have ih:=QTh r a x y (fun k hk=>hl k (by simp [hk])) (by simpa using h)
  match l,h2 with
 |[p,q],_=>
   rw [show(a+1)*2=a*2+1+1 by omega]
   simpa using ih
theorem All2.setAt {α β:Type} {P:α→β→Prop}:∀{xs:List α} {ys:List β},All2 P xs ys→∀(a:Nat) {x:α} {y:β},P x y→All2 P (xs.set a x) (ys.set a y)
|[],[],_,_,_,_,_=>trivial
|_::_,_::_,h,0,_,_,hp=>⟨hp,h.2⟩
|_::_,_::_,h,a+1,_,_,hp=>⟨h.1,All2.setAt h.2 a hp⟩
theorem QVa {b:Nat} {w:World} {v0 v1 v2:Value} {t:TypeId} (h:w.heap[b]? = some (.cells #[v0,v1,v2] t (0,0))):
  w.cell? ⟨b,0,none⟩=some v0∧w.cell? ⟨b,1,none⟩=some v1∧w.cell? ⟨b,2,none⟩=some v2:=by
 simp [World.cell?,h]
theorem QZh {w:World} {p g i j o:Nat} {x y:Value} (h:p≠g):((w.setCell ⟨g,i,none⟩ x).setCell ⟨g,j,none⟩ y).cell? ⟨p,o,none⟩=w.cell? ⟨p,o,none⟩:=
 World.cell?_of_block (a:=⟨p,o,none⟩) (by rw [Below.heap_setCell _ _ _ _ h,Below.heap_setCell _ _ _ _ h])
theorem set3o {w:World} {b:Nat} {a0 a1 a2:Value} {t:TypeId} {fr:Nat×Nat} (h:w.heap[b]? = some (.cells #[a0,a1,a2] t fr)) (x0 x1 x2:Value):
  (((w.setCell ⟨b,0,none⟩ x0).setCell ⟨b,1,none⟩ x1).setCell ⟨b,2,none⟩ x2).heap[b]? = some (.cells #[x0,x1,x2] t fr):=by
 simp [World.setCell,Array.getElem?_modify,h]
theorem QLn {T U:TypeId} {w:World} {b:Nat} (h:tyAt w b=some U) (hne:T≠U) (x0 x1 x2:Value):Qf T w (((w.setCell ⟨b,0,none⟩ x0).setCell ⟨b,1,none⟩ x1).setCell ⟨b,2,none⟩ x2):=by
 have s:∀(w:World) (o:Nat) (x:Value),tyAt w b=some U→Qf T w (w.setCell ⟨b,o,none⟩ x)∧tyAt (w.setCell ⟨b,o,none⟩ x) b=some U:=fun w o x h=>⟨Qf.setCell h hne,by rw [QS];exact h⟩
 have s0:=s w 0 x0 h;have s1:=s _ 1 x1 s0.2;have s2:=s _ 2 x2 s1.2;exact s0.1.trans (s1.1.trans s2.1)
structure Opn (z q p:Nat) (t:Qw) (tv:Array Value) (w0 w:World) (gu ofv:Value) (R:List QSet):Prop where
 zs:w0.heap.size=z
 below:Below z w0 w
 bs:Base.b≤z
 zq:z≤q∧q+1<p
 tb:w.heap[q]? = some (.cells tv 55 (0,0))
 rb:w.heap[q+1]? = some (.cells #[iv 0,.slice none 0 0,.slice none 0 0] RT (0,0))
 xb:w.heap[p]? = some (.cells #[iv t.gen.width,gu,ofv] RT (0,0))
 rows:QG Qsa z w ofv R
 gen:Qi w gu t.gen.words
section
variable {z q p:Nat} {t:Qw} {tv:Array Value} {w0 w w':World} {gu ofv:Value} {R:List QSet}
theorem Opn.next (h:Opn z q p t tv w0 w gu ofv R) (b:Below w.heap.size w w'):Opn z q p t tv w0 w' gu ofv R:=
 ⟨h.zs,h.below.trans (b.mono (by have:=h.below.size;have:=h.zs;omega)),h.bs,h.zq,Qc h.tb b (Qb h.tb),Qc h.rb b (Qb h.rb),Qc h.xb b (Qb h.xb),h.rows.below b,h.gen.below b⟩
theorem Opn.push (h:Opn z q p t tv w0 w gu ofv R) {xss:List (List Value)} (ho:w.ownsRow z ST 2 ofv R.length xss.flatten) (hx:All2 (Qsa.C w) xss R) {s:QSet} {u:Value} (hu:Qi w u s.words) {g cap:Nat}
  (ho2:w'.ownsRow z ST 2 (.slice (some ⟨g,0,none⟩) (R.length+1) cap) (R.length+1) (xss.flatten++[iv s.width,u])) (hg:w.grownBy w' ofv.ownBlock):
  Opn z q p t tv w0 (w'.setCell ⟨p,2,none⟩ (.slice (some ⟨g,0,none⟩) (R.length+1) cap)) gu (.slice (some ⟨g,0,none⟩) (R.length+1) cap) (R++[s]):=by
 have hbs:=h.bs;have hzw:z≤w.heap.size:=by have:=h.below.size;have:=h.zs;omega
 have keep:∀k c U,w.heap[k]? = some (Obj.cells c U (0,0))→U≠ST→w'.heap[k]? = some (Obj.cells c U (0,0)):=fun k c U hk hU=>
  (hg.block k (Qb hk) (Qdb ho hk (fun c' fr e=>by injection e with _ e _;exact hU e))).trans hk
 have htq:=keep _ _ _ h.tb (by decide);have hrq:=keep _ _ _ h.rb (by decide);have hxq:=keep _ _ _ h.xb (by decide);have hz:=h.zq;have hT:tyAt w' p=some RT:=Qv hxq (by omega);have hsU:Qf 139 w w':=Qf.grown hg ho (by decide);have hsV:Qf 139 w' (w'.setCell ⟨p,2,none⟩ (.slice (some ⟨g,0,none⟩) (R.length+1) cap)):=Qf.setCell (U:=RT) hT (by decide);have hb1:Below z w w':=Below.of_grown hg ho hzw;refine⟨h.zs,(h.below.trans hb1).setCell (by show z≤p;omega) _,h.bs,h.zq,?_,?_,?_,?_,(h.gen.keep hsU).keep hsV⟩
 ·rw [Below.heap_setCell _ _ _ _ (by show q≠p;omega)];exact htq
 ·rw [Below.heap_setCell _ _ _ _ (by show q+1≠p;omega)];exact hrq
 ·simp [World.setCell,Array.getElem?_modify,hxq]
 ·refine QG.snoc (E:=Qsa) (v:=ofv) (news:=[iv s.width,u]) (Qza ho2 hT (show ST≠RT by decide)) (hx.mono fun _ _ hc=>Qsa.keep (fun U hU=>?_) hc) ⟨u,rfl,(hu.keep hsU).keep hsV⟩;obtain rfl:U=139:=by simpa [Qsa] using hU
  exact hsU.trans hsV
theorem Opn.turn (h:Opn z q p t tv w0 w gu ofv R) {g n c a:Nat} (e:ofv=.slice (some ⟨g,0,none⟩) n c) (hn:R.length=n) (ha:a<n) {s:QSet} {u:Value} (hu:Qi w u s.words):
  Opn z q p t tv w0 ((w.setCell ⟨g,a*2,none⟩ (iv s.width)).setCell ⟨g,a*2+1,none⟩ u) gu ofv (R.set a s):=by
 subst e;obtain⟨xss,ho,hx⟩:=h.rows;have hbs:=h.bs;have hz:=h.zq;rw [hn] at ho;have hgz:z≤g∧g<w.heap.size∧tyAt w g=some ST:=by
  obtain⟨g',e,h1,h2,h3,-⟩:=QWd ho (by omega) h.bs;injection e with e
  injection e with e
  subst e;exact⟨h1,h2,h3⟩
 obtain⟨h1,h2,h3⟩:=hgz;have hT2:tyAt (w.setCell ⟨g,a*2,none⟩ (iv s.width)) g=some ST:=by rw [QS];exact h3
 have hne:∀k c U,w.heap[k]? = some (Obj.cells c U (0,0))→Base.b≤k→U≠ST→k≠g:=fun k c U hk hb hU e=>by
  subst e;rw [Qv hk hb] at h3;injection h3 with h3
  exact hU h3
 have keep:∀k c U,w.heap[k]? = some (Obj.cells c U (0,0))→Base.b≤k→U≠ST→((w.setCell ⟨g,a*2,none⟩ (iv s.width)).setCell ⟨g,a*2+1,none⟩ u).heap[k]? = some (Obj.cells c U (0,0)):=fun k c U hk hb hU=>by
  rw [Below.heap_setCell _ _ _ _ (hne k c U hk hb hU),Below.heap_setCell _ _ _ _ (hne k c U hk hb hU)];exact hk
 have hsU:Qf 139 w ((w.setCell ⟨g,a*2,none⟩ (iv s.width)).setCell ⟨g,a*2+1,none⟩ u):=(Qf.setCell (U:=ST) h3 (by decide)).trans (Qf.setCell (U:=ST) hT2 (by decide));have hlen:=hx.length;refine⟨h.zs,(h.below.setCell (by show z≤g;omega) _).setCell (by show z≤g;omega) _,h.bs,h.zq,keep _ _ _ h.tb (by omega) (by decide),keep _ _ _ h.rb (by omega) (by decide),keep _ _ _ h.xb (by omega) (by decide),⟨xss.set a [iv s.width,u],?_,?_⟩,h.gen.keep hsU⟩
 ·have h5:=Qvd (Qvd ho (a*2) (iv s.width)) (a*2+1) u;rw [QTh xss a _ _ (hx.eachR (fun _ _ hc=>Qsa.len hc)) (by omega)] at h5;rw [List.length_set,hn];exact h5
 ·exact(hx.mono fun _ _ hc=>Qsa.keep (fun U hU=>by
   obtain rfl:U=139:=by simpa [Qsa] using hU
   exact hsU) hc).setAt a ⟨u,rfl,hu.keep hsU⟩
theorem Opn.row (h:Opn z q p t tv w0 w gu ofv R) {a:Nat} {s:QSet} (hs:R[a]? = some s):∃g c u,ofv=.slice (some ⟨g,0,none⟩) R.length c∧(g<w.heap.size∧z≤g∧tyAt w g=some ST)∧Qi w u s.words∧(w.cell? ⟨g,a*2,none⟩=some (iv s.width)∧w.cell? ⟨g,a*2+1,none⟩=some u)∧∀j,w.frozen? ⟨g,j,none⟩=false:=by
 have hr:=h.rows.rows;obtain⟨xss,ho,hx⟩:=h.rows;obtain⟨x,c,rfl,-,-,-,hc⟩:=hr.cell;have hlt:=(List.getElem?_eq_some_iff.1 hs).1;obtain⟨g,e,h1,h2,h3,-,h4⟩:=QWd ho (by omega) h.bs;subst e;obtain⟨b,off,cs,e,h5,⟨u,rfl,h6⟩,h7⟩:=hc a s hs;injection e with e
 injection e with e1 e2
 subst e1 e2;have g0:=h7 0 (show 0<2 by decide);have g1:=h7 1 (show 1<2 by decide);simp only [Qsa,Nat.zero_add,Nat.add_zero,List.getElem?_cons_zero,List.getElem?_cons_succ] at g0 g1;exact⟨g,c,u,rfl,⟨h2,h1,h3⟩,h6,⟨g0,g1⟩,h4⟩
end
def OpenQ (m:Nat) (t:Qw) (w:World) (e:Ending) (w':World):Prop:=∃gu ofv,e=.returned (.agg #[iv t.gen.width,gu,ofv])∧Qi w' gu t.gen.words∧Qoa Qsa w' ofv (Qpi t m)∧Below w.heap.size w w'
theorem QWr (m:Nat) (t:Qw) (hok:OkT m t) (gu ku cu:Value) (w:World) (h:Qja w gu ku cu t) (hbs:Base.b≤w.heap.size):Calls Tryz.prog 73 #[trV t gu ku cu] w (OpenQ m t w):=by
 have hm:=hok.gen.le;have OK:=Zh hok;have HT:=Zh h;have hgw:=hok.gen.width;have hkw:=hok.kill.width;obtain⟨ga,gc,rfl,-,-,-,-⟩:=h.gen.cell;obtain⟨ka,kc,rfl,-,-,-,-⟩:=h.kill.cell;obtain⟨ca,cc,rfl,h63,-,-,hcc⟩:=h.cops.cell;have HC:=Zh hcc;have hc64:=hok.len;simp only [trV];have HGL:=Zh (show t.gen.words.length≤1000000 by
  obtain⟨k,h1,h2,h3⟩:=Qka hok.gen.form;rw [h3];unfold Qj;omega)
 obtain⟨gn,hgn⟩:=Ze t.gen.words.length;obtain⟨kn,hkn⟩:=Ze t.kill.words.length;obtain⟨n,hn⟩:=Ze t.cops.length;have HN:=Zh hn;have HG1:=Zh (hgn▸h.gen:Qi w (.slice ga gn gc) t.gen.words);have HK1:=Zh (hkn▸h.kill:Qi w (.slice ka kn kc) t.kill.words);rw [hgn,hkn,hn,hgw,hkw];rw [hn] at hc64;obtain⟨z,hz⟩:=Ze w.heap.size;obtain⟨W,hW⟩:=Ze ((w.alloc (.cells #[iv m,.slice ga gn gc,iv m,.slice ka kn kc,.slice ca n cc] 55)).alloc (.cells #[iv 0,.slice none 0 0,.slice none 0 0] RT));have HWW:=Zh hW;have HZ:=Zh hz;have BW:=Zh (show Below z w W by rw [←hW,←hz];exact(Zb).alloc (by simp) _);have HX:=Zh (show W.heap[z]? = some (.cells #[iv m,.slice ga gn gc,iv m,.slice ka kn kc,.slice ca n cc] 55 (0,0)) by rw [←hW,←hz,Below.heap_alloc _ _ _ (by simp)];exact heap_alloc_new _ _);have HR:=Zh (show W.heap[z+1]? = some (.cells #[iv 0,.slice none 0 0,.slice none 0 0] RT (0,0)) by rw [←hW,←hz];exact Qda _ _);have HSZ:=Zh (show W.heap.size=z+2 by rw [←hW,←hz];simp);have KC:=Zh (Qog t.gen (.slice ga gn gc) W (HG1.o.below (HZ.o▸BW.o)) HGL.o (by have:=HSZ.o;have:=HZ.o;omega));rw [show setV t.gen (.slice ga gn gc)=.agg #[iv m,.slice ga gn gc] by rw [←hgw]] at KC;clear h hok hcc hW hgn hkn hn;obtain⟨x0,x1,x2,x3,x4⟩:=QJ HX.o;go_enter Tryz.func73,Tryz.ntmps73;go_upto_region 1 with(fail)
 rw [show(w.alloc (.cells #[iv m,.slice ga gn gc,iv m,.slice ka kn kc,.slice ca n cc] 55)).alloc (.cells #[iv 0,.slice none 0 0,.slice none 0 0] RT)=W from HWW.o]
 try rw [hz]
 go_wp2_with fail;refine KC.o.mono ?_;rintro e w1 ⟨u,rfl,hu,b1⟩;have HU:=Zh hu;obtain⟨ua,uc,rfl,-⟩:=hu.cell;obtain⟨un,hun⟩:=Ze t.gen.words.length;rw [show setV t.gen (.slice ua t.gen.words.length uc)=.agg #[iv m,.slice ua un uc] by rw [←hgw,←hun]];rw [hun] at HU;obtain⟨W2,hW2⟩:=Ze (w1.alloc (.cells #[iv m,.slice ua un uc,.slice none 0 0] RT));obtain⟨p,hp⟩:=Ze w1.heap.size;have A2:=Zh (show Below w1.heap.size w1 W2 by rw [←hW2];exact Zb);have HO:=Zh (show Opn z z p t #[iv m,.slice ga gn gc,iv m,.slice ka kn kc,.slice ca n cc] w W2 (.slice ua un uc) (.slice none 0 0) [] from by
  have s1:=b1.size;have s2:=HSZ.o;exact⟨HZ.o,BW.o.trans ((b1.trans (A2.o.mono s1)).mono (by omega)),by have:=HZ.o;omega,⟨Nat.le_refl _,by omega⟩,Qc (Qc HX.o b1 (Qb HX.o)) A2.o (by omega),Qc (Qc HR.o b1 (Qb HR.o)) A2.o (by omega),by rw [hgw,←hW2,←hp];exact heap_alloc_new _ _,QG.nil,HU.o.below A2.o⟩)
 have HW2:=Zh hW2;clear hu b1 hW2 x0 x1 x2 x3 x4;go_upto_region 2 with(fail)
 try rw [hp]
 rw [show w1.alloc (.cells #[iv m,.slice ua un uc,.slice none 0 0] RT)=W2 from HW2.o];obtain⟨x0,x1,x2,x3,x4⟩:=QJ HO.o.tb;go_wp2;clear x0 x1 x2 x3 x4;obtain⟨TV,hTV⟩:∃v:Array Value,#[iv m,.slice ga gn gc,iv m,.slice ka kn kc,.slice ca n cc]=v:=⟨_,rfl⟩;have HTV:=Zh hTV;rw [hTV] at HO;clear hTV;go_loopw [16] (fun y wr=>∃k:Nat,k≤m∧y=.int .i64 k∧Hid (∃V,Opn z z p t TV w wr (.slice ua un uc) V (QGd t m 0 k))) (fun y _=>m-(intOf y).toNat)
 case atStart=>exact⟨0,Nat.zero_le _,rfl,⟨_,HO.o⟩⟩
 case round=>
  obtain⟨k,hk,rfl,HR1⟩:=hrel;by_cases hlt:k<m;rotate_left
  ·obtain rfl:k=m:=by omega
   obtain⟨wd,rfl⟩:∃x:World,x=wr:=⟨_,rfl⟩;obtain⟨V,HV⟩:=HR1.o;have htb:=HV.tb;rw [←HTV.o] at htb;obtain⟨x0,x1,x2,x3,x4⟩:=QJ htb;have HO1:=Zh HV;have hbz:Base.b≤z:=HV.bs;have hpz:z+1<p:=HV.zq.2;clear HR1 HV htb hlt hk;go_wp2;clear x0 x1 x2 x3 x4;go_loopw [47] (fun y wr=>∃j:Nat,j≤n∧y=.int .i64 j∧Hid (∃V,Opn z z p t TV w wr (.slice ua un uc) V (QGd t k j k))) (fun y _=>n-(intOf y).toNat)
   case atStart=>exact⟨0,Nat.zero_le _,rfl,⟨_,HO1.o⟩⟩
   case round=>
    obtain⟨j,hj,rfl,HR2⟩:=hrel;obtain⟨V,HV⟩:=HR2.o;have HO5:=Zh HV;clear HR2 HV;by_cases hlt:j<n;rotate_left
    ·obtain rfl:j=n:=by omega
     obtain⟨va,vc,hve⟩:=HO5.o.rows.slice;rw [Qqb] at hve;subst hve;have HE:=Zh (show QGd t k j k=Qpi t k by rw [←HN.o];exact Qyq t k);obtain⟨hs0,hs1,hs2⟩:=QVa HO5.o.xb;rw [hgw] at hs0;have HR3:=Zh HO5.o.rb;obtain⟨c0,c1,c2⟩:=QVa HR3.o;have f0:=(Qa HR3.o).2 0;have f1:=(Qa HR3.o).2 1;have f2:=(Qa HR3.o).2 2;have e3:=set3o HR3.o (iv k) (.slice ua un uc) (.slice va k vc);obtain⟨g0,g1,g2⟩:=QVa e3;have HT:=Zh (fun (T:TypeId) (hne:T≠RT)=>QLn (T:=T) (Qv HR3.o (by omega)) hne (iv k) (.slice ua un uc) (.slice va k vc));have HB3:=Zh (((HO5.o.below.setCell (show z≤z+1 by omega) (iv k)).setCell (show z≤z+1 by omega) (.slice ua un uc) |>.setCell (show z≤z+1 by omega) (.slice va k vc):Below z w (((wr.setCell ⟨z+1,0,none⟩ (iv k)).setCell ⟨z+1,1,none⟩ (.slice ua un uc)).setCell ⟨z+1,2,none⟩ (.slice va k vc))));have HG3:=Zh (HO5.o.gen.keep (HT.o _ (by decide)));have HW3:=Zh (HE.o▸(HO5.o.rows.rows.keep (fun U hU=>HT.o U (by
      have h2:U=ST∨U=139:=by simpa [Qsa] using hU
      rcases h2 with rfl|rfl
      ·decide
      ·decide))))
     clear e3;go_wp2;refine bodyPost_ret (v:=.agg #[iv k,.slice ua un uc,.slice va k vc]) (by simp [results,Tryz.results73,go_sem,g0,g1,g2]) rfl ⟨_,_,by rw [hgw],HG3.o,HW3.o,?_⟩;rw [HZ.o];exact HB3.o
    ·obtain⟨⟨ci,di⟩,hy⟩:∃y,t.cops[j]? = some y:=⟨_,List.getElem?_eq_getElem (by rw [HN.o];exact hlt)⟩;obtain⟨a,b,e,ha,hb⟩:=OK.o.mem (List.mem_of_getElem? hy);injection e with e1 e2
     subst e1 e2;obtain⟨b4,o4,rfl,hb4,g0,g1⟩:=HC.o j _ hy;simp only at g0 g1;have hb4z:b4<z:=by have:=HZ.o;omega
     have g0:=(HO5.o.below.cell (p:=⟨b4,o4+j*2,none⟩) hb4z).trans g0;have g1:=(HO5.o.below.cell (p:=⟨b4,o4+j*2+1,none⟩) hb4z).trans g1;obtain⟨V1,hV1⟩:=Ze (wr.alloc (.cells #[iv a,iv b] CT));obtain⟨cb,hcb⟩:=Ze wr.heap.size;have B1:=Zh (show Below wr.heap.size wr V1 by rw [←hV1];exact Zb);have HCB:=Zh (show V1.heap[cb]? = some (.cells #[iv a,iv b] CT (0,0)) by rw [←hV1,←hcb];exact heap_alloc_new _ _);have HO6:=Zh (HO5.o.next B1.o);have HV1:=Zh hV1;have PW:=Zh (show(putS (rowK t k j a) b).width=(k:Int) from(QVd t hm j a).width);have HSTEP:=Zh (QWn hm hy hb);obtain⟨g,c,u,rfl,⟨hg1,hg2,hg3⟩,hu,⟨r0,r1⟩,hfz⟩:=HO6.o.row (QLh t k j k a ha);rw [Qqb] at *;rw [(QVd t hm j a).width] at r0;obtain⟨ra,rc,rfl,-⟩:=hu.cell;have HRU:=Zh hu;obtain⟨rn,hrn⟩:=Ze ((rowK t k j a).words.length);rw [hrn] at r1 HRU;have HSS:=Zh (show ∀w',Below V1.heap.size V1 w'→(w'.cell? ⟨p,2,none⟩=some (.slice (some ⟨g,0,none⟩) k c)∧w'.cell? ⟨cb,0,none⟩=some (iv a)∧w'.cell? ⟨cb,1,none⟩=some (iv b)) from fun w' hb=>by
      obtain⟨-,-,a2⟩:=QVa (HO6.o.next hb).xb;obtain⟨c0,c1⟩:=Qq (Qc HCB.o hb (Qb HCB.o));exact⟨a2,c0,c1⟩)
     have HFZ:=Zh (show ∀w',Below V1.heap.size V1 w'→∀j,w'.frozen? ⟨g,j,none⟩=false from fun w' hb j=>(World.frozen?_of_block (hb.block _ hg1)).trans (hfz j));have hgp:p≠g:=fun e=>by
      subst e;rw [Qv HO6.o.xb (by omega)] at hg3;exact absurd hg3 (by decide)
     have hgc:cb≠g:=fun e=>by
      subst e;rw [Qv HCB.o (by have:=HO5.o.below.size;have:=HO5.o.zs;omega)] at hg3;exact absurd hg3 (by decide)
     have HTN:=Zh (fun (x:World) (b:Below V1.heap.size V1 x) (s:QSet) (u:Value) (hu:Qi x u s.words)=>(HO6.o.next b).turn (e:=rfl) (hn:=Qqb t k j k) (ha:=ha) (s:=s) (u:=u) hu);have KW:=Zh (show Calls Tryz.prog 140 #[.agg #[iv k,.slice ra rn rc],iv b] (V1.drewN 1) (QAd (putS (rowK t k j a) b,0) (V1.drewN 1)) by
      have h1:=QPg (rowK t k j a) b (.slice ra rn rc) (V1.drewN 1) (HRU.o.below (Qp (Below.refl _ _) 1)) (by have:=HO6.o.below.size;have:=HO6.o.zs;show Base.b≤V1.heap.size;omega);rw [show setV (rowK t k j a) (.slice ra rn rc)=.agg #[iv k,.slice ra rn rc] by rw [←(QVd t hm j a).width]] at h1;rw [show chgS (rowK t k j a) (b:Int) true=(putS (rowK t k j a) b,0) by
       unfold chgS;rw [if_pos (QVd t hm j a).ok,if_pos ⟨by omega,by rw [(QVd t hm j a).width];omega⟩];simp] at h1
      exact h1)
     clear hV1 hy hu hrn hfz;go_upto_region 13 with(fail)
     try rw [hcb]
     rw [show wr.alloc (.cells #[iv a,iv b] CT)=V1 from HV1.o];clear g0 g1;refine QK (S:=fun w'=>w'.cell? ⟨p,2,none⟩=some (.slice (some ⟨g,0,none⟩) k c)∧w'.cell? ⟨cb,0,none⟩=some (iv a)∧w'.cell? ⟨cb,1,none⟩=some (iv b)) (st:=18) (by kernel_rfl) ?_;have hS0:(fun w':World=>w'.cell? ⟨p,2,none⟩=some (.slice (some ⟨g,0,none⟩) k c)∧w'.cell? ⟨cb,0,none⟩=some (iv a)∧w'.cell? ⟨cb,1,none⟩=some (iv b)) (V1.drewN 1):=(HSS.o (V1.drewN 1) (Qp (Below.refl _ _) 1));refine Zn 0 (some 52) ?v1 hS0 ?run1 ?rest1
     case run1=>intro w hS;obtain⟨s0,s1,s2⟩:=hS;go_simp;rfl
     refine Zn 1 (some 53) ?v2 hS0 ?run2 ?rest2
     case run2=>intro w hS;obtain⟨s0,s1,s2⟩:=hS;go_simp;rfl
     refine Zn 2 (some 54) ?v3 hS0 ?run3 ?rest3
     case run3=>intro w hS;obtain⟨s0,s1,s2⟩:=hS;go_simp;rfl
     refine Zn 3 (some 55) ?v4 hS0 ?run4 ?rest4
     case run4=>intro w hS;obtain⟨s0,s1,s2⟩:=hS;go_simp;rfl
     refine Zn 4 (some 56) ?v5 hS0 ?run5 ?rest5
     case run5=>intro w hS;obtain⟨s0,s1,s2⟩:=hS;go_simp;rfl
     refine Zn 5 (some 57) ?v6 hS0 ?run6 ?rest6
     case run6=>intro w hS;obtain⟨s0,s1,s2⟩:=hS;go_simp;rfl
     refine Zn 6 (some 58) ?v7 hS0 ?run7 ?rest7
     case run7=>intro w hS;obtain⟨s0,s1,s2⟩:=hS;go_simp;rfl
     refine Zn 7 (some 59) ?v8 hS0 ?run8 ?rest8
     case run8=>intro w hS;obtain⟨s0,s1,s2⟩:=hS;go_simp;rfl
     refine Zn 8 (some 60) ?v9 hS0 ?run9 ?rest9
     case run9=>intro w hS;obtain⟨s0,s1,s2⟩:=hS;go_simp;rfl
     refine Zn 10 (some 62) ?v10 hS0 ?run10 ?rest10
     case run10=>intro w hS;obtain⟨s0,s1,s2⟩:=hS;go_simp;rfl
     refine Zn 11 (some 63) ?v11 hS0 ?run11 ?rest11
     case run11=>intro w hS;obtain⟨s0,s1,s2⟩:=hS;go_simp;rfl
     have r0d:(V1.drewN 1).cell? ⟨g,a*2,none⟩=some (iv k):=r0;have r1d:(V1.drewN 1).cell? ⟨g,a*2+1,none⟩=some (.slice ra rn rc):=r1;refine QW 9 (some 61) (.agg #[iv k,.slice ra rn rc]) (V1.drewN 1) rfl (by kernel_rfl) (by kernel_rfl) ?r9 rfl (fun _=>hS0) ?_
     case r9=>go_simp
     clear r0d r1d;refine QP 12 (some 64) 140 #[.agg #[iv k,.slice ra rn rc],iv b] rfl (by kernel_rfl) (by kernel_rfl) (by kernel_rfl) rfl ?_;refine(KW.o).mono ?_;rintro e m1 ⟨fu,rfl,hf,b1⟩;obtain⟨fa,fc,rfl,-⟩:=hf.cell;have HF:=Zh hf;have BB1:=Zh ((Qp (Below.refl _ _) 1).trans b1:Below V1.heap.size V1 m1);clear hS0 hf b1;have hS0:=HSS.o _ BB1.o;obtain⟨fn,hfn⟩:=Ze ((putS (rowK t k j a) b).words.length);simp only [setV,hfn,PW.o];rw [hfn] at HF;clear hfn;refine⟨_,rfl,fun _=>hS0,?_⟩;refine Zn 13 (some 51) ?v12 hS0 ?run12 ?rest12
     case run12=>intro w hS;obtain⟨s0,s1,s2⟩:=hS;go_simp;rfl
     refine Zn 14 (some 65) ?v13 hS0 ?run13 ?rest13
     case run13=>intro w hS;obtain⟨s0,s1,s2⟩:=hS;go_simp;rfl
     refine Zn 15 (some 66) ?v14 hS0 ?run14 ?rest14
     case run14=>intro w hS;obtain⟨s0,s1,s2⟩:=hS;go_simp;rfl
     refine Zn 16 (some 67) ?v15 hS0 ?run15 ?rest15
     case run15=>intro w hS;obtain⟨s0,s1,s2⟩:=hS;go_simp;rfl
     have HO7:=Zh (HO6.o.next BB1.o);have fz:=HFZ.o m1 BB1.o;have f0:=fz (a*2);have f1:=fz (a*2+1);clear fz;have r0:=(BB1.o.cell (p:=⟨g,a*2,none⟩) hg1).trans r0;have r1:=(BB1.o.cell (p:=⟨g,a*2+1,none⟩) hg1).trans r1;have hSF:(fun w':World=>w'.cell? ⟨p,2,none⟩=some (.slice (some ⟨g,0,none⟩) k c)∧w'.cell? ⟨cb,0,none⟩=some (iv a)∧w'.cell? ⟨cb,1,none⟩=some (iv b)) ((m1.setCell ⟨g,a*2,none⟩ (iv k)).setCell ⟨g,a*2+1,none⟩ (.slice fa fn fc)):=by
      have h3:=(QVa HO7.o.xb).2.2;have h4:=Qq (Qc HCB.o BB1.o (Qb HCB.o));exact⟨(QZh hgp).trans h3,(QZh hgc).trans h4.1,(QZh hgc).trans h4.2⟩
     refine Qeb 17 none ((m1.setCell ⟨g,a*2,none⟩ (iv k)).setCell ⟨g,a*2+1,none⟩ (.slice fa fn fc)) rfl (by kernel_rfl) (by kernel_rfl) ?rs1 rfl (fun _=>hSF) ?_
     case rs1=>go_simp
     refine Qu (by kernel_rfl) ?_ _;generalize hA:Act.put _ _ _=A0;simp only [Qba,Qaa,Zu,Zv,Zw] at hA;subst hA;have HO8:=Zh (HTN.o m1 BB1.o _ _ HF.o);have HO9:=Zh (show Opn z z p t TV w ((m1.setCell ⟨g,a*2,none⟩ (iv k)).setCell ⟨g,a*2+1,none⟩ (.slice fa fn fc)) (.slice ua un uc) (.slice (some ⟨g,0,none⟩) k c) (QGd t k (j+1) k) by
      have h8:=HO8.o;rw [PW.o] at h8;rw [HSTEP.o];exact h8)
     clear hS0 f0 f1 r0 r1;go_wp2;go_roundw
     case rel=>exact⟨j+1,by omega,by go_num,⟨_,HO9.o⟩⟩
     case measure=>simp [intOf];omega
  ·obtain⟨V,HV⟩:=HR1.o;have HO1:=Zh HV;have hzr:z≤wr.heap.size:=by have:=HV.below.size;have:=HV.zs;omega
   have hbz:Base.b≤z:=HV.bs;have hpz:z+1<p:=HV.zq.2;have KE:=Zh (Qxe m hm wr);have htb:=HV.tb;rw [←HTV.o] at htb;obtain⟨x0,x1,x2,x3,x4⟩:=QJ htb;clear HV HR1 htb;go_wp2_with fail;refine KE.o.mono ?_;rintro e w3 ⟨eu,rfl,eo,b3⟩;obtain⟨ea,ec,rfl,-⟩:=eo.words.cell;obtain⟨en,hen⟩:=Ze ((Qy m).words.length);rw [hen,show setV (Qy m) (.slice ea en ec)=.agg #[iv m,.slice ea en ec] from rfl];have HE3:=Zh (hen▸eo.words:Qi w3 (.slice ea en ec) (Qy m).words);obtain⟨sb,hsb⟩:=Ze w3.heap.size;obtain⟨V4,hV4⟩:=Ze (w3.alloc (.cells #[iv m,.slice ea en ec] ST));have B4:=Zh (show Below w3.heap.size w3 V4 by rw [←hV4];exact Zb);have HO4:=Zh ((HO1.o.next b3).next B4.o);have HS4:=Zh (show V4.heap[sb]? = some (.cells #[iv m,.slice ea en ec] ST (0,0)) by rw [←hV4,←hsb];exact heap_alloc_new _ _);have HE4:=Zh (HE3.o.below B4.o);have hsz:wr.heap.size≤sb:=by have:=b3.size;omega
   have BB4:=Zh (b3.trans (B4.o.mono b3.size));have HV4:=Zh hV4;clear b3 eo hen hV4 x0 x1 x2 x3 x4;have htb:=HO4.o.tb;rw [←HTV.o] at htb;obtain⟨x0,x1,x2,x3,x4⟩:=QJ htb;go_upto_region 6 with(fail)
   try rw [hsb]
   rw [show w3.alloc (.cells #[iv m,.slice ea en ec] ST)=V4 from HV4.o];clear hsb;obtain⟨b,hb⟩:=Ze (QE t.kill.words k);have KH:=Zh (show Calls Tryz.prog 139 #[.agg #[iv m,.slice ka kn kc],iv k] V4 (Qia b V4) by
    have h1:=QPj t.kill k (.slice ka kn kc) V4 (HK1.o.below (HO4.o.zs▸HO4.o.below));rw [QCj OK.o.kill hlt,hb] at h1;rw [show setV t.kill (.slice ka kn kc)=.agg #[iv m,.slice ka kn kc] by rw [←hkw]] at h1;exact h1)
   have HROW:=Zh (QAq t hm hlt);rw [hb] at HROW;clear hb htb;go_wp2_with fail;refine KH.o.mono ?_;rintro e w5 ⟨rfl,b5⟩;have HO5:=Zh (HO4.o.next b5);have HS5:=Zh (Qc HS4.o b5 (Qb HS4.o));have HE5:=Zh (HE4.o.below b5);have BB5:=Zh (BB4.o.trans (b5.mono BB4.o.size));clear b5 x0 x1 x2 x3 x4 HO4 HS4 HE4 KH KE HE3 B4 HV4 BB4
   cases b with
  |true=>
    have HER:=Zh (show Qi w5 (.slice ea en ec) (rowK t m 0 k).words by rw [HROW.o];exact HE5.o);obtain⟨xss,how,hx⟩:=HO5.o.rows;have hxb:=HO5.o.xb;rw [hgw] at hxb;have PUSH:=Zh (show ∀g cap w',w'.ownsRow z ST 2 (.slice (some ⟨g,0,none⟩) (k+1) cap) (k+1) (xss.flatten++[iv m,.slice ea en ec])→w5.grownBy w' V.ownBlock→Opn z z p t TV w (w'.setCell ⟨p,2,none⟩ (.slice (some ⟨g,0,none⟩) (k+1) cap)) (.slice ua un uc) (.slice (some ⟨g,0,none⟩) (k+1) cap) (QGd t m 0 (k+1))∧w'.heap[p]? = some (.cells #[iv m,.slice ua un uc,V] RT (0,0)) from fun g cap w' ho hg=>by
     have h8:=HO5.o.push how hx (s:=rowK t m 0 k) HER.o (g:=g) (cap:=cap) (w':=w') (by rw [Qqb,(QVd t hm 0 k).width];exact ho) hg;rw [Qqb] at h8;rw [Qlj];exact⟨h8,(hg.block _ (Qb hxb) (Qdb how hxb (by intro c' fr e;injection e with _ e _;exact absurd (show RT=ST from e) (by decide)))).trans hxb⟩)
    rw [Qqb] at how;have OWN:=Zh how;have hzW:z≤w5.heap.size:=by have:=HO5.o.below.size;have:=HO5.o.zs;omega
    obtain⟨s0,s1⟩:=Qq HS5.o;obtain⟨y0,y1,y2⟩:=QVa hxb;clear how hx hxb;go_wp2_with (at_builtin;refine QL [iv m,.slice ea en ec] rfl _ _ _ rfl z ST _ 2 32 Tryz.underlying34 Qwd rfl (by omega) _ _ _ OWN.o rfl rfl rfl rfl (by unfold maxLen;omega) (by omega) hzW ?_;intro g cap w8 ho hg hzg _;have HP8:=Zh (PUSH.o g cap w8 ho hg);have v2:=(Qa HP8.o.2).1 2;have v3:=(Qa HP8.o.2).2 2;simp only [Zx,Zy,Zz] at v2;clear ho hg hzg);go_roundw
    case rel=>exact⟨k+1,by omega,by go_num,⟨_,HP8.o.1⟩⟩
    case measure=>simp [intOf];omega
  |false=>
    have HCH:=Zh (show chgS (Qy m) (k:Int) true=(putS (Qy m) k,0) by
     unfold chgS;rw [if_pos (QOb hm).ok,if_pos ⟨by omega,by show(k:Int)<((m:Nat):Int);omega⟩];simp)
    have KW:=Zh (show Calls Tryz.prog 140 #[.agg #[iv m,.slice ea en ec],iv k] w5 (QAd (putS (Qy m) k,0) w5) by
     have h1:=QPg (Qy m) k (.slice ea en ec) w5 HE5.o (by have:=BB5.o.size;omega);rw [HCH.o] at h1;exact h1)
    obtain⟨s0,s1⟩:=Qq HS5.o;go_wp2_with fail;refine KW.o.mono ?_;rintro e w6 ⟨fu,rfl,hf,b6⟩;obtain⟨fa,fc,rfl,-⟩:=hf.cell;obtain⟨fn,hfn⟩:=Ze ((putS (Qy m) k).words.length);have HF6:=Zh (hfn▸hf:Qi w6 (.slice fa fn fc) (putS (Qy m) k).words);simp only [setV,hfn,show(putS (Qy m) k).width=(m:Int) from rfl];have HS6:=Zh (Qc HS5.o b6 (Qb HS5.o));have BB6:=Zh (BB5.o.trans (b6.mono BB5.o.size));obtain⟨W7,hW7⟩:=Ze ((w6.setCell ⟨sb,0,none⟩ (iv m)).setCell ⟨sb,1,none⟩ (.slice fa fn fc));have HW7:=Zh hW7;have BB7:=Zh (show Below wr.heap.size wr W7 by rw [←hW7];exact(BB6.o.setCell hsz _).setCell hsz _);have HS7:=Zh (show W7.heap[sb]? = some (.cells #[iv m,.slice fa fn fc] ST (0,0)) by rw [←hW7];exact Qvb (Qwb HS6.o _) _);have HT7:tyAt w6 sb=some ST:=Qv HS6.o (by omega);have HER:=Zh (show Qi W7 (.slice fa fn fc) (rowK t m 0 k).words by
     rw [HROW.o,←hW7];exact(HF6.o.keep (Qf.setCell (U:=ST) HT7 (by decide))).keep (Qf.setCell (U:=ST) (by rw [QS];exact HT7) (by decide)))
    have HO7:=Zh (HO1.o.next BB7.o);obtain⟨s0,s1⟩:=Qq HS6.o;have f0:=(Qa HS6.o).2 0;have f1:=(Qa HS6.o).2 1;clear hf b6 hfn hW7 HT7;go_upto_region 8 with(fail)
    rw [show(w6.setCell ⟨sb,0,none⟩ (iv m)).setCell ⟨sb,1,none⟩ (.slice fa fn fc)=W7 from HW7.o];clear s0 s1 f0 f1;obtain⟨xss,how,hx⟩:=HO7.o.rows;have hxb:=HO7.o.xb;rw [hgw] at hxb;have PUSH:=Zh (show ∀g cap w',w'.ownsRow z ST 2 (.slice (some ⟨g,0,none⟩) (k+1) cap) (k+1) (xss.flatten++[iv m,.slice fa fn fc])→W7.grownBy w' V.ownBlock→Opn z z p t TV w (w'.setCell ⟨p,2,none⟩ (.slice (some ⟨g,0,none⟩) (k+1) cap)) (.slice ua un uc) (.slice (some ⟨g,0,none⟩) (k+1) cap) (QGd t m 0 (k+1))∧w'.heap[p]? = some (.cells #[iv m,.slice ua un uc,V] RT (0,0)) from fun g cap w' ho hg=>by
     have h8:=HO7.o.push how hx (s:=rowK t m 0 k) HER.o (g:=g) (cap:=cap) (w':=w') (by rw [Qqb,(QVd t hm 0 k).width];exact ho) hg;rw [Qqb] at h8;rw [Qlj];exact⟨h8,(hg.block _ (Qb hxb) (Qdb how hxb (by intro c' fr e;injection e with _ e _;exact absurd (show RT=ST from e) (by decide)))).trans hxb⟩)
    rw [Qqb] at how;have OWN:=Zh how;have hzW:z≤W7.heap.size:=by have:=HO7.o.below.size;have:=HO7.o.zs;omega
    obtain⟨s0,s1⟩:=Qq HS7.o;obtain⟨y0,y1,y2⟩:=QVa hxb;clear how hx hxb;go_wp2_with (at_builtin;refine QL [iv m,.slice fa fn fc] rfl _ _ _ rfl z ST _ 2 32 Tryz.underlying34 Qwd rfl (by omega) _ _ _ OWN.o rfl rfl rfl rfl (by unfold maxLen;omega) (by omega) hzW ?_;intro g cap w8 ho hg hzg _;have HP8:=Zh (PUSH.o g cap w8 ho hg);have v2:=(Qa HP8.o.2).1 2;have v3:=(Qa HP8.o.2).2 2;simp only [Zx,Zy,Zz] at v2;clear ho hg hzg);go_roundw
    case rel=>exact⟨k+1,by omega,by go_num,⟨_,HP8.o.1⟩⟩
    case measure=>simp [intOf];omega
end
section
open Go.RowKit
variable [Base]
abbrev FNT:TypeId:=55
structure TzIn (B:Nat) (w:World):Prop where
 g:1<B
 bs:Base.b≤B
 tz:TabAt 1 Lib.deBruijn64tab w
theorem TzIn.below {B:Nat} {w w':World} (h:TzIn B w) (hb:Below B w w'):TzIn B w':=⟨h.g,h.bs,fun j hj=>(hb.cell (p:=⟨1,j,none⟩) h.g).trans (h.tz j hj)⟩
structure Cls (z p m:Nat) (t:Qw) (xv:Array Value) (w0 w:World) (gu ku cu:Value) (K:QSet) (C:List Cp):Prop where
 zs:w0.heap.size=z
 below:Below z w0 w
 bs:Base.b≤z
 zp:z+2≤p
 xb:w.heap[z]? = some (.cells xv RT (0,0))
 rb:w.heap[z+1]? = some (.cells #[iv 0,.slice none 0 0,iv 0,.slice none 0 0,.slice none 0 0] FNT (0,0))
 tb:w.heap[p]? = some (.cells #[iv m,gu,iv m,ku,cu] FNT (0,0))
 gen:Qi w gu t.gen.words
 kill:Qi w ku K.words
 kw:K.width=(m:Int)
 cops:Qya z w cu C
section
variable {z p m:Nat} {t:Qw} {xv:Array Value} {w0 w w':World} {gu ku cu:Value} {K:QSet} {C:List Cp}
theorem Cls.next (h:Cls z p m t xv w0 w gu ku cu K C) (b:Below w.heap.size w w'):Cls z p m t xv w0 w' gu ku cu K C:=
 ⟨h.zs,h.below.trans (b.mono (by have:=h.below.size;have:=h.zs;omega)),h.bs,h.zp,Qc h.xb b (Qb h.xb),Qc h.rb b (Qb h.rb),Qc h.tb b (Qb h.tb),h.gen.below b,h.kill.below b,h.kw,h.cops.below b⟩
theorem Cls.zw (h:Cls z p m t xv w0 w gu ku cu K C):z≤w.heap.size:=by have:=h.below.size;have:=h.zs;omega
theorem Cls.turn (h:Cls z p m t xv w0 w gu ku cu K C) {K2:QSet} {u:Value} (hu:Qi w u K2.words) (hk:K2.width=(m:Int)):
  Cls z p m t xv w0 ((w.setCell ⟨p,2,none⟩ (iv m)).setCell ⟨p,3,none⟩ u) gu u cu K2 C:=by
 have hz:=h.zp;have hb:=h.bs;have hT:tyAt w p=some FNT:=Qv h.tb (by omega);have hT2:tyAt (w.setCell ⟨p,2,none⟩ (iv m)) p=some FNT:=by rw [QS];exact hT
 have hs:∀T,T≠FNT→Qf T w ((w.setCell ⟨p,2,none⟩ (iv m)).setCell ⟨p,3,none⟩ u):=fun T hne=>(Qf.setCell hT hne).trans (Qf.setCell hT2 hne)
 have keep:∀k o,w.heap[k]? = some o→k≠p→((w.setCell ⟨p,2,none⟩ (iv m)).setCell ⟨p,3,none⟩ u).heap[k]? = some o:=fun k o hk hne=>by
  rw [Below.heap_setCell _ _ _ _ hne,Below.heap_setCell _ _ _ _ hne];exact hk
 refine⟨h.zs,(h.below.setCell (by show z≤p;omega) _).setCell (by show z≤p;omega) _,h.bs,h.zp,keep _ _ h.xb (by omega),keep _ _ h.rb (by omega),?_,h.gen.keep (hs _ (by decide)),hu.keep (hs _ (by decide)),hk,?_⟩
 ·simp [World.setCell,Array.getElem?_modify,h.tb]
 ·exact Qza (Qza h.cops hT (by decide)) hT2 (by decide)
theorem Cls.off (h:Cls z p m t xv w0 w gu ku cu K C) {b:Nat} (hb:p<b) (hT:tyAt w b=some ST) (o:Nat) (x:Value):Cls z p m t xv w0 (w.setCell ⟨b,o,none⟩ x) gu ku cu K C:=by
 have hz:=h.zp;have keep:∀k ob,w.heap[k]? = some ob→k≠b→(w.setCell ⟨b,o,none⟩ x).heap[k]? = some ob:=fun k ob hk hne=>by
  rw [Below.heap_setCell _ _ _ _ hne];exact hk
 have hs:Qf 139 w (w.setCell ⟨b,o,none⟩ x):=Qf.setCell (U:=ST) hT (by decide);exact⟨h.zs,h.below.setCell (by show z≤b;omega) _,h.bs,h.zp,keep _ _ h.xb (by omega),keep _ _ h.rb (by omega),keep _ _ h.tb (by omega),h.gen.keep hs,h.kill.keep hs,h.kw,Qza h.cops hT (by decide)⟩
theorem Cls.push (h:Cls z p m t xv w0 w gu ku cu K C) {c:Cp} {g cap:Nat} (ho:w'.ownsRow z CT 2 (.slice (some ⟨g,0,none⟩) (C.length+1) cap) (C.length+1) (QHa C++copV c)) (hg:w.grownBy w' cu.ownBlock):
  Cls z p m t xv w0 (w'.setCell ⟨p,4,none⟩ (.slice (some ⟨g,0,none⟩) (C.length+1) cap)) gu ku (.slice (some ⟨g,0,none⟩) (C.length+1) cap) K (C++[c])∧w'.heap[p]? = some (.cells #[iv m,gu,iv m,ku,cu] FNT (0,0)):=by
 have hz:=h.zp;have hb:=h.bs;have keep:∀k c U,w.heap[k]? = some (Obj.cells c U (0,0))→U≠CT→w'.heap[k]? = some (Obj.cells c U (0,0)):=fun k c U hk hU=>
  (hg.block k (Qb hk) (Qdb h.cops hk (fun c' fr e=>by injection e with _ e _;exact hU e))).trans hk
 have hxq:=keep _ _ _ h.xb (by decide);have hrq:=keep _ _ _ h.rb (by decide);have htq:=keep _ _ _ h.tb (by decide);have hT:tyAt w' p=some FNT:=Qv htq (by omega);have hs1:Qf 139 w w':=Qf.grown hg h.cops (by decide);have hs2:Qf 139 w' (w'.setCell ⟨p,4,none⟩ (.slice (some ⟨g,0,none⟩) (C.length+1) cap)):=Qf.setCell (U:=FNT) hT (by decide);refine⟨⟨h.zs,(h.below.trans (Below.of_grown hg h.cops h.zw)).setCell (by show z≤p;omega) _,h.bs,h.zp,?_,?_,?_,(h.gen.keep hs1).keep hs2,(h.kill.keep hs1).keep hs2,h.kw,?_⟩,htq⟩
 ·rw [Below.heap_setCell _ _ _ _ (by show z≠p;omega)];exact hxq
 ·rw [Below.heap_setCell _ _ _ _ (by show z+1≠p;omega)];exact hrq
 ·simp [World.setCell,Array.getElem?_modify,htq]
 ·exact Qya.push (Qza ho hT (by decide))
theorem Cls.new (hz:w0.heap.size=z) (hbs:Base.b≤z) (hb:Below z w0 w) (hp:z+2≤p) (hx:w.heap[z]? = some (.cells xv RT (0,0))) (hr:w.heap[z+1]? = some (.cells #[iv 0,.slice none 0 0,iv 0,.slice none 0 0,.slice none 0 0] FNT (0,0)))
  (ht:w.heap[p]? = some (.cells #[iv 0,.slice none 0 0,iv 0,.slice none 0 0,.slice none 0 0] FNT (0,0))) (hg:Qi w gu t.gen.words) (hk:Qi w ku t.gen.words) (hw:t.gen.width=(m:Int)):
  Cls z p m t xv w0 (((((w.setCell ⟨p,0,none⟩ (iv m)).setCell ⟨p,1,none⟩ gu).setCell ⟨p,2,none⟩ (iv m)).setCell ⟨p,3,none⟩ ku).setCell ⟨p,4,none⟩ (.slice none 0 0)) gu ku (.slice none 0 0) t.gen []:=by
 have hs:=Quc (T:=139) (Qv ht (by omega)) (by decide) (iv m) gu (iv m) ku (.slice none 0 0);exact⟨hz,((((hb.setCell (show z≤p by omega) _).setCell (show z≤p by omega) _).setCell (show z≤p by omega) _).setCell (show z≤p by omega) _).setCell (show z≤p by omega) _,hbs,hp,Qdj hx (by omega) _ _ _ _ _,Qdj hr (by omega) _ _ _ _ _,set5 ht _ _ _ _ _,hg.keep hs,hk.keep hs,hw,Qya.nil⟩
end
theorem Qnr {B:Nat} (m:Nat) (t:Qw) (hok:OkT m t) (u ofv:Value) (w:World) (hu:Qi w u t.gen.words) (hr:Qoa Qsa w ofv (Qpi t m)) (tz:TzIn B w) (hB:B≤w.heap.size):
  Calls Tryz.prog 74 #[.agg #[iv m,u,ofv]] w (QCl (Qlb t m,0) w):=by
 have hm:=hok.gen.le;have OK:=Zh hok;have HRW:=Zh hr;have TZ:=Zh tz;have hgw:=hok.gen.width;have hbs:Base.b≤w.heap.size:=by have:=tz.bs;omega
 have hgB:1<w.heap.size:=by have:=tz.g;omega
 have HU:=Zh hu;obtain⟨ga,gc,rfl,-⟩:=hu.cell;obtain⟨oa,oc,rfl,-,-,-,hoc⟩:=hr.cell;have HOC:=Zh hoc;have hol:(Qpi t m).length=m:=by simp [Qpi]
 rw [hol] at HRW ⊢;have HGL:=Zh (show t.gen.words.length≤1000000 by
  obtain⟨k,h1,h2,h3⟩:=Qka hok.gen.form;rw [h3];unfold Qj;omega)
 obtain⟨gn,hgn⟩:=Ze t.gen.words.length;rw [hgn] at HU ⊢;obtain⟨z,hz⟩:=Ze w.heap.size;obtain⟨W,hW⟩:=Ze ((w.alloc (.cells #[iv m,.slice ga gn gc,.slice oa m oc] RT)).alloc (.cells #[iv 0,.slice none 0 0,iv 0,.slice none 0 0,.slice none 0 0] FNT));have HWW:=Zh hW;have HZ:=Zh hz;have BW:=Zh (show Below z w W by rw [←hW,←hz];exact(Zb).alloc (by simp) _);have HX:=Zh (show W.heap[z]? = some (.cells #[iv m,.slice ga gn gc,.slice oa m oc] RT (0,0)) by rw [←hW,←hz,Below.heap_alloc _ _ _ (by simp)];exact heap_alloc_new _ _);have HR:=Zh (show W.heap[z+1]? = some (.cells #[iv 0,.slice none 0 0,iv 0,.slice none 0 0,.slice none 0 0] FNT (0,0)) by rw [←hW,←hz];exact Qda _ _);have HSZ:=Zh (show W.heap.size=z+2 by rw [←hW,←hz];simp);have HUW:=Zh (HU.o.below (HZ.o▸BW.o):Qi W (.slice ga gn gc) t.gen.words);have KC:=Zh (show ∀x,Below W.heap.size W x→Calls Tryz.prog 106 #[.agg #[iv m,.slice ga gn gc]] x (SetV t.gen x) from fun x b=>by
  have h1:=Qog t.gen (.slice ga gn gc) x (HUW.o.below b) HGL.o (by have:=b.size;have:=HSZ.o;have:=HZ.o;omega);rw [show setV t.gen (.slice ga gn gc)=.agg #[iv m,.slice ga gn gc] by rw [←hgw]] at h1;exact h1)
 have HSS:=Zh (show ∀w',Below W.heap.size W w'→(w'.cell? ⟨z,0,none⟩=some (iv m)∧w'.cell? ⟨z,1,none⟩=some (.slice ga gn gc)) from fun w' hb=>by
  obtain⟨a0,a1,-⟩:=QVa (Qc HX.o hb (Qb HX.o));exact⟨a0,a1⟩)
 clear hu hr tz hoc hW hgn hok;go_enter Tryz.func74,Tryz.ntmps74;go_upto_region 1 with(fail)
 rw [show(w.alloc (.cells #[iv m,.slice ga gn gc,.slice oa m oc] RT)).alloc (.cells #[iv 0,.slice none 0 0,iv 0,.slice none 0 0,.slice none 0 0] FNT)=W from HWW.o]
 try rw [hz]
 obtain⟨XV,hXV⟩:∃v:Array Value,#[iv m,.slice ga gn gc,.slice oa m oc]=v:=⟨_,rfl⟩;have HXV:=Zh hXV;rw [hXV] at HX;clear hXV;go_cut [4] from 9 to 15 (fun s4 wx=>∃(p:Nat) (ku:Value),s4=.pointer (some ⟨p,0,none⟩)∧Hid (Cls z p m t XV w wx (.slice ga gn gc) ku (.slice none 0 0) t.gen []))
 case first=>
  refine QK (S:=fun w'=>w'.cell? ⟨z,0,none⟩=some (iv m)∧w'.cell? ⟨z,1,none⟩=some (.slice ga gn gc)) (st:=7) (by kernel_rfl) ?_;have hS0:(fun w':World=>w'.cell? ⟨z,0,none⟩=some (iv m)∧w'.cell? ⟨z,1,none⟩=some (.slice ga gn gc)) (W.drewN 1):=(HSS.o (W.drewN 1) (Qp (Below.refl _ _) 1));refine Zd 0 (some 9) ?v1 hS0 ?run1 ?rest1
  case run1=>intro w hS;obtain⟨s0,s1⟩:=hS;go_simp;rfl
  refine Zd 1 (some 10) ?v2 hS0 ?run2 ?rest2
  case run2=>intro w hS;obtain⟨s0,s1⟩:=hS;go_simp;rfl
  refine Zd 2 (some 11) ?v3 hS0 ?run3 ?rest3
  case run3=>intro w hS;obtain⟨s0,s1⟩:=hS;go_simp;rfl
  refine Zd 3 (some 12) ?v4 hS0 ?run4 ?rest4
  case run4=>intro w hS;obtain⟨s0,s1⟩:=hS;go_simp;rfl
  refine Qh (rs:=[4,6]) (by kernel_rfl) (by decide) ?_;intro i hi;have hi2:i=4∨i=6:=by simpa using hi
  clear hi;rcases hi2 with rfl|rfl
  ·refine Ql rfl ?_;go_wp2_with fail;refine(KC.o (W.drewN 1) (Qp (Below.refl _ _) 1)).mono ?_;rintro e m1 ⟨ku,rfl,hk,b1⟩;obtain⟨ka,kc,rfl,-⟩:=hk.cell;obtain⟨kn,hkn⟩:=Ze t.gen.words.length;rw [hkn] at hk;rw [show setV t.gen (.slice ka t.gen.words.length kc)=.agg #[iv m,.slice ka kn kc] by rw [←hgw,←hkn]];have BB1:=Zh ((Qp (Below.refl _ _) 1).trans b1:Below W.heap.size W m1);clear hS0;have hS0:=HSS.o m1 BB1.o;go_wp2;refine⟨by first|exact hS0|exact fun _=>hS0,?_⟩;refine Zd 5 (some 14) ?vb hS0 ?runb ?restb
   case runb=>intro w hS;obtain⟨s0,s1⟩:=hS;go_simp;rfl
   have BBV:=Zh (BB1.o.trans ((Below.refl m1.heap.size m1).alloc (Nat.le_refl _) (.cells #[iv 0,.slice none 0 0,iv 0,.slice none 0 0,.slice none 0 0] FNT) |>.mono BB1.o.size));have HT:=Zh (heap_alloc_new m1 (.cells #[iv 0,.slice none 0 0,iv 0,.slice none 0 0,.slice none 0 0] FNT));have HK:=Zh (hk.below ((Below.refl m1.heap.size m1).alloc (Nat.le_refl _) (.cells #[iv 0,.slice none 0 0,iv 0,.slice none 0 0,.slice none 0 0] FNT)));have hpz:z+2≤m1.heap.size:=by have:=BB1.o.size;have:=HSZ.o;omega
   have HBV:=Zh (BW.o.trans (BBV.o.mono (by have:=HSZ.o;omega)));refine QW 6 (some 4) (.pointer (some ⟨m1.heap.size,0,none⟩)) (m1.alloc (.cells #[iv 0,.slice none 0 0,iv 0,.slice none 0 0,.slice none 0 0] FNT)) rfl (by kernel_rfl) (by kernel_rfl) ?ral rfl (fun _=>HSS.o _ BBV.o) ?_
   case ral=>go_simp
   have fz:=Qa HT.o;have f0:=fz.2 0;have f1:=fz.2 1;have f2:=fz.2 2;have f3:=fz.2 3;have f4:=fz.2 4;have c0:=fz.1 0;have c1:=fz.1 1;have c2:=fz.1 2;have c3:=fz.1 3;have c4:=fz.1 4;simp only [Zx,Zy,Zz] at c0 c1 c2 c3 c4;clear hS0;refine Qeb 7 none ((((((m1.alloc (.cells #[iv 0,.slice none 0 0,iv 0,.slice none 0 0,.slice none 0 0] FNT)).setCell ⟨m1.heap.size,0,none⟩ (iv m)).setCell ⟨m1.heap.size,1,none⟩ (.slice ga gn gc)).setCell ⟨m1.heap.size,2,none⟩ (iv m)).setCell ⟨m1.heap.size,3,none⟩ (.slice ka kn kc)).setCell ⟨m1.heap.size,4,none⟩ (.slice none 0 0)) rfl (by kernel_rfl) (by kernel_rfl) ?rsp1 rfl (fun h=>absurd rfl h) ?_
   case rsp1=>go_simp
   refine Qu (by kernel_rfl) ?_ _;have HC:=Zh (Cls.new (z:=z) (p:=m1.heap.size) (m:=m) (t:=t) (xv:=XV) (w0:=w) HZ.o (by omega) HBV.o hpz (Qc HX.o BBV.o (Qb HX.o)) (Qc HR.o BBV.o (Qb HR.o)) HT.o (HUW.o.below BBV.o) HK.o hgw);clear f0 f1 f2 f3 f4 c0 c1 c2 c3 c4 fz;go_wp2;go_meet
   case rel=>exact⟨_,_,rfl,HC.o⟩
  ·refine Ql rfl ?_;go_wp2;have BBA:=Zh ((Qp (Below.refl W.heap.size W) 1).alloc (Nat.le_refl _) (.cells #[iv 0,.slice none 0 0,iv 0,.slice none 0 0,.slice none 0 0] FNT));clear hS0;have hS0:=HSS.o _ BBA.o;refine⟨by first|exact hS0|exact fun _=>hS0,?_⟩;refine QP 4 (some 13) 106 #[.agg #[iv m,.slice ga gn gc]] rfl (by kernel_rfl) (by kernel_rfl) (by kernel_rfl) rfl ?_;refine(KC.o ((W.drewN 1).alloc (.cells #[iv 0,.slice none 0 0,iv 0,.slice none 0 0,.slice none 0 0] FNT)) BBA.o).mono ?_;rintro e m1 ⟨ku,rfl,hk,b1⟩;obtain⟨ka,kc,rfl,-⟩:=hk.cell;obtain⟨kn,hkn⟩:=Ze t.gen.words.length;rw [hkn] at hk;rw [show setV t.gen (.slice ka t.gen.words.length kc)=.agg #[iv m,.slice ka kn kc] by rw [←hgw,←hkn]];have BBV:=Zh (BBA.o.trans (b1.mono (by simp)):Below W.heap.size W m1);clear hS0;have hS0:=HSS.o m1 BBV.o;refine⟨_,rfl,fun _=>hS0,?_⟩;refine Zd 5 (some 14) ?vc hS0 ?runc ?restc
   case runc=>intro w hS;obtain⟨s0,s1⟩:=hS;go_simp;rfl
   have HT:=Zh (Qc (heap_alloc_new (W.drewN 1) (.cells #[iv 0,.slice none 0 0,iv 0,.slice none 0 0,.slice none 0 0] FNT)) b1 (by simp):m1.heap[W.heap.size]? = _);have HK:=Zh hk;have hpz:z+2≤W.heap.size:=by have:=HSZ.o;omega
   have HBV:=Zh (BW.o.trans (BBV.o.mono (by have:=HSZ.o;omega)));have fz:=Qa HT.o;have f0:=fz.2 0;have f1:=fz.2 1;have f2:=fz.2 2;have f3:=fz.2 3;have f4:=fz.2 4;have c0:=fz.1 0;have c1:=fz.1 1;have c2:=fz.1 2;have c3:=fz.1 3;have c4:=fz.1 4;simp only [Zx,Zy,Zz] at c0 c1 c2 c3 c4;clear hS0;refine Qeb 7 none (((((m1.setCell ⟨W.heap.size,0,none⟩ (iv m)).setCell ⟨W.heap.size,1,none⟩ (.slice ga gn gc)).setCell ⟨W.heap.size,2,none⟩ (iv m)).setCell ⟨W.heap.size,3,none⟩ (.slice ka kn kc)).setCell ⟨W.heap.size,4,none⟩ (.slice none 0 0)) rfl (by kernel_rfl) (by kernel_rfl) ?rsp2 rfl (fun h=>absurd rfl h) ?_
   case rsp2=>go_simp
   refine Qu (by kernel_rfl) ?_ _;have HC:=Zh (Cls.new (z:=z) (p:=W.heap.size) (m:=m) (t:=t) (xv:=XV) (w0:=w) HZ.o (by omega) HBV.o hpz (Qc HX.o BBV.o (Qb HX.o)) (Qc HR.o BBV.o (Qb HR.o)) HT.o (HUW.o.below BBV.o) HK.o hgw);clear f0 f1 f2 f3 f4 c0 c1 c2 c3 c4 fz;go_wp2;go_meet
   case rel=>exact⟨_,_,rfl,HC.o⟩
 case rest=>
  obtain⟨p,ku,rfl,HC⟩:=hcut;have hbz:Base.b≤z:=HC.o.bs;have hpz:z+2≤p:=HC.o.zp;have hxb:=HC.o.xb;rw [←HXV.o] at hxb;obtain⟨x0,x1,x2⟩:=QVa hxb;have HC0:=Zh (show Cls z p m t XV w wc (.slice ga gn gc) ku (.slice none 0 0) (QJb t m 0) (copC t m 0) by
   rw [Qno OK.o.gen];exact HC.o)
  clear hxb HC KC;go_wp2;clear x0 x1 x2;go_loopw [18] (fun y wr=>∃(i:Nat) (ku cu:Value),i≤m∧y=.int .i64 i∧Hid (Cls z p m t XV w wr (.slice ga gn gc) ku cu (QJb t m i) (copC t m i))) (fun y _=>m-(intOf y).toNat)
  case atStart=>exact⟨0,_,_,Nat.zero_le _,rfl,HC0.o⟩
  case round=>
   obtain⟨i,ku,cu,hi,rfl,HC1⟩:=hrel;by_cases hlt:i<m;rotate_left
   ·obtain rfl:i=m:=by omega
    have HK:=Zh (QTq t i hm);have hcl:=Qdn OK.o.len (m:=i) i;obtain⟨ca,cc,hce,-⟩:=HC1.o.cops.at_.cell;obtain⟨kka,kkc,hke,-⟩:=HC1.o.kill.cell;obtain⟨kn,hkn⟩:=Ze ((QJb t i i).words.length);obtain⟨cn,hcn⟩:=Ze ((copC t i i).length);rw [hkn] at hke;rw [hcn] at hce hcl;subst hke hce;have HT1:=Zh HC1.o.tb;have HR1:=Zh HC1.o.rb;obtain⟨t0,t1,t2,t3,t4⟩:=QJ HT1.o;obtain⟨c0,c1,c2,c3,c4⟩:=QJ HR1.o;have f0:=(Qa HR1.o).2 0;have f1:=(Qa HR1.o).2 1;have f2:=(Qa HR1.o).2 2;have f3:=(Qa HR1.o).2 3;have f4:=(Qa HR1.o).2 4;have e5:=set5 HR1.o (iv i) (.slice ga gn gc) (iv i) (.slice kka kn kkc) (.slice ca cn cc);have E5:=Zh e5;have HS:=Zh (fun (T:TypeId) (hne:T≠FNT)=>Quc (T:=T) (Qv HR1.o (by omega)) hne (iv i) (.slice ga gn gc) (iv i) (.slice kka kn kkc) (.slice ca cn cc));have HG5:=Zh (HC1.o.gen.keep (HS.o _ (by decide)));have HK5:=Zh (HC1.o.kill.keep (HS.o _ (by decide)));have HC5:=Zh (Qg.same HC1.o.cops.at_ (HS.o CT (by decide)));have HB5:=Zh (show Below z w (((((wr.setCell ⟨z+1,0,none⟩ (iv i)).setCell ⟨z+1,1,none⟩ (.slice ga gn gc)).setCell ⟨z+1,2,none⟩ (iv i)).setCell ⟨z+1,3,none⟩ (.slice kka kn kkc)).setCell ⟨z+1,4,none⟩ (.slice ca cn cc)) from
     ((((HC1.o.below.setCell (by show z≤z+1;omega) _).setCell (by show z≤z+1;omega) _).setCell (by show z≤z+1;omega) _).setCell (by show z≤z+1;omega) _).setCell (by show z≤z+1;omega) _)
    have hkw:=Zh (show(Qlb t i).kill.width=(i:Int) by rw [←HK.o];exact(Qre t hm i).width);clear e5 hkn hcn;go_wp2;obtain⟨g0,g1,g2,g3,g4⟩:=QJ E5.o;refine bodyPost_ret (v:=.tuple #[.agg #[iv i,.slice ga gn gc,iv i,.slice kka kn kkc,.slice ca cn cc],iv 0]) (by simp [results,Tryz.results74,go_sem,g0,g1,g2,g3,g4]) rfl ⟨.slice ga gn gc,.slice kka kn kkc,.slice ca cn cc,?_,⟨HG5.o,?_,HC5.o⟩,?_⟩
    ·rw [show trV (Qlb t i) (.slice ga gn gc) (.slice kka kn kkc) (.slice ca cn cc)=.agg #[iv t.gen.width,.slice ga gn gc,iv (Qlb t i).kill.width,.slice kka kn kkc,.slice ca cn cc] from rfl,hkw.o,hgw]
    ·rw [←HK.o];exact HK5.o
    ·rw [HZ.o];exact HB5.o
   ·obtain⟨b4,o4,cs,rfl,hb4,⟨ru,rfl,hru⟩,hrc⟩:=HOC.o i (mkS m (folB t i)) (by unfold Qpi;rw [List.getElem?_map,List.getElem?_range hlt];rfl);have HROK:=Zh (QIb (folB t i) hm:Ok m (mkS m (folB t i)));have g0:=hrc 0 (show 0<2 by decide);have g1:=hrc 1 (show 1<2 by decide);simp only [Qsa,Nat.add_zero,List.getElem?_cons_zero,List.getElem?_cons_succ] at g0 g1;rw [HROK.o.width] at g0;have hb4z:b4<z:=by have:=HZ.o;omega
    have g0:=(HC1.o.below.cell (p:=⟨b4,o4+i*2,none⟩) hb4z).trans g0;have g1:=(HC1.o.below.cell (p:=⟨b4,o4+i*2+1,none⟩) hb4z).trans g1;obtain⟨ra,rc,rfl,-⟩:=hru.cell;have HRU:=Zh hru;obtain⟨rn,hrn⟩:=Ze ((mkS m (folB t i)).words.length);rw [hrn] at g1 HRU;obtain⟨W4,hW4⟩:=Ze (wr.alloc (.cells #[iv m,.slice ra rn rc] ST));obtain⟨sb,hsb⟩:=Ze wr.heap.size;have B4:=Zh (show Below wr.heap.size wr W4 by rw [←hW4];exact Zb);have HS4:=Zh (show W4.heap[sb]? = some (.cells #[iv m,.slice ra rn rc] ST (0,0)) by rw [←hW4,←hsb];exact heap_alloc_new _ _);have HC4:=Zh (HC1.o.next B4.o);have HW4:=Zh hW4;have hsz:z≤sb:=by have:=HC1.o.zw;omega
    have hpsb:p<sb:=by have:=Qb HC1.o.tb;omega
    clear hW4 hru hrn hrc B4;go_upto_region 5 with(fail)
    rw [show wr.alloc (.cells #[iv m,.slice ra rn rc] ST)=W4 from HW4.o]
    try rw [hsb]
    clear g0 g1;obtain⟨s0,s1⟩:=Qq HS4.o;obtain⟨b,hb⟩:=Ze (folB t i i);have KH:=Zh (show Calls Tryz.prog 139 #[.agg #[iv m,.slice ra rn rc],iv i] W4 (Qia b W4) by
     have h1:=QPj (mkS m (folB t i)) i (.slice ra rn rc) W4 (HRU.o.below (HC4.o.zs▸HC4.o.below));rw [QCj HROK.o hlt,Qpb _ hm,show decide (i<m)=true by simpa using hlt,Bool.true_and,hb] at h1;rw [show setV (mkS m (folB t i)) (.slice ra rn rc)=.agg #[iv m,.slice ra rn rc] by rw [←HROK.o.width]] at h1;exact h1)
    have HKS:=Zh (Qoo t hm hlt);rw [hb] at HKS;clear hb;go_upto_if 26 with(go_at_call 139;refine KH.o.mono ?_;rintro e w5 ⟨rfl,b5⟩)
    have HC5:=Zh (HC4.o.next b5);have HS5:=Zh (Qc HS4.o b5 (Qb HS4.o));clear b5 s0 s1 HC4 HS4 HW4 KH;go_cut [5] from 23 to 35 (fun s5 wx=>∃ku:Value,s5=iv i∧Hid (Cls z p m t XV w wx (.slice ga gn gc) ku cu (QJb t m (i+1)) (copC t m i))∧Hid (wx.heap[sb]? = some (.cells #[iv m,.slice ra rn rc] ST (0,0))))
    case first=>
     cases b with
    |true=>
      have HC6:=Zh (show Cls z p m t XV w w5 (.slice ga gn gc) ku cu (QJb t m (i+1)) (copC t m i) by rw [HKS.o,if_pos rfl];exact HC5.o);go_wp2;go_meet
      case rel=>exact⟨_,rfl,HC6.o,HS5.o⟩
    |false=>
      obtain⟨ka,kc,rfl,-⟩:=HC5.o.kill.cell;obtain⟨kn,hkn⟩:=Ze ((QJb t m i).words.length);rw [hkn] at HC5 HC1;have KW:=Zh (show Calls Tryz.prog 140 #[.agg #[iv m,.slice ka kn kc],iv i] w5 (QAd (putS (QJb t m i) i,0) w5) by
       have h1:=QPg (QJb t m i) i (.slice ka kn kc) w5 HC5.o.kill (by have:=HC5.o.zw;omega);rw [show setV (QJb t m i) (.slice ka kn kc)=.agg #[iv m,.slice ka kn kc] by rw [←(Qre t hm i).width]] at h1;rw [show chgS (QJb t m i) (i:Int) true=(putS (QJb t m i) i,0) by
        unfold chgS;rw [if_pos (Qre t hm i).ok,if_pos ⟨by omega,by rw [(Qre t hm i).width];omega⟩];simp] at h1
       exact h1)
      clear hkn;obtain⟨t0,t1,t2,t3,t4⟩:=QJ HC5.o.tb;go_wp2_with fail;refine KW.o.mono ?_;rintro e w6 ⟨fu,rfl,hf,b6⟩;obtain⟨fa,fc,rfl,-⟩:=hf.cell;have PW:(putS (QJb t m i) i).width=(m:Int):=(Qre t hm i).width;obtain⟨fn,hfn⟩:=Ze ((putS (QJb t m i) i).words.length);have HF6:=Zh (hfn▸hf:Qi w6 (.slice fa fn fc) (putS (QJb t m i) i).words);simp only [setV,hfn,PW];have HC6:=Zh (HC5.o.next b6);have HS6:=Zh (Qc HS5.o b6 (Qb HS5.o));have HC7:=Zh (show Cls z p m t XV w ((w6.setCell ⟨p,2,none⟩ (iv m)).setCell ⟨p,3,none⟩ (.slice fa fn fc)) (.slice ga gn gc) (.slice fa fn fc) cu (QJb t m (i+1)) (copC t m i) by
       rw [HKS.o,if_neg (by simp)];exact HC6.o.turn HF6.o PW)
      have HS7:=Zh (show((w6.setCell ⟨p,2,none⟩ (iv m)).setCell ⟨p,3,none⟩ (.slice fa fn fc)).heap[sb]? = some (.cells #[iv m,.slice ra rn rc] ST (0,0)) by
       rw [Below.heap_setCell _ _ _ _ (by show sb≠p;omega),Below.heap_setCell _ _ _ _ (by show sb≠p;omega)];exact HS6.o)
      clear t0 t1 t2 t3 t4 hf b6 hfn PW;obtain⟨t0,t1,t2,t3,t4⟩:=QJ HC6.o.tb;have f2:=(Qa HC6.o.tb).2 2;have f3:=(Qa HC6.o.tb).2 3;go_wp2;go_meet
      case rel=>exact⟨_,rfl,HC7.o,HS7.o⟩
    case rest=>
     obtain⟨ku,rfl,HC5,HS5⟩:=hcut;obtain⟨s0,s1⟩:=Qq HS5.o;have hxb:=HC5.o.xb;rw [←HXV.o] at hxb;obtain⟨x0,x1,x2⟩:=QVa hxb;obtain⟨r,hr1,hrok,hrb⟩:=QXo HROK.o OK.o.gen;have RB:=Zh hrb;have ROK:=Zh hrok;have KD:=Zh (show Calls Tryz.prog 93 #[.agg #[iv m,.slice ra rn rc],.agg #[iv m,.slice ga gn gc]] wc (SetE (r,0) wc) by
      have h1:=Qbi (mkS m (folB t i)) t.gen (.slice ra rn rc) (.slice ga gn gc) wc (HRU.o.below (HC5.o.zs▸HC5.o.below)) HC5.o.gen;rw [hr1,show setV (mkS m (folB t i)) (.slice ra rn rc)=.agg #[iv m,.slice ra rn rc] by rw [←HROK.o.width],show setV t.gen (.slice ga gn gc)=.agg #[iv m,.slice ga gn gc] by rw [←hgw]] at h1;exact h1)
     clear hr1 hrok hrb hxb;go_wp2_with fail;refine KD.o.mono ?_;rintro e w6 ⟨du,rfl,hd,b6⟩;obtain⟨da,dn,dc,rfl⟩:=hd.shape;have HD6:=Zh hd.words;simp only [setV,ROK.o.width];have HC6:=Zh (HC5.o.next b6);have HS6:=Zh (Qc HS5.o b6 (Qb HS5.o));have hT6:tyAt w6 sb=some ST:=Qv HS6.o (by omega);have hT7:tyAt (w6.setCell ⟨sb,0,none⟩ (iv m)) sb=some ST:=by rw [QS];exact hT6
     obtain⟨W7,hW7⟩:=Ze ((w6.setCell ⟨sb,0,none⟩ (iv m)).setCell ⟨sb,1,none⟩ (.slice da dn dc));have HC7:=Zh (show Cls z p m t XV w W7 (.slice ga gn gc) ku cu (QJb t m (i+1)) (copC t m i) by rw [←hW7];exact(HC6.o.off hpsb hT6 0 _).off hpsb hT7 1 _);have HS7:=Zh (show W7.heap[sb]? = some (.cells #[iv m,.slice da dn dc] ST (0,0)) by rw [←hW7];exact Qvb (Qwb HS6.o _) _);have HD7:=Zh (show Qi W7 (.slice da dn dc) r.words by
      rw [←hW7];exact(HD6.o.keep (Qf.setCell (U:=ST) hT6 (by decide))).keep (Qf.setCell (U:=ST) hT7 (by decide)))
     have HW7:=Zh hW7;have KM:=Zh (show Calls Tryz.prog 141 #[.agg #[iv m,.slice da dn dc]] W7 (QWk ((memS r).map fun n:Nat=>(n:Int)) W7) by
      have h1:=Qxl (B:=B) r (.slice da dn dc) W7 HD7.o ((TZ.o.below (HC7.o.below.mono (by have:=HZ.o;omega))).tz) (by have:=HC7.o.zw;have:=HZ.o;omega);rw [show setV r (.slice da dn dc)=.agg #[iv m,.slice da dn dc] by rw [←ROK.o.width]] at h1;exact h1)
     clear s0 s1 x0 x1 x2 hd b6 hW7 hT6 hT7 KD;obtain⟨s0,s1⟩:=Qq HS6.o;have f0:=(Qa HS6.o).2 0;have f1:=(Qa HS6.o).2 1;go_upto_region 8 with(fail)
     rw [show(w6.setCell ⟨sb,0,none⟩ (iv m)).setCell ⟨sb,1,none⟩ (.slice da dn dc)=W7 from HW7.o];clear s0 s1 f0 f1 HC6 HS6 HD6 HW7;obtain⟨s0,s1⟩:=Qq HS7.o;go_wp2_with fail;refine KM.o.mono ?_;rintro e w8 ⟨mv,rfl,hmv,b8⟩;have HC8:=Zh (HC7.o.next b8);have HMV:=Zh hmv;obtain⟨ma,mc,rfl,hml,-⟩:=hmv.cell;rw [List.length_map] at hml ⊢;rw [List.length_map] at HMV;obtain⟨ml,hmlE⟩:=Ze ((memS r).length);rw [hmlE] at HMV hml ⊢;have HMLE:=Zh hmlE;clear hmv b8 s0 s1 HC7 HS7 HD7 KM HC5 HS5 hmlE;unfold maxLen at hml;obtain⟨wd,rfl⟩:∃x:World,x=wr:=⟨_,rfl⟩;clear HC1;go_wp2;go_loopw [45] (fun y wr=>∃(k:Nat) (cu:Value),k≤ml∧y=.int .i64 k∧Hid (QJa wr (.slice ma ml mc) ((memS r).map fun n:Nat=>(n:Int)))∧Hid (Cls z p m t XV w wr (.slice ga gn gc) ku cu (QJb t m (i+1)) (copC t m i++copK i ((memS r).take k)))) (fun y _=>ml-(intOf y).toNat)
     case atStart=>exact⟨0,cu,Nat.zero_le _,rfl,HMV.o,by unfold Hid;simpa [copK] using HC8.o⟩
     case round=>
      obtain⟨k,cu,hk,rfl,HI,HCk⟩:=hrel;by_cases hlk:k<ml;rotate_left
      ·obtain rfl:k=ml:=by omega
       have HCE:=Zh (show Cls z p m t XV w wr (.slice ga gn gc) ku cu (QJb t m (i+1)) (copC t m (i+1)) by
        have h1:=HCk.o;rw [List.take_of_length_le (by rw [HMLE.o];exact Nat.le_refl _),QKs (t:=t) ROK.o (fun b=>by rw [RB.o,Qpb _ hm])] at h1;rw [QMk];exact h1)
       go_wp2;go_roundw
       case rel=>exact⟨i+1,_,_,by omega,by go_num,HCE.o⟩
       case measure=>simp [intOf];omega
      ·obtain⟨x,hx⟩:∃x,(memS r)[k]? = some x:=⟨_,List.getElem?_eq_getElem (by rw [HMLE.o];exact hlk)⟩;have HTK:=Zh (show(memS r).take (k+1)=(memS r).take k++[x] by rw [List.take_add_one,hx];rfl);obtain⟨ma',mc',e9,-,-,-,hmc⟩:=HI.o.cell;rw [List.length_map,HMLE.o] at e9;injection e9 with e9 _ e10
       subst e9 e10;obtain⟨b5,o5,rfl,hb5,g5⟩:=hmc k (x:Int) (by rw [List.getElem?_map,hx];rfl);clear hmc hx;by_cases e:x=i
       ·have t1:((x:Int) !=(i:Int))=false:=by simpa using (by exact_mod_cast e:(x:Int)=(i:Int))
        have HC9:=Zh (show Cls z p m t XV w wr (.slice ga gn gc) ku cu (QJb t m (i+1)) (copC t m i++copK i ((memS r).take (k+1))) by
         rw [HTK.o,QLk,if_pos e];exact HCk.o)
        clear e;go_wp2;go_roundw
        case rel=>exact⟨k+1,cu,by omega,by go_num,HI.o,HC9.o⟩
        case measure=>simp [intOf];omega
       ·have t1:((x:Int) !=(i:Int))=true:=by simpa using (fun h=>e (by exact_mod_cast h):¬(x:Int)=(i:Int))
        have HST:=Zh (show copC t m i++copK i ((memS r).take (k+1))=(copC t m i++copK i ((memS r).take k))++[((i:Int),(x:Int))] by
         rw [HTK.o,QLk,if_neg e,List.append_assoc])
        have hD:(copC t m i++copK i ((memS r).take k)).length≤64+ml:=by
         have h1:=Qdn OK.o.len (m:=m) i;have h2:(copK i ((memS r).take k)).length≤ml:=by
          unfold copK;rw [List.length_map];refine Nat.le_trans (List.length_filter_le _ _) ?_;rw [List.length_take];omega
         rw [List.length_append];omega
        obtain⟨D,hDD⟩:=Ze (copC t m i++copK i ((memS r).take k));rw [hDD] at HST hD HCk;have hml2:ml≤256:=by
         rw [←HMLE.o];unfold memS;rw [if_pos ROK.o.ok,ROK.o.width];refine Nat.le_trans (List.length_filter_le _ _) ?_;rw [List.length_range];omega
        have HOC2:=Zh HCk.o.cops;have hzW:=HCk.o.zw;have PUSH:=Zh (show ∀g cap w',w'.ownsRow z CT 2 (.slice (some ⟨g,0,none⟩) (D.length+1) cap) (D.length+1) (QHa D++[iv i,iv x])→wr.grownBy w' cu.ownBlock →
          (Cls z p m t XV w (w'.setCell ⟨p,4,none⟩ (.slice (some ⟨g,0,none⟩) (D.length+1) cap)) (.slice ga gn gc) ku (.slice (some ⟨g,0,none⟩) (D.length+1) cap) (QJb t m (i+1)) (D++[((i:Int),(x:Int))])∧w'.heap[p]? = some (.cells #[iv m,.slice ga gn gc,iv m,ku,cu] FNT (0,0))) ∧
          QJa (w'.setCell ⟨p,4,none⟩ (.slice (some ⟨g,0,none⟩) (D.length+1) cap)) (.slice (some ⟨b5,o5,none⟩) ml mc) ((memS r).map fun n:Nat=>(n:Int)) from fun g cap w' ho hg=>by
         have h1:=HCk.o.push (c:=((i:Int),(x:Int))) ho hg;refine⟨h1,(HI.o.same (Qf.grown hg HOC2.o (by decide) (by have:=HCk.o.bs;omega))).same (Qf.setCell (U:=FNT) (show tyAt w' p=some FNT from Qv h1.2 (by have:=HCk.o.bs;have:=HCk.o.zp;omega)) (by decide))⟩)
        obtain⟨t0,t1',t2,t3,t4⟩:=QJ HCk.o.tb;clear e hDD;go_wp2_with (at_builtin;refine QL [iv i,iv x] rfl _ _ _ rfl z CT _ 2 16 Tryz.underlying53 Qbf rfl (by omega) _ _ _ HOC2.o rfl rfl rfl rfl (by unfold maxLen;omega) (by omega) hzW ?_;intro g cap w9 ho hg hzg _;have HP9:=Zh (PUSH.o g cap w9 ho hg);have v2:=(Qa HP9.o.1.2).1 4;have v3:=(Qa HP9.o.1.2).2 4;simp only [Zx,Zy,Zz] at v2;clear ho hg hzg);have HC9:=Zh (HST.o▸HP9.o.1.1);go_roundw
        case rel=>exact⟨k+1,_,by omega,by go_num,HP9.o.2,HC9.o⟩
        case measure=>simp [intOf];omega
end
section
open Go.RowKit
variable [Base]
structure CpL (m a b:Nat) (l:List Cp):Prop where
 len:l.length≤12
 mem:∀c∈l,inC m c=true
 pair:l.Pairwise fun a b=>befC a b=true
 lt:∀c∈l,befC c ((a:Int),(b:Int))=true
theorem Qkg {c:Cp} {a b a' b':Nat} (h:befC c ((a:Int),(b:Int))=true) (h2:a<a'∨(a=a'∧b≤b')):befC c ((a':Int),(b':Int))=true:=by
 unfold befC at h ⊢;simp only [Bool.or_eq_true,Bool.and_eq_true,decide_eq_true_eq] at h ⊢;omega
theorem CpL.nil {m a b:Nat}:CpL m a b []:=⟨by simp,by simp,by simp,by simp⟩
theorem CpL.to {m a b a' b':Nat} {l:List Cp} (h:CpL m a b l) (h2:a<a'∨(a=a'∧b≤b')):CpL m a' b' l:=⟨h.len,h.mem,h.pair,fun c hc=>Qkg (h.lt c hc) h2⟩
theorem CpL.push {m a b:Nat} {l:List Cp} (h:CpL m a b l) (ha:a<m) (hb:b<m) (hl:l.length<12):CpL m a (b+1) (l++[((a:Int),(b:Int))]):=by
 refine⟨by rw [List.length_append];simp;omega,fun c hc=>?_,?_,fun c hc=>?_⟩
 ·rcases List.mem_append.1 hc with hc|hc
  ·exact h.mem c hc
  ·rw [List.mem_singleton] at hc;subst hc;unfold inC;simp;omega
 ·rw [List.pairwise_append];exact⟨h.pair,by simp,fun x hx y hy=>by rw [List.mem_singleton] at hy;subst hy;exact h.lt x hx⟩
 ·rcases List.mem_append.1 hc with hc|hc
  ·exact Qkg (h.lt c hc) (by omega)
  ·rw [List.mem_singleton] at hc;subst hc;unfold befC;simp;omega
theorem CpL.ok {m a b:Nat} {t:Qw} (h:CpL m a b t.cops) (hg:Ok m t.gen) (hk:Ok m t.kill):OkT m t:=
 ⟨hg,hk,by have:=h.len;omega,QPe h.mem h.pair (fun q h=>by cases h)⟩
theorem Qzp {B bt z sz n:Nat} {T:TypeId} {w w':World} {v:Value} {xs:List Value} (h:w.ownsRow z T sz v n xs) (hb:But bt w w') (hz:bt<z):w'.ownsRow z T sz v n xs:=by
 refine⟨h.1,?_⟩;rcases h.2 with hn|⟨g,cap,cur,rfl,hg,hh,rest⟩
 ·exact .inl hn
 ·exact .inr ⟨g,cap,cur,rfl,hg,(hb.block g (Qb hh) (by omega)).trans hh,rest⟩
structure TrG (B bt z q m:Nat) (w wr:World) (t:Qw) (gu ku cu:Value):Prop where
 tape:QZ B wr bt
 but:But bt w wr
 res:wr.heap[z]? = some (.cells #[iv 0,.slice none 0 0,iv 0,.slice none 0 0,.slice none 0 0] FNT (0,0))
 cur:wr.heap[q]? = some (.cells #[iv m,gu,iv m,ku,cu] FNT (0,0))
 gen:Ok m t.gen
 kill:Ok m t.kill
 gw:Qi wr gu t.gen.words
 kw:Qi wr ku t.kill.words
 cops:Qya (q+1) wr cu t.cops
 old:w.heap.size≤z∧z<q∧bt<w.heap.size
section
variable {B bt z q m:Nat} {w wr w2:World} {t:Qw} {gu ku cu:Value}
theorem TrG.qs (h:TrG B bt z q m w wr t gu ku cu):q+1≤wr.heap.size:=Qb h.cur
theorem TrG.bs (h:TrG B bt z q m w wr t gu ku cu):Base.b≤z:=by have:=h.tape.bs;have:=h.old;omega
theorem TrG.next (h:TrG B bt z q m w wr t gu ku cu) (ht:QZ B w2 bt) (hb:But bt wr w2):TrG B bt z q m w w2 t gu ku cu:=by
 obtain⟨o1,o2,o3⟩:=h.old;exact⟨ht,h.but.trans hb,(hb.block z (Qb h.res) (by omega)).trans h.res,(hb.block q (Qb h.cur) (by omega)).trans h.cur,h.gen,h.kill,h.gw.keep (hb.sameT h.tape (by decide)),h.kw.keep (hb.sameT h.tape (by decide)),Qzp (B:=B) h.cops hb (by omega),h.old⟩
theorem TrG.putG {b:Nat} {u2:Value} (h:TrG B bt z q m w wr t gu ku cu) (ho:OwnS wr.heap.size w2 u2 (putS t.gen b)) (hb:Below wr.heap.size wr w2) (hbm:b<m):
  TrG B bt z q m w ((w2.setCell ⟨q,0,none⟩ (iv m)).setCell ⟨q,1,none⟩ u2) { t with gen:=putS t.gen b } u2 ku cu:=by
 obtain⟨o1,o2,o3⟩:=h.old;have hbs:=h.bs;have hge:=h.tape.ge;have hq:=(hb.block q (Qb h.cur)).trans h.cur;have hr:=(hb.block z (Qb h.res)).trans h.res;have hT:tyAt w2 q=some FNT:=Qv hq (by omega);have hs:∀T,T≠FNT→Qf T w2 ((w2.setCell ⟨q,0,none⟩ (iv m)).setCell ⟨q,1,none⟩ u2):=fun T hne=>(Qf.setCell (U:=FNT) hT hne).trans (Qf.setCell (U:=FNT) ((QS q).trans hT) hne)
 refine⟨((h.tape.below hb).setCell (by show q≠bt;omega) (by show B≤q;omega) _).setCell (by show q≠bt;omega) (by show B≤q;omega) _,
  ((h.but.below hb).setCell ⟨q,0,none⟩ (.inr (by show w.heap.size≤q;omega)) _).setCell ⟨q,1,none⟩ (.inr (by show w.heap.size≤q;omega)) _,?_,?_,(h.gen.put hbm).1,h.kill,ho.words.keep (hs _ (by decide)),(h.kw.below hb).keep (hs _ (by decide)),?_,h.old⟩
 ·rw [Below.heap_setCell _ _ _ _ (by show z≠q;omega),Below.heap_setCell _ _ _ _ (by show z≠q;omega)];exact hr
 ·simp [World.setCell,Array.getElem?_modify,hq]
 ·exact Qza (Qza (h.cops.below hb) hT (by decide)) ((QS q).trans hT) (by decide)
theorem TrG.putK {b:Nat} {u2:Value} (h:TrG B bt z q m w wr t gu ku cu) (ho:OwnS wr.heap.size w2 u2 (putS t.kill b)) (hb:Below wr.heap.size wr w2) (hbm:b<m):
  TrG B bt z q m w ((w2.setCell ⟨q,2,none⟩ (iv m)).setCell ⟨q,3,none⟩ u2) { t with kill:=putS t.kill b } gu u2 cu:=by
 obtain⟨o1,o2,o3⟩:=h.old;have hbs:=h.bs;have hge:=h.tape.ge;have hq:=(hb.block q (Qb h.cur)).trans h.cur;have hr:=(hb.block z (Qb h.res)).trans h.res;have hT:tyAt w2 q=some FNT:=Qv hq (by omega);have hs:∀T,T≠FNT→Qf T w2 ((w2.setCell ⟨q,2,none⟩ (iv m)).setCell ⟨q,3,none⟩ u2):=fun T hne=>(Qf.setCell (U:=FNT) hT hne).trans (Qf.setCell (U:=FNT) ((QS q).trans hT) hne)
 refine⟨((h.tape.below hb).setCell (by show q≠bt;omega) (by show B≤q;omega) _).setCell (by show q≠bt;omega) (by show B≤q;omega) _,
  ((h.but.below hb).setCell ⟨q,2,none⟩ (.inr (by show w.heap.size≤q;omega)) _).setCell ⟨q,3,none⟩ (.inr (by show w.heap.size≤q;omega)) _,?_,?_,h.gen,(h.kill.put hbm).1,(h.gw.below hb).keep (hs _ (by decide)),ho.words.keep (hs _ (by decide)),?_,h.old⟩
 ·rw [Below.heap_setCell _ _ _ _ (by show z≠q;omega),Below.heap_setCell _ _ _ _ (by show z≠q;omega)];exact hr
 ·simp [World.setCell,Array.getElem?_modify,hq]
 ·exact Qza (Qza (h.cops.below hb) hT (by decide)) ((QS q).trans hT) (by decide)
theorem TrG.push {c:Cp} {g cap:Nat} (h:TrG B bt z q m w wr t gu ku cu) (ho:w2.ownsRow (q+1) CT 2 (.slice (some ⟨g,0,none⟩) (t.cops.length+1) cap) (t.cops.length+1) (QHa t.cops++copV c)) (hg:wr.grownBy w2 cu.ownBlock):
  TrG B bt z q m w (w2.setCell ⟨q,4,none⟩ (.slice (some ⟨g,0,none⟩) (t.cops.length+1) cap)) { t with cops:=t.cops++[c] } gu ku (.slice (some ⟨g,0,none⟩) (t.cops.length+1) cap)∧w2.heap[q]? = some (.cells #[iv m,gu,iv m,ku,cu] FNT (0,0)):=by
 obtain⟨o1,o2,o3⟩:=h.old;have hbs:=h.bs;have hge:=h.tape.ge;have hB:Below (q+1) wr w2:=Below.of_grown hg h.cops h.qs;have hq:=(hB.block q (by omega)).trans h.cur;have hr:=(hB.block z (by omega)).trans h.res;have hT:tyAt w2 q=some FNT:=Qv hq (by omega);have hs1:Qf 139 wr w2:=Qf.grown hg h.cops (by decide);have hs2:Qf 139 w2 (w2.setCell ⟨q,4,none⟩ (.slice (some ⟨g,0,none⟩) (t.cops.length+1) cap)):=Qf.setCell (U:=FNT) hT (by decide);refine⟨⟨(h.tape.keep (hB.block bt (by omega)) (fun k hk=>hB.block k (by omega)) hB.size).setCell (by show q≠bt;omega) (by show B≤q;omega) _,?_,?_,?_,h.gen,h.kill,(h.gw.keep hs1).keep hs2,(h.kw.keep hs1).keep hs2,Qya.push (Qza ho hT (by decide)),h.old⟩,hq⟩
 ·have hb2:But bt w w2:=⟨hB.os.trans h.but.os,hB.tape.trans h.but.tape,hB.output.trans h.but.output,Nat.le_trans h.but.size hB.size,fun k hk hn=>(hB.block k (by omega)).trans (h.but.block k hk hn)⟩;exact hb2.setCell ⟨q,4,none⟩ (.inr (by show w.heap.size≤q;omega)) _
 ·rw [Below.heap_setCell _ _ _ _ (by show z≠q;omega)];exact hr
 ·simp [World.setCell,Array.getElem?_modify,hq]
end
def QUk (B bt m:Nat) (w:World) (e:Ending) (w':World):Prop:=
 ∃t gu ku cu,e=.returned (trV t gu ku cu)∧OkT m t∧Qja w' gu ku cu t∧QZ B w' bt∧But bt w w'
theorem QWh {B bt:Nat} (m:Nat) (hm:m≤16) (w:World) (ht:QZ B w bt):Calls Tryz.prog 27 #[.pointer (some ⟨bt,0,none⟩),.int .i64 m] w (QUk B bt m w):=by
 have hlt:=ht.lt;obtain⟨z,hz⟩:=Ze w.heap.size;obtain⟨W,hW⟩:=Ze (w.alloc (.cells #[iv 0,.slice none 0 0,iv 0,.slice none 0 0,.slice none 0 0] FNT));have HW:=Zh hW;have HZ:=Zh hz;have HTW:=Zh (show QZ B W bt by rw [←hW];exact ht.alloc _);have HBW:=Zh (show But bt w W by rw [←hW];exact(But.refl bt w).alloc _);have HRW:=Zh (show W.heap[z]? = some (.cells #[iv 0,.slice none 0 0,iv 0,.slice none 0 0,.slice none 0 0] FNT (0,0)) by rw [←hW,←hz];exact heap_alloc_new _ _);have HE:=Zh (show Ok m (Qy m) from QOb (by omega));clear ht hW;go_enter Tryz.func27,Tryz.ntmps27;go_upto_region 1 with(fail)
 rw [show w.alloc (.cells #[iv 0,.slice none 0 0,iv 0,.slice none 0 0,.slice none 0 0] FNT)=W from HW.o]
 try rw [hz]
 go_wp2_with fail;refine(Qjc m (by omega) _).mono ?_;rintro e v1 ⟨gu,rfl,og,b1⟩;obtain⟨ga,gn,gc,rfl⟩:=og.words.shape;have OG:=Zh og;have B1:=Zh (b1.mono (by simp):Below W.heap.size W v1);clear og b1;rw [show setV (Qy m) (.slice ga gn gc)=.agg #[iv m,.slice ga gn gc] from rfl];go_wp2_with fail;refine(Qjc m (by omega) _).mono ?_;rintro e v2 ⟨ku,rfl,ok,b2⟩;obtain⟨ka,kn,kc,rfl⟩:=ok.words.shape;rw [show setV (Qy m) (.slice ka kn kc)=.agg #[iv m,.slice ka kn kc] from rfl];obtain⟨q,hq⟩:=Ze v2.heap.size;obtain⟨V,hV⟩:=Ze (v2.alloc (.cells #[iv m,.slice ga gn gc,iv m,.slice ka kn kc,.slice none 0 0] FNT));have HV:=Zh hV;have I0:=Zh (show TrG B bt z q m w V ⟨Qy m,Qy m,[]⟩ (.slice ga gn gc) (.slice ka kn kc) (.slice none 0 0) by
  have hs1:=B1.o.size;have hs2:=b2.size;have hz2:=Qb HRW.o;have h1:=Qc (Qc HRW.o B1.o hz2) b2 (by omega);rw [←hV,←hq];refine⟨((HTW.o.below B1.o).below (b2.mono (by simp))).alloc _,((HBW.o.below B1.o).below (b2.mono (by simp))).alloc _,Qz _ h1,heap_alloc_new _ _,HE.o,HE.o,?_,ok.words.keep Qf.alloc,Qya.nil,?_⟩
  ·exact(OG.o.words.below (b2.mono (by simp))).keep Qf.alloc
  ·refine⟨by have:=HZ.o;omega,?_,by have:=HZ.o;omega⟩;omega)
 clear ok b2 B1 OG HRW HBW HTW HE hV;go_upto_region 2 with(fail)
 rw [show v2.alloc (.cells #[iv m,.slice ga gn gc,iv m,.slice ka kn kc,.slice none 0 0] FNT)=V from HV.o]
 try rw [hq]
 go_wp2_with fail;go_loopw [6] (fun y wr=>∃(i:Nat) (t:Qw) (gu ku:Value),i≤m∧y=.int .i64 i∧Hid (t.cops=[])∧Hid (TrG B bt z q m w wr t gu ku (.slice none 0 0))) (fun y _=>m-(intOf y).toNat)
 case atStart=>exact⟨0,⟨Qy m,Qy m,[]⟩,_,_,Nat.zero_le _,rfl,Zh rfl,I0.o⟩
 case round=>
  clear I0;obtain⟨i,t,gu,ku,hi,rfl,HN,HI⟩:=hrel;by_cases hlt:i<m;rotate_left
  ·obtain rfl:i=m:=by omega
   have I1:=Zh HI;have C1:=Zh (show CpL i 0 0 t.cops by rw [HN.o];exact CpL.nil);rw [show Value.slice none 0 0=Value.slice none t.cops.length 0 by rw [HN.o];rfl] at I1;clear HI HN;go_wp2;go_loopw [7] (fun y wr=>∃(a:Nat) (t:Qw) (gu ku cu:Value),a≤i∧y=.int .i64 a∧Hid (CpL i a 0 t.cops)∧Hid (TrG B bt z q i w wr t gu ku cu)) (fun y _=>i-(intOf y).toNat)
   case atStart=>exact⟨0,t,_,_,_,Nat.zero_le _,rfl,C1.o,I1.o⟩
   case round=>
    clear I1 C1;obtain⟨a,t,gu,ku,cu,ha,rfl,HC,HI⟩:=hrel;by_cases hlt:a<i;rotate_left
    ·obtain rfl:a=i:=by omega
     have hbq:=HI.o.bs;have hzq:=HI.o.old.2.1;have hzo:=HI.o.old.1;have HT5:=Zh (HC.o.ok HI.o.gen HI.o.kill);obtain⟨ga2,gn2,gc2,rfl⟩:=HI.o.gw.shape;obtain⟨ka2,kn2,kc2,rfl⟩:=HI.o.kw.shape;obtain⟨ca2,cn2,cc2,rfl⟩:∃c n k,cu=.slice c n k:=by
      obtain⟨x,y,e,-⟩:=HI.o.cops.at_.cell;exact⟨_,_,_,e⟩
     have R0:=Zh HI.o.res;obtain⟨t0,t1,t2,t3,t4⟩:=QJ HI.o.cur;obtain⟨c0,c1,c2,c3,c4⟩:=QJ R0.o;have f0:=(Qa R0.o).2 0;have f1:=(Qa R0.o).2 1;have f2:=(Qa R0.o).2 2;have f3:=(Qa R0.o).2 3;have f4:=(Qa R0.o).2 4;have E5:=Zh (set5 R0.o (iv a) (.slice ga2 gn2 gc2) (iv a) (.slice ka2 kn2 kc2) (.slice ca2 cn2 cc2));have HS:=Zh (fun (T:TypeId) (hne:T≠FNT)=>Quc (T:=T) (Qv R0.o (by omega)) hne (iv a) (.slice ga2 gn2 gc2) (iv a) (.slice ka2 kn2 kc2) (.slice ca2 cn2 cc2));have HQ:=Zh (show QUk B bt a w (.returned (.agg #[iv a,.slice ga2 gn2 gc2,iv a,.slice ka2 kn2 kc2,.slice ca2 cn2 cc2])) (((((wr.setCell ⟨z,0,none⟩ (iv a)).setCell ⟨z,1,none⟩ (.slice ga2 gn2 gc2)).setCell ⟨z,2,none⟩ (iv a)).setCell ⟨z,3,none⟩ (.slice ka2 kn2 kc2)).setCell ⟨z,4,none⟩ (.slice ca2 cn2 cc2)) by
      have hge:=HI.o.tape.ge;have hbw:=HI.o.old.2.2;have hne:∀o:Nat,(⟨z,o,none⟩:Addr).block≠bt:=fun o=>by show z≠bt;omega
      have hB:∀o:Nat,B≤(⟨z,o,none⟩:Addr).block:=fun o=>by show B≤z;omega
      have ho:∀o:Nat,w.heap.size≤(⟨z,o,none⟩:Addr).block:=fun o=>hzo
      refine⟨t,.slice ga2 gn2 gc2,.slice ka2 kn2 kc2,.slice ca2 cn2 cc2,?_,HT5.o,⟨HI.o.gw.keep (HS.o _ (by decide)),HI.o.kw.keep (HS.o _ (by decide)),Qg.same HI.o.cops.at_ (HS.o CT (by decide))⟩,
       ((((HI.o.tape.setCell (hne _) (hB _) _).setCell (hne _) (hB _) _).setCell (hne _) (hB _) _).setCell (hne _) (hB _) _).setCell (hne _) (hB _) _,
       ((((HI.o.but.setCell _ (.inr (ho _)) _).setCell _ (.inr (ho _)) _).setCell _ (.inr (ho _)) _).setCell _ (.inr (ho _)) _).setCell _ (.inr (ho _)) _⟩
      show _=Ending.returned (.agg #[iv t.gen.width,_,iv t.kill.width,_,_]);rw [HI.o.gen.width,HI.o.kill.width])
     go_wp2;obtain⟨g0,g1,g2,g3,g4⟩:=QJ E5.o;exact bodyPost_ret (v:=.agg #[iv a,.slice ga2 gn2 gc2,iv a,.slice ka2 kn2 kc2,.slice ca2 cn2 cc2]) (by simp [results,Tryz.results27,go_sem,g0,g1,g2,g3,g4]) rfl HQ.o
    ·go_wp2;go_loopw [8] (fun y wr=>∃(b:Nat) (t:Qw) (gu ku cu:Value),b≤i∧y=.int .i64 b∧Hid (CpL i a b t.cops)∧Hid (TrG B bt z q i w wr t gu ku cu)) (fun y _=>i-(intOf y).toNat)
     case atStart=>exact⟨0,t,_,_,_,Nat.zero_le _,rfl,HC,HI⟩
     case round=>
      clear HI HC;obtain⟨b,t,gu,ku,cu,hb,rfl,HC,HI⟩:=hrel;obtain⟨ca,cc,rfl,-⟩:=HI.o.cops.at_.cell;have hln:=HC.o.len;obtain⟨n,hn⟩:=Ze t.cops.length;rw [hn] at HI hln;have HL:=Zh hn;clear hn;obtain⟨L0,L1,L2,L3,L4⟩:=QJ HI.o.cur;have hai:(a:Int)+1=((a+1:Nat):Int):=by omega
      by_cases hlb:b<i;rotate_left
      ·have HC2:=Zh (HC.o.to (a':=a+1) (b':=0) (by omega));obtain rfl:b=i:=by omega
       clear L0 L1 L2 L3 L4 hai;go_wp2;go_roundw
       case rel=>exact⟨a+1,t,_,_,_,by omega,by go_num,HC2.o,HI.o⟩
       case measure=>simp [intOf];omega
      ·by_cases h12:n<12;rotate_left
       ·have HC2:=Zh (HC.o.to (a':=a+1) (b':=0) (by omega));obtain rfl:n=12:=by omega
        clear hai;go_wp2;go_roundw
        case rel=>exact⟨a+1,t,_,_,_,by omega,by go_num,HC2.o,HI.o⟩
        case measure=>simp [intOf];omega
       ·have t12:decide ((n:Int)<12)=true:=by simp;omega
        clear hai;go_upto_if 56 with(go_at_call 16;refine(QMc HI.o.tape (2*(i:Int)) (by omega)).mono ?_;rintro e w2 ⟨x,x1,x2,rfl,ht2,hb2⟩;have J:=Zh (HI.o.next ht2 hb2);clear ht2 hb2 L0 L1 L2 L3 L4)
        have HC2:=Zh (HC.o.to (a':=a) (b':=b+1) (by omega));have HC3:=Zh (HC.o.push hlt hlb (by rw [HL.o];exact h12));by_cases h1:x=1;rotate_left
        ·have t1:(x==1)=false:=by simpa using h1
         clear h1 HC3;go_wp2;go_roundw
         case rel=>exact⟨b+1,t,_,_,_,by omega,by go_num,HC2.o,J.o⟩
         case measure=>simp [intOf];omega
        ·subst h1;clear HC2;have hqw:=J.o.qs;have hbq:=J.o.bs;have hzq:=J.o.old.2.1;have HO:=Zh (show w2.ownsRow (q+1) CT 2 (.slice ca n cc) n (QHa t.cops) by have h:=J.o.cops;unfold Qya at h;rw [HL.o] at h;exact h);have PUSH:=Zh (show ∀g cap w',w'.ownsRow (q+1) CT 2 (.slice (some ⟨g,0,none⟩) (n+1) cap) (n+1) (QHa t.cops++[iv a,iv b])→w2.grownBy w' (Value.slice ca n cc).ownBlock →
           TrG B bt z q i w (w'.setCell ⟨q,4,none⟩ (.slice (some ⟨g,0,none⟩) (n+1) cap)) { t with cops:=t.cops++[((a:Int),(b:Int))] } gu ku (.slice (some ⟨g,0,none⟩) (n+1) cap)∧w'.heap[q]? = some (.cells #[iv i,gu,iv i,ku,.slice ca n cc] FNT (0,0)) from fun g cap w' ho hg=>by
          have hl:=HL.o;have h:=J.o.push (c:=((a:Int),(b:Int))) (g:=g) (cap:=cap) (by rw [hl];exact ho) hg;rw [hl] at h;exact h)
         obtain⟨L0,L1,L2,L3,L4⟩:=QJ J.o.cur;go_wp2_with (at_builtin;refine QL [iv a,iv b] rfl _ _ _ rfl (q+1) CT _ 2 16 Tryz.underlying53 Qbf rfl (by omega) _ _ _ HO.o rfl rfl rfl rfl (by unfold maxLen;omega) (by omega) hqw ?_;intro g cap w9 ho hg hzg _;have HP9:=Zh (PUSH.o g cap w9 ho hg);have v2:=(Qa HP9.o.2).1 4;have v3:=(Qa HP9.o.2).2 4;simp only [Zx,Zy,Zz] at v2;clear ho hg hzg L0 L1 L2 L3 L4);go_roundw
         case rel=>exact⟨b+1,{ t with cops:=t.cops++[((a:Int),(b:Int))] },_,_,_,by omega,by go_num,HC3.o,HP9.o.1⟩
         case measure=>simp [intOf];omega
  ·obtain⟨ga,gn,gc,rfl⟩:=HI.o.gw.shape;obtain⟨ka,kn,kc,rfl⟩:=HI.o.kw.shape;go_upto_region 6 with(go_at_call 16;refine(QMc HI.o.tape 6 (by omega)).mono ?_;rintro e w2 ⟨x,x1,x2,rfl,ht2,hb2⟩;have J:=Zh (HI.o.next ht2 hb2);clear ht2 hb2)
   obtain⟨L0,L1,L2,L3,L4⟩:=QJ J.o.cur;have F0:=(Qa J.o.cur).2 0;have F1:=(Qa J.o.cur).2 1;have F2:=(Qa J.o.cur).2 2;have F3:=(Qa J.o.cur).2 3;by_cases h1:x=1
   ·subst h1;go_wp2_with fail;refine(Qfl J.o.gen.width i (.slice ga gn gc) _ J.o.gen.form hlt J.o.gw).mono ?_;rintro e w3 ⟨u3,rfl,ho,b3⟩;obtain⟨ta,tn,tc,rfl⟩:=ho.words.shape;have J3:=Zh (J.o.putG ho b3 hlt);have L0:=(b3.cell (p:=⟨q,0,none⟩) (Qb J.o.cur)).trans L0;have L1:=(b3.cell (p:=⟨q,1,none⟩) (Qb J.o.cur)).trans L1;have F0:=(b3.frozen (p:=⟨q,0,none⟩) (Qb J.o.cur)).trans F0;have F1:=(b3.frozen (p:=⟨q,1,none⟩) (Qb J.o.cur)).trans F1;rw [show setV (putS t.gen i) (.slice ta tn tc)=.agg #[iv m,.slice ta tn tc] by unfold setV;rw [show(putS t.gen i).width=t.gen.width from rfl,J.o.gen.width]];clear ho b3 L2 L3 L4 F2 F3;go_wp2;go_roundw
    case rel=>exact⟨i+1,{ t with gen:=putS t.gen i },_,_,by omega,by go_num,HN.o,J3.o⟩
    case measure=>simp [intOf];omega
   ·have t1:(x==1)=false:=by simpa using h1
    by_cases h2:x=2∨x=3
    ·have h23:(x==2)=true∨((x==2)=false∧(x==3)=true):=by
      rcases h2 with rfl|rfl
      ·exact .inl rfl
      ·exact .inr ⟨rfl,rfl⟩
     clear h1 h2;rcases h23 with t2|⟨t2,t3⟩
     ·go_wp2_with fail;refine(Qfl J.o.kill.width i (.slice ka kn kc) _ J.o.kill.form hlt J.o.kw).mono ?_;rintro e w3 ⟨u3,rfl,ho,b3⟩;obtain⟨ta,tn,tc,rfl⟩:=ho.words.shape;have J3:=Zh (J.o.putK ho b3 hlt);have L2:=(b3.cell (p:=⟨q,2,none⟩) (Qb J.o.cur)).trans L2;have L3:=(b3.cell (p:=⟨q,3,none⟩) (Qb J.o.cur)).trans L3;have F2:=(b3.frozen (p:=⟨q,2,none⟩) (Qb J.o.cur)).trans F2;have F3:=(b3.frozen (p:=⟨q,3,none⟩) (Qb J.o.cur)).trans F3;rw [show setV (putS t.kill i) (.slice ta tn tc)=.agg #[iv m,.slice ta tn tc] by unfold setV;rw [show(putS t.kill i).width=t.kill.width from rfl,J.o.kill.width]];clear ho b3 L0 L1 L4 F0 F1;go_wp2;go_roundw
      case rel=>exact⟨i+1,{ t with kill:=putS t.kill i },_,_,by omega,by go_num,HN.o,J3.o⟩
      case measure=>simp [intOf];omega
     ·go_wp2_with fail;refine(Qfl J.o.kill.width i (.slice ka kn kc) _ J.o.kill.form hlt J.o.kw).mono ?_;rintro e w3 ⟨u3,rfl,ho,b3⟩;obtain⟨ta,tn,tc,rfl⟩:=ho.words.shape;have J3:=Zh (J.o.putK ho b3 hlt);have L2:=(b3.cell (p:=⟨q,2,none⟩) (Qb J.o.cur)).trans L2;have L3:=(b3.cell (p:=⟨q,3,none⟩) (Qb J.o.cur)).trans L3;have F2:=(b3.frozen (p:=⟨q,2,none⟩) (Qb J.o.cur)).trans F2;have F3:=(b3.frozen (p:=⟨q,3,none⟩) (Qb J.o.cur)).trans F3;rw [show setV (putS t.kill i) (.slice ta tn tc)=.agg #[iv m,.slice ta tn tc] by unfold setV;rw [show(putS t.kill i).width=t.kill.width from rfl,J.o.kill.width]];clear ho b3 L0 L1 L4 F0 F1;go_wp2;go_roundw
      case rel=>exact⟨i+1,{ t with kill:=putS t.kill i },_,_,by omega,by go_num,HN.o,J3.o⟩
      case measure=>simp [intOf];omega
    ·have t2:(x==2)=false:=by simp;omega
     have t3:(x==3)=false:=by simp;omega
     clear h1 h2 L0 L1 L2 L3 L4 F0 F1 F2 F3;go_wp2;go_roundw
     case rel=>exact⟨i+1,_,_,_,by omega,by go_num,HN.o,J.o⟩
     case measure=>simp [intOf];omega
end
section
open Go.RowKit
variable [Base]
theorem QVo {B z:Nat} (nb eb:Nat) {w0 w:World} (kw:KwIn B w0) (hB:B≤w0.heap.size) (hz:w0.heap.size=z) (p:List Qo) (v:Value) (h:QAa w0 v p) (hv:QMa p=true) (hf:∀f∈p,∀b∈f.blocks,∀s∈b.stmts,FitS s) (b0:Below z w0 w)
  (St:List QD→World→Prop) (HA:∀d x y,St d x→Below x.heap.size x y→St d y)
  (HS:∀(d:List QD) (s:QD) (r:List QD) (u t:Value) (x:World),QH p=d++s::r→St d x→Below z w0 x→Qea w0 u s.uses→(∃a n c,t=.slice a n c) →
   Calls Tryz.prog 193 #[.agg #[iv s.op,sv s.dfn,u,t],.pointer (some ⟨nb,0,none⟩),.pointer (some ⟨eb,0,none⟩)] x (fun e y=>e=.returned (.tuple #[])∧St (d++[s]) y∧Below z x y))
  (s0:St [] w):
  Calls Tryz.prog 104 #[.agg #[v],.func (.func 193) #[] #[.pointer (some ⟨nb,0,none⟩),.pointer (some ⟨eb,0,none⟩)]] w (fun e y=>e=.returned (.tuple #[])∧St (QH p) y∧Below z w0 y):=by
 have zw:z≤w.heap.size:=by have:=b0.size;omega
 have C0:=(Below.refl w.heap.size w).alloc (Nat.le_refl _) (.cells #[v] 25);have B0:=b0.trans (C0.mono zw);have HV:=Zh (QFe (w:=w.alloc (.cells #[v] 25)) (kw.keep fun k hk=>B0.block k (by omega)) (by simp;omega) p v (h.keep (Qf.below (hz▸B0)) (Qf.below (hz▸B0)) (Qf.below (hz▸B0)) (Qf.below (hz▸B0))) hf);rw [hv] at HV;have S0:=Zh (HA _ _ _ s0 C0);have HHA:=Zh HA;have HHS:=Zh HS;obtain⟨a,c,rfl,hn,hc⟩:=h.cell;obtain⟨n,hl⟩:=Ze p.length;rw [hl] at hn HV S0 ⊢;have n8:n≤8:=by have:=(QUc hv).1;omega
 have HL:=Zh hl;have HC:=Zh hc;have HF:=Zh hf;have HW:=Zh (QUc hv);rw [hl] at B0;have HB0:=Zh B0;have hbs:Base.b≤z:=by have:=kw.bs;omega
 clear h hc kw B0 hl hf b0 hv C0 s0 HA HS hn;go_enter Tryz.func104,Tryz.ntmps104;go_wp2_with fail;refine HV.o.mono ?_;rintro e w1 ⟨rfl,b⟩;have p0:w1.heap[w.heap.size]? = some (.cells #[.slice a n c] 25 (0,0)):=(b.block w.heap.size (by simp)).trans (heap_alloc_new _ _);have S1:=Zh (HHA.o _ _ _ S0.o b);have hsz:=b.size;simp at hsz;have B1:=Zh (HB0.o.trans (b.mono (by simp;omega)));obtain⟨bp,hbp⟩:=Ze w.heap.size;rw [hbp] at p0 hsz zw;rw [hbp];have HP:=Zh p0;have q0:=(Qd p0).1 0;simp at q0;clear b p0 hbp HB0 S0 HV;go_wp2;clear q0;go_loopw [16] (fun x wr=>∃i:Nat,i≤n∧x=.int .i64 i∧Hid (Below z w0 wr)∧z≤wr.heap.size∧Hid (St (QH (p.take i)) wr)) (fun x _=>n-(intOf x).toNat)
 case atStart=>exact⟨0,Nat.zero_le _,rfl,B1,by omega,S1⟩
 case round=>
  obtain⟨i,hi,rfl,HB,hzr,HSt⟩:=hrel;by_cases hlt:i<n
  ·obtain⟨f,hf2⟩:∃f,p[i]? = some f:=⟨_,List.getElem?_eq_getElem (show i<p.length by have:=HL.o;omega)⟩;obtain⟨fb,off,bv,rfl,hfb,g0,g1,hbl⟩:=HC.o i f hf2;have g0:=(HB.o.cell (p:=⟨fb,off+i*2,none⟩) (by show fb<z;omega)).trans g0;have g1:=(HB.o.cell (p:=⟨fb,off+i*2+1,none⟩) (by show fb<z;omega)).trans g1;obtain⟨ba,bc,rfl,hbn,hbc⟩:=hbl.cell;have HBC:=Zh hbc;obtain⟨bn,hbl2⟩:=Ze f.blocks.length;rw [hbl2] at hbn g1;have b16:bn≤16:=by have:=(HW.o.2 f (List.mem_of_getElem? hf2)).1;omega
   have HBL:=Zh hbl2;have HFI:=Zh hf2;clear hf2 hbl hbc hbl2 hbn;have A1:=(Below.refl wr.heap.size wr).alloc (Nat.le_refl _) (.cells #[sv f.name,.slice ba bn bc] 89);have HB2:=Zh (HB.o.trans (A1.mono hzr));have HS2:=Zh (show St (QH (p.take i)++Qga (f.blocks.take 0)) (wr.alloc (.cells #[sv f.name,.slice ba bn bc] 89)) by rw [show QH (p.take i)++Qga (f.blocks.take 0)=QH (p.take i) by simp [Qga]];exact HHA.o _ _ _ HSt.o A1);clear A1 HB HSt;go_wp2;clear g0 g1;go_loopw [23] (fun x wi=>∃k:Nat,k≤bn∧x=.int .i64 k∧Hid (Below z w0 wi)∧z≤wi.heap.size∧Hid (St (QH (p.take i)++Qga (f.blocks.take k)) wi)) (fun x _=>bn-(intOf x).toNat)
   case atStart=>exact⟨0,Nat.zero_le _,rfl,HB2,by simp;omega,HS2⟩
   case round=>
    obtain⟨k,hk,rfl,HB,hzi,HSt⟩:=hrel;by_cases hlt2:k<bn
    ·obtain⟨b,hb⟩:∃b,f.blocks[k]? = some b:=⟨_,List.getElem?_eq_getElem (show k<f.blocks.length by have:=HBL.o;omega)⟩;obtain⟨kb,koff,sv1,rfl,hkb,g0,g1,hsl⟩:=HBC.o k b hb;have g0:=(HB.o.cell (p:=⟨kb,koff+k*2,none⟩) (by show kb<z;omega)).trans g0;have g1:=(HB.o.cell (p:=⟨kb,koff+k*2+1,none⟩) (by show kb<z;omega)).trans g1;obtain⟨sa,sc,rfl,hsn,hsc⟩:=hsl.cell;have HSC:=Zh hsc;obtain⟨sn,hsl2⟩:=Ze b.stmts.length;rw [hsl2] at hsn g1;have s32:sn≤32:=by have:=(HW.o.2 f (List.mem_of_getElem? HFI.o)).2 b (List.mem_of_getElem? hb);omega
     have HSL:=Zh hsl2;have HBI:=Zh hb;clear hb hsl hsc hsl2 hsn;have A1:=(Below.refl wr.heap.size wr).alloc (Nat.le_refl _) (.cells #[sv b.name,.slice sa sn sc] 92);have HB3:=Zh (HB.o.trans (A1.mono hzi));have HS3:=Zh (show St (QH (p.take i)++Qga (f.blocks.take k)++b.stmts.take 0) (wr.alloc (.cells #[sv b.name,.slice sa sn sc] 92)) by rw [List.take_zero,List.append_nil];exact HHA.o _ _ _ HSt.o A1);clear A1 HB HSt;go_wp2;clear g0 g1;go_loopw [30] (fun x wi=>∃j:Nat,j≤sn∧x=.int .i64 j∧Hid (Below z w0 wi)∧z≤wi.heap.size∧Hid (St (QH (p.take i)++Qga (f.blocks.take k)++b.stmts.take j) wi)) (fun x _=>sn-(intOf x).toNat)
     case atStart=>exact⟨0,Nat.zero_le _,rfl,HB3,by simp;omega,HS3⟩
     case round=>
      obtain⟨j,hj,rfl,HB,hzj,HSt⟩:=hrel;by_cases hlt3:j<sn
      ·obtain⟨s,hs⟩:∃s,b.stmts[j]? = some s:=⟨_,List.getElem?_eq_getElem (show j<b.stmts.length by have:=HSL.o;omega)⟩;obtain⟨b4,o4,u,t,rfl,hb4,c0,c1,c2,c3,hu,ht⟩:=HSC.o j s hs;obtain⟨ua,uc,rfl,-⟩:=hu.cell;obtain⟨ta,tc,rfl,-⟩:=ht.cell;obtain⟨un,hun⟩:=Ze s.uses.length;obtain⟨tn,htn⟩:=Ze s.targets.length;rw [hun] at hu c2;rw [htn] at ht c3;obtain⟨r,hsp⟩:=QVg HFI.o HBI.o hs;have c0:=(HB.o.cell (p:=⟨b4,o4+j*4,none⟩) (by show b4<z;omega)).trans c0;have c1:=(HB.o.cell (p:=⟨b4,o4+j*4+1,none⟩) (by show b4<z;omega)).trans c1;have c2:=(HB.o.cell (p:=⟨b4,o4+j*4+2,none⟩) (by show b4<z;omega)).trans c2;have c3:=(HB.o.cell (p:=⟨b4,o4+j*4+3,none⟩) (by show b4<z;omega)).trans c3;have A1:=(Below.refl wr.heap.size wr).alloc (Nat.le_refl _) (.cells #[iv s.op,sv s.dfn,.slice ua un uc,.slice ta tn tc] 94);have HB4:=Zh (HB.o.trans (A1.mono hzj));have K:=Zh (HHS.o _ s r (.slice ua un uc) (.slice ta tn tc) (wr.alloc (.cells #[iv s.op,sv s.dfn,.slice ua un uc,.slice ta tn tc] 94)) hsp (HHA.o _ _ _ HSt.o A1) HB4.o hu ⟨_,_,_,rfl⟩);have HE:=Zh (show QH (p.take i)++Qga (f.blocks.take k)++b.stmts.take j++[s]=QH (p.take i)++Qga (f.blocks.take k)++b.stmts.take (j+1) by rw [List.take_add_one,hs];simp);have zw2:z≤(wr.alloc (.cells #[iv s.op,sv s.dfn,.slice ua un uc,.slice ta tn tc] 94)).heap.size:=by simp;omega
       clear A1 HB HSt hu ht hun htn hsp hs;go_wp2_with fail;refine K.o.mono ?_;rintro e w2 ⟨rfl,S2,b2⟩;have HB5:=Zh (HB4.o.trans b2);have HSt:=Zh (HE.o▸S2);have hz2:z≤w2.heap.size:=Nat.le_trans zw2 b2.size;clear S2 b2 K zw2;go_wp2;go_roundw
       case rel=>exact⟨j+1,by omega,by go_num,HB5,hz2,HSt⟩
       case measure=>simp [intOf];omega
      ·have HSt:=Zh (show St (QH (p.take i)++Qga (f.blocks.take (k+1))) wr by rw [QWg HBI.o,←List.append_assoc,←show b.stmts.take j=b.stmts from List.take_of_length_le (by rw [HSL.o];omega)];exact HSt.o);go_wp2;go_roundw
       case rel=>exact⟨k+1,by omega,by go_num,HB,hzj,HSt⟩
       case measure=>simp [intOf];omega
    ·have HSt:=Zh (show St (QH (p.take (i+1))) wr by rw [Qni HFI.o,show Qzf f=Qga (f.blocks.take k) by rw [List.take_of_length_le (by rw [HBL.o];omega)];rfl];exact HSt.o);go_wp2;go_roundw
     case rel=>exact⟨i+1,by omega,by go_num,HB,hzi,HSt⟩
     case measure=>simp [intOf];omega
  ·have HSt:=Zh (show St (QH p) wr by rw [←show p.take i=p from List.take_of_length_le (by rw [HL.o];omega)];exact HSt.o);go_wp2;exact bodyPost_end (v:=.tuple #[]) (by simp [results,Tryz.results104,go_sem]) rfl ⟨rfl,HSt.o,HB.o⟩
end
end Go.Proofs.YtijekimobahgpaaGreatDoor
