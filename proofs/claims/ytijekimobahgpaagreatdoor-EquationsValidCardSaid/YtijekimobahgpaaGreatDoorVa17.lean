/- A part of the proof. -/
import Derived.Test.YtijekimobahgpaaGreatDoorVa16
import Derived.Test.YtijekimobahgpaaGreatDoorVa12
import Derived.Test.YtijekimobahgpaaGreatDoorProg
import Derived.Shelf.SlSortCmp.SmallK
import Derived.Shelf.Small.Bits
set_option linter.unusedVariables false
set_option linter.unusedSimpArgs false
set_option linter.unusedSectionVars false
set_option maxRecDepth 100000
set_option maxHeartbeats 16000000
namespace Go.Proofs.YtijekimobahgpaaGreatDoor
section
open Go.RowKit
variable [Base]
abbrev ST:TypeId:=52
abbrev RT:TypeId:=135
theorem Qwd:(Tryz.prog.info? ST).map (fun i=>(i.zero,i.size,i.bytes))=some (some (Value.agg #[iv 0,.slice none 0 0]),2,32):=by kernel_rfl
theorem QTh:∀(xss:List (List Value)) (a:Nat) (x y:Value),(∀l∈xss,l.length=2)→a<xss.length→(xss.flatten.set (a*2) x).set (a*2+1) y=(xss.set a [x,y]).flatten
|[],_,_,_,_,h=>by simp at h
|l::r,0,x,y,hl,_=>by
  have h2:=hl l ZS
  match l,h2 with
 |[p,q],_=>simp
|l::r,a+1,x,y,hl,h=>by
  have h2:=hl l ZS
  have ih:=QTh r a x y (fun k hk=>hl k (by simp[hk])) (by simpa using h)
  match l,h2 with
 |[p,q],_=>
   rw[show(a+1)*2=a*2+1+1 by omega]
   simpa using ih
theorem All2.setAt {α β:Type}{P:α→β→Prop}:∀{xs:List α} {ys:List β},All2 P xs ys→∀(a:Nat) {x:α} {y:β},P x y→All2 P (xs.set a x) (ys.set a y)
|[],[],_,_,_,_,_=>trivial
|_::_,_::_,h,0,_,_,hp=>⟨hp,h.2⟩
|_::_,_::_,h,a+1,_,_,hp=>⟨h.1,All2.setAt h.2 a hp⟩
theorem QVa {b:Nat}{w:World}{v0 v1 v2:Value}{t:TypeId}(h:w.heap[b]? = some (.cells #[v0,v1,v2] t (0,0))):
  w.cell? ⟨b,0,none⟩=some v0∧w.cell? ⟨b,1,none⟩=some v1∧w.cell? ⟨b,2,none⟩=some v2:=by
 simp[World.cell?,h]
theorem QZh {w:World}{p g i j o:Nat}{x y:Value}(h:p≠g):((w.setCell ⟨g,i,none⟩ x).setCell ⟨g,j,none⟩ y).cell? ⟨p,o,none⟩=w.cell? ⟨p,o,none⟩:=
 World.cell?_of_block (a:=⟨p,o,none⟩) (by rw[Below.heap_setCell _ _ _ _ h,Below.heap_setCell _ _ _ _ h])
theorem set3o {w:World}{b:Nat}{a0 a1 a2:Value}{t:TypeId}{fr:Nat×Nat}(h:w.heap[b]? = some (.cells #[a0,a1,a2] t fr))(x0 x1 x2:Value):
  (((w.setCell ⟨b,0,none⟩ x0).setCell ⟨b,1,none⟩ x1).setCell ⟨b,2,none⟩ x2).heap[b]? = some (.cells #[x0,x1,x2] t fr):=by
 simp[World.setCell,Array.getElem?_modify,h]
theorem QLn {T U:TypeId}{w:World}{b:Nat}(h:tyAt w b=some U)(hne:T≠U)(x0 x1 x2:Value):Qf T w (((w.setCell ⟨b,0,none⟩ x0).setCell ⟨b,1,none⟩ x1).setCell ⟨b,2,none⟩ x2):=by
 have s:∀(w:World) (o:Nat) (x:Value),tyAt w b=some U→Qf T w (w.setCell ⟨b,o,none⟩ x)∧tyAt (w.setCell ⟨b,o,none⟩ x) b=some U:=fun w o x h=>⟨Qf.setCell h hne,by rw[QS];exact h⟩
 have s0:=s w 0 x0 h;have s1:=s _ 1 x1 s0.2;have s2:=s _ 2 x2 s1.2;exact s0.1.trans (s1.1.trans s2.1)
structure Opn (z q p:Nat)(t:Qw)(tv:Array Value)(w0 w:World)(gu ofv:Value)(R:List QSet):Prop where
 zs:w0.heap.size=z
 below:Below z w0 w
 bs:Base.b≤z
 zq:z≤q∧q+1<p
 tb:w.heap[q]? = some (.cells tv 55 (0,0))
 rb:w.heap[q+1]? = some (.cells #[iv 0,.slice none 0 0,.slice none 0 0] RT (0,0))
 xb:w.heap[p]? = some (.cells #[iv t.gen.width,gu,ofv] RT (0,0))
 rows:QG Qsa z w ofv R
 gen:Qi w gu t.gen.words
section
variable {z q p:Nat} {t:Qw} {tv:Array Value} {w0 w w':World} {gu ofv:Value} {R:List QSet}
theorem Opn.next (h:Opn z q p t tv w0 w gu ofv R)(b:Below w.heap.size w w'):Opn z q p t tv w0 w' gu ofv R:=
 ⟨h.zs,h.below.trans (b.mono (by have:=h.below.size;have:=h.zs;omega)),h.bs,h.zq,Qc h.tb b (Qb h.tb),Qc h.rb b (Qb h.rb),Qc h.xb b (Qb h.xb),h.rows.below b,h.gen.below b⟩
theorem Opn.push (h:Opn z q p t tv w0 w gu ofv R){xss:List (List Value)}(ho:w.ownsRow z ST 2 ofv R.length xss.flatten)(hx:All2 (Qsa.C w) xss R){s:QSet}{u:Value}(hu:Qi w u s.words){g cap:Nat}(ho2:w'.ownsRow z ST 2 (.slice (some ⟨g,0,none⟩) (R.length+1) cap) (R.length+1) (xss.flatten++[iv s.width,u]))(hg:w.grownBy w' ofv.ownBlock):
  Opn z q p t tv w0 (w'.setCell ⟨p,2,none⟩ (.slice (some ⟨g,0,none⟩) (R.length+1) cap)) gu (.slice (some ⟨g,0,none⟩) (R.length+1) cap) (R++[s]):=by
 have hbs:=h.bs;have hzw:z≤w.heap.size:=by have:=h.below.size;have:=h.zs;omega
 have keep:∀k c U,w.heap[k]? = some (Obj.cells c U (0,0))→U≠ST→w'.heap[k]? = some (Obj.cells c U (0,0)):=fun k c U hk hU=>
  (hg.block k (Qb hk) (Qdb ho hk (fun c' fr e=>by injection e with _ e _;exact hU e))).trans hk
 have htq:=keep _ _ _ h.tb ZD;have hrq:=keep _ _ _ h.rb ZD;have hxq:=keep _ _ _ h.xb ZD;have hz:=h.zq;have hT:tyAt w' p=some RT:=Qv hxq ZO;have hsU:Qf 139 w w':=Qf.grown hg ho ZD;have hsV:Qf 139 w' (w'.setCell ⟨p,2,none⟩ (.slice (some ⟨g,0,none⟩) (R.length+1) cap)):=Qf.setCell (U:=RT) hT ZD;have hb1:Below z w w':=Below.of_grown hg ho hzw;refine⟨h.zs,(h.below.trans hb1).setCell (by show z≤p;omega) _,h.bs,h.zq,?_,?_,?_,?_,(h.gen.keep hsU).keep hsV⟩
 ·rw[Below.heap_setCell _ _ _ _ (by show q≠p;omega)];exact htq
 ·rw[Below.heap_setCell _ _ _ _ (by show q+1≠p;omega)];exact hrq
 ·simp[World.setCell,Array.getElem?_modify,hxq]
 ·refine QG.snoc (E:=Qsa) (v:=ofv) (news:=[iv s.width,u]) (Qza ho2 hT (show ST≠RT by decide)) (hx.mono fun _ _ hc=>Qsa.keep (fun U hU=>?_) hc) ⟨u,rfl,(hu.keep hsU).keep hsV⟩;obtain rfl:U=139:=by simpa [Qsa] using hU
  exact hsU.trans hsV
theorem Opn.turn (h:Opn z q p t tv w0 w gu ofv R){g n c a:Nat}(e:ofv=.slice (some ⟨g,0,none⟩) n c)(hn:R.length=n)(ha:a<n){s:QSet}{u:Value}(hu:Qi w u s.words):
  Opn z q p t tv w0 ((w.setCell ⟨g,a*2,none⟩ (iv s.width)).setCell ⟨g,a*2+1,none⟩ u) gu ofv (R.set a s):=by
 subst e;obtain⟨xss,ho,hx⟩:=h.rows;have hbs:=h.bs;have hz:=h.zq;rw[hn] at ho;have hgz:z≤g∧g<w.heap.size∧tyAt w g=some ST:=by
  obtain⟨g',e,h1,h2,h3,-⟩:=QWd ho ZO h.bs;injection e with e
  injection e with e
  subst e;exact⟨h1,h2,h3⟩
 obtain⟨h1,h2,h3⟩:=hgz;have hT2:tyAt (w.setCell ⟨g,a*2,none⟩ (iv s.width)) g=some ST:=by rw[QS];exact h3
 have hne:∀k c U,w.heap[k]? = some (Obj.cells c U (0,0))→Base.b≤k→U≠ST→k≠g:=fun k c U hk hb hU e=>by
  subst e;rw[Qv hk hb] at h3;injection h3 with h3
  exact hU h3
 have keep:∀k c U,w.heap[k]? = some (Obj.cells c U (0,0))→Base.b≤k→U≠ST→((w.setCell ⟨g,a*2,none⟩ (iv s.width)).setCell ⟨g,a*2+1,none⟩ u).heap[k]? = some (Obj.cells c U (0,0)):=fun k c U hk hb hU=>by
  rw[Below.heap_setCell _ _ _ _ (hne k c U hk hb hU),Below.heap_setCell _ _ _ _ (hne k c U hk hb hU)];exact hk
 have hsU:Qf 139 w ((w.setCell ⟨g,a*2,none⟩ (iv s.width)).setCell ⟨g,a*2+1,none⟩ u):=(Qf.setCell (U:=ST) h3 ZD).trans (Qf.setCell (U:=ST) hT2 ZD);have hlen:=hx.length;refine⟨h.zs,(h.below.setCell (by show z≤g;omega) _).setCell (by show z≤g;omega) _,h.bs,h.zq,keep _ _ _ h.tb ZO ZD,keep _ _ _ h.rb ZO ZD,keep _ _ _ h.xb ZO ZD,⟨xss.set a [iv s.width,u],?_,?_⟩,h.gen.keep hsU⟩
 ·have h5:=Qvd (Qvd ho (a*2) (iv s.width)) (a*2+1) u;rw[QTh xss a _ _ (hx.eachR (fun _ _ hc=>Qsa.len hc)) ZO] at h5;rw[List.length_set,hn];exact h5
 ·exact(hx.mono fun _ _ hc=>Qsa.keep (fun U hU=>by
   obtain rfl:U=139:=by simpa [Qsa] using hU
   exact hsU) hc).setAt a ⟨u,rfl,hu.keep hsU⟩
theorem Opn.row (h:Opn z q p t tv w0 w gu ofv R){a:Nat}{s:QSet}(hs:R[a]? = some s):∃g c u,ofv=.slice (some ⟨g,0,none⟩) R.length c∧(g<w.heap.size∧z≤g∧tyAt w g=some ST)∧Qi w u s.words∧(w.cell? ⟨g,a*2,none⟩=some (iv s.width)∧w.cell? ⟨g,a*2+1,none⟩=some u)∧∀j,w.frozen? ⟨g,j,none⟩=false:=by
 have hr:=h.rows.rows;obtain⟨xss,ho,hx⟩:=h.rows;obtain⟨x,c,rfl,-,-,-,hc⟩:=hr.cell;have hlt:=(List.getElem?_eq_some_iff.1 hs).1;obtain⟨g,e,h1,h2,h3,-,h4⟩:=QWd ho ZO h.bs;subst e;obtain⟨b,off,cs,e,h5,⟨u,rfl,h6⟩,h7⟩:=hc a s hs;injection e with e
 injection e with e1 e2
 subst e1 e2;have g0:=h7 0 (show 0<2 by decide);have g1:=h7 1 (show 1<2 by decide);simp only[Qsa,Nat.zero_add,Nat.add_zero,List.getElem?_cons_zero,List.getElem?_cons_succ] at g0 g1;exact⟨g,c,u,rfl,⟨h2,h1,h3⟩,h6,⟨g0,g1⟩,h4⟩
end
def OpenQ (m:Nat)(t:Qw)(w:World)(e:Ending)(w':World):Prop:=∃gu ofv,e=.returned (.agg #[iv t.gen.width,gu,ofv])∧Qi w' gu t.gen.words∧Qoa Qsa w' ofv (Qpi t m)∧Below w.heap.size w w'
theorem QWr (m:Nat)(t:Qw)(hok:OkT m t)(gu ku cu:Value)(w:World)(h:Qja w gu ku cu t)(hbs:Base.b≤w.heap.size):Calls Tryz.prog 73 #[trV t gu ku cu] w (OpenQ m t w):=by
 have hm:=hok.gen.le;have OK:=Zh hok;have HT:=Zh h;have hgw:=hok.gen.width;have hkw:=hok.kill.width;obtain⟨ga,gc,rfl,-,-,-,-⟩:=h.gen.cell;obtain⟨ka,kc,rfl,-,-,-,-⟩:=h.kill.cell;obtain⟨ca,cc,rfl,h63,-,-,hcc⟩:=h.cops.cell;have HC:=Zh hcc;have hc64:=hok.len;simp only[trV];have HGL:=Zh (show t.gen.words.length≤1000000 by
  obtain⟨k,h1,h2,h3⟩:=Qka hok.gen.form;rw[h3];unfold Qj;omega)
 obtain⟨gn,hgn⟩:=Ze t.gen.words.length;obtain⟨kn,hkn⟩:=Ze t.kill.words.length;obtain⟨n,hn⟩:=Ze t.cops.length;have HN:=Zh hn;have HG1:=Zh (hgn▸h.gen:Qi w (.slice ga gn gc) t.gen.words);have HK1:=Zh (hkn▸h.kill:Qi w (.slice ka kn kc) t.kill.words);rw[hgn,hkn,hn,hgw,hkw];rw[hn] at hc64;obtain⟨z,hz⟩:=Ze w.heap.size;obtain⟨W,hW⟩:=Ze ((w.alloc (.cells #[iv m,.slice ga gn gc,iv m,.slice ka kn kc,.slice ca n cc] 55)).alloc (.cells #[iv 0,.slice none 0 0,.slice none 0 0] RT));have HWW:=Zh hW;have HZ:=Zh hz;have BW:=Zh (show Below z w W by rw[←hW,←hz];exact(Zb).alloc ZS _);have HX:=Zh (show W.heap[z]? = some (.cells #[iv m,.slice ga gn gc,iv m,.slice ka kn kc,.slice ca n cc] 55 (0,0)) by rw[←hW,←hz,Below.heap_alloc _ _ _ ZS];exact heap_alloc_new _ _);have HR:=Zh (show W.heap[z+1]? = some (.cells #[iv 0,.slice none 0 0,.slice none 0 0] RT (0,0)) by rw[←hW,←hz];exact Qda _ _);have HSZ:=Zh (show W.heap.size=z+2 by rw[←hW,←hz];simp);have KC:=Zh (Qog t.gen (.slice ga gn gc) W (HG1.o.below (HZ.o▸BW.o)) HGL.o (by have:=HSZ.o;have:=HZ.o;omega));rw[show setV t.gen (.slice ga gn gc)=.agg #[iv m,.slice ga gn gc] by rw[←hgw]] at KC;clear h hok hcc hW hgn hkn hn;obtain⟨x0,x1,x2,x3,x4⟩:=QJ HX.o;go_enter Tryz.func73,Tryz.ntmps73;go_upto_region 1 with(fail)
 rw[show(w.alloc (.cells #[iv m,.slice ga gn gc,iv m,.slice ka kn kc,.slice ca n cc] 55)).alloc (.cells #[iv 0,.slice none 0 0,.slice none 0 0] RT)=W from HWW.o]
 try rw[hz]
 go_wp2_with fail;refine KC.o.mono ?_;rintro e w1 ⟨u,rfl,hu,b1⟩;have HU:=Zh hu;obtain⟨ua,uc,rfl,-⟩:=hu.cell;obtain⟨un,hun⟩:=Ze t.gen.words.length;rw[show setV t.gen (.slice ua t.gen.words.length uc)=.agg #[iv m,.slice ua un uc] by rw[←hgw,←hun]];rw[hun] at HU;obtain⟨W2,hW2⟩:=Ze (w1.alloc (.cells #[iv m,.slice ua un uc,.slice none 0 0] RT));obtain⟨p,hp⟩:=Ze w1.heap.size;have A2:=Zh (show Below w1.heap.size w1 W2 by rw[←hW2];exact Zb);have HO:=Zh (show Opn z z p t #[iv m,.slice ga gn gc,iv m,.slice ka kn kc,.slice ca n cc] w W2 (.slice ua un uc) (.slice none 0 0) [] from by
  have s1:=b1.size;have s2:=HSZ.o;exact⟨HZ.o,BW.o.trans ((b1.trans (A2.o.mono s1)).mono ZO),by have:=HZ.o;omega,⟨Nat.le_refl _,by omega⟩,Qc (Qc HX.o b1 (Qb HX.o)) A2.o ZO,Qc (Qc HR.o b1 (Qb HR.o)) A2.o ZO,by rw[hgw,←hW2,←hp];exact heap_alloc_new _ _,QG.nil,HU.o.below A2.o⟩)
 have HW2:=Zh hW2;clear hu b1 hW2 x0 x1 x2 x3 x4;go_upto_region 2 with(fail)
 try rw[hp]
 rw[show w1.alloc (.cells #[iv m,.slice ua un uc,.slice none 0 0] RT)=W2 from HW2.o];obtain⟨x0,x1,x2,x3,x4⟩:=QJ HO.o.tb;go_wp2;clear x0 x1 x2 x3 x4;obtain⟨TV,hTV⟩:∃v:Array Value,#[iv m,.slice ga gn gc,iv m,.slice ka kn kc,.slice ca n cc]=v:=⟨_,rfl⟩;have HTV:=Zh hTV;rw[hTV] at HO;clear hTV;go_loopw [16] (fun y wr=>∃k:Nat,k≤m∧y=.int .i64 k∧Hid (∃V,Opn z z p t TV w wr (.slice ua un uc) V (QGd t m 0 k))) (fun y _=>m-(intOf y).toNat)
 case atStart=>exact⟨0,Nat.zero_le _,rfl,⟨_,HO.o⟩⟩
 case round=>
  obtain⟨k,hk,rfl,HR1⟩:=hrel;by_cases hlt:k<m;rotate_left
  ·obtain rfl:k=m:=by omega
   obtain⟨wd,rfl⟩:∃x:World,x=wr:=⟨_,rfl⟩;obtain⟨V,HV⟩:=HR1.o;have htb:=HV.tb;rw[←HTV.o] at htb;obtain⟨x0,x1,x2,x3,x4⟩:=QJ htb;have HO1:=Zh HV;have hbz:Base.b≤z:=HV.bs;have hpz:z+1<p:=HV.zq.2;clear HR1 HV htb hlt hk;go_wp2;clear x0 x1 x2 x3 x4;go_loopw [47] (fun y wr=>∃j:Nat,j≤n∧y=.int .i64 j∧Hid (∃V,Opn z z p t TV w wr (.slice ua un uc) V (QGd t k j k))) (fun y _=>n-(intOf y).toNat)
   case atStart=>exact⟨0,Nat.zero_le _,rfl,⟨_,HO1.o⟩⟩
   case round=>
    obtain⟨j,hj,rfl,HR2⟩:=hrel;obtain⟨V,HV⟩:=HR2.o;have HO5:=Zh HV;clear HR2 HV;by_cases hlt:j<n;rotate_left
    ·obtain rfl:j=n:=by omega
     obtain⟨va,vc,hve⟩:=HO5.o.rows.slice;rw[Qqb] at hve;subst hve;have HE:=Zh (show QGd t k j k=Qpi t k by rw[←HN.o];exact Qyq t k);obtain⟨hs0,hs1,hs2⟩:=QVa HO5.o.xb;rw[hgw] at hs0;have HR3:=Zh HO5.o.rb;obtain⟨c0,c1,c2⟩:=QVa HR3.o;have f0:=(Qa HR3.o).2 0;have f1:=(Qa HR3.o).2 1;have f2:=(Qa HR3.o).2 2;have e3:=set3o HR3.o (iv k) (.slice ua un uc) (.slice va k vc);obtain⟨g0,g1,g2⟩:=QVa e3;have HT:=Zh (fun (T:TypeId) (hne:T≠RT)=>QLn (T:=T) (Qv HR3.o ZO) hne (iv k) (.slice ua un uc) (.slice va k vc));have HB3:=Zh (((HO5.o.below.setCell (show z≤z+1 by omega) (iv k)).setCell (show z≤z+1 by omega) (.slice ua un uc) |>.setCell (show z≤z+1 by omega) (.slice va k vc):Below z w (((wr.setCell ⟨z+1,0,none⟩ (iv k)).setCell ⟨z+1,1,none⟩ (.slice ua un uc)).setCell ⟨z+1,2,none⟩ (.slice va k vc))));have HG3:=Zh (HO5.o.gen.keep (HT.o _ ZD));have HW3:=Zh (HE.o▸(HO5.o.rows.rows.keep (fun U hU=>HT.o U (by
      have h2:U=ST∨U=139:=by simpa [Qsa] using hU
      rcases h2 with rfl|rfl
      ·decide
      ·decide))))
     clear e3;go_wp2;refine bodyPost_ret (v:=.agg #[iv k,.slice ua un uc,.slice va k vc]) (by simp[results,Tryz.results73,go_sem,g0,g1,g2]) rfl ⟨_,_,by rw[hgw],HG3.o,HW3.o,?_⟩;rw[HZ.o];exact HB3.o
    ·obtain⟨⟨ci,di⟩,hy⟩:∃y,t.cops[j]? = some y:=⟨_,List.getElem?_eq_getElem (by rw[HN.o];exact hlt)⟩;obtain⟨a,b,e,ha,hb⟩:=OK.o.mem (List.mem_of_getElem? hy);injection e with e1 e2
     subst e1 e2;obtain⟨b4,o4,rfl,hb4,g0,g1⟩:=HC.o j _ hy;simp only at g0 g1;have hb4z:b4<z:=by have:=HZ.o;omega
     have g0:=(HO5.o.below.cell (p:=⟨b4,o4+j*2,none⟩) hb4z).trans g0;have g1:=(HO5.o.below.cell (p:=⟨b4,o4+j*2+1,none⟩) hb4z).trans g1;obtain⟨V1,hV1⟩:=Ze (wr.alloc (.cells #[iv a,iv b] CT));obtain⟨cb,hcb⟩:=Ze wr.heap.size;have B1:=Zh (show Below wr.heap.size wr V1 by rw[←hV1];exact Zb);have HCB:=Zh (show V1.heap[cb]? = some (.cells #[iv a,iv b] CT (0,0)) by rw[←hV1,←hcb];exact heap_alloc_new _ _);have HO6:=Zh (HO5.o.next B1.o);have HV1:=Zh hV1;have PW:=Zh (show(putS (rowK t k j a) b).width=(k:Int) from(QVd t hm j a).width);have HSTEP:=Zh (QWn hm hy hb);obtain⟨g,c,u,rfl,⟨hg1,hg2,hg3⟩,hu,⟨r0,r1⟩,hfz⟩:=HO6.o.row (QLh t k j k a ha);rw[Qqb] at *;rw[(QVd t hm j a).width] at r0;obtain⟨ra,rc,rfl,-⟩:=hu.cell;have HRU:=Zh hu;obtain⟨rn,hrn⟩:=Ze ((rowK t k j a).words.length);rw[hrn] at r1 HRU;have HSS:=Zh (show ∀w',Below V1.heap.size V1 w'→(w'.cell? ⟨p,2,none⟩=some (.slice (some ⟨g,0,none⟩) k c)∧w'.cell? ⟨cb,0,none⟩=some (iv a)∧w'.cell? ⟨cb,1,none⟩=some (iv b)) from fun w' hb=>by
      obtain⟨-,-,a2⟩:=QVa (HO6.o.next hb).xb;obtain⟨c0,c1⟩:=Qq (Qc HCB.o hb (Qb HCB.o));exact⟨a2,c0,c1⟩)
     have HFZ:=Zh (show ∀w',Below V1.heap.size V1 w'→∀j,w'.frozen? ⟨g,j,none⟩=false from fun w' hb j=>(World.frozen?_of_block (hb.block _ hg1)).trans (hfz j));have hgp:p≠g:=fun e=>by
      subst e;rw[Qv HO6.o.xb ZO] at hg3;exact absurd hg3 ZD
     have hgc:cb≠g:=fun e=>by
      subst e;rw[Qv HCB.o (by have:=HO5.o.below.size;have:=HO5.o.zs;omega)] at hg3;exact absurd hg3 ZD
     have HTN:=Zh (fun (x:World) (b:Below V1.heap.size V1 x) (s:QSet) (u:Value) (hu:Qi x u s.words)=>(HO6.o.next b).turn (e:=rfl) (hn:=Qqb t k j k) (ha:=ha) (s:=s) (u:=u) hu);have KW:=Zh (show Calls Tryz.prog 140 #[.agg #[iv k,.slice ra rn rc],iv b] (V1.drewN 1) (QAd (putS (rowK t k j a) b,0) (V1.drewN 1)) by
      have h1:=QPg (rowK t k j a) b (.slice ra rn rc) (V1.drewN 1) (HRU.o.below (Qp (Below.refl _ _) 1)) (by have:=HO6.o.below.size;have:=HO6.o.zs;show Base.b≤V1.heap.size;omega);rw[show setV (rowK t k j a) (.slice ra rn rc)=.agg #[iv k,.slice ra rn rc] by rw[←(QVd t hm j a).width]] at h1;rw[show chgS (rowK t k j a) (b:Int) true=(putS (rowK t k j a) b,0) by
       unfold chgS;rw[if_pos (QVd t hm j a).ok,if_pos ⟨by omega,by rw[(QVd t hm j a).width];omega⟩];simp] at h1
      exact h1)
     clear hV1 hy hu hrn hfz;go_upto_region 13 with(fail)
     try rw[hcb]
     rw[show wr.alloc (.cells #[iv a,iv b] CT)=V1 from HV1.o];clear g0 g1;refine Zr (fun w'=>w'.cell? ⟨p,2,none⟩=some (.slice (some ⟨g,0,none⟩) k c)∧w'.cell? ⟨cb,0,none⟩=some (iv a)∧w'.cell? ⟨cb,1,none⟩=some (iv b)) 18 (HSS.o (V1.drewN 1) (Qp (Below.refl _ _) 1)) fun hS0=>?_
     refine Yn 0 52 ?_;refine Yn 1 53 ?_;refine Yn 2 54 ?_;refine Yn 3 55 ?_;refine Yn 4 56 ?_;refine Yn 5 57 ?_;refine Yn 6 58 ?_;refine Yn 7 59 ?_;refine Yn 8 60 ?_;refine Yn 10 62 ?_;refine Yn 11 63 ?_;have r0d:(V1.drewN 1).cell? ⟨g,a*2,none⟩=some (iv k):=r0;have r1d:(V1.drewN 1).cell? ⟨g,a*2+1,none⟩=some (.slice ra rn rc):=r1;refine QW 9 (some 61) (.agg #[iv k,.slice ra rn rc]) (V1.drewN 1) rfl ZK ZK ?r9 rfl (fun _=>hS0) ?_
     case r9=>go_simp
     clear r0d r1d;refine QP 12 (some 64) 140 #[.agg #[iv k,.slice ra rn rc],iv b] rfl ZK ZK ZK rfl ?_;refine(KW.o).mono ?_;rintro e m1 ⟨fu,rfl,hf,b1⟩;obtain⟨fa,fc,rfl,-⟩:=hf.cell;have HF:=Zh hf;have BB1:=Zh ((Qp (Below.refl _ _) 1).trans b1:Below V1.heap.size V1 m1);clear hS0 hf b1;have hS0:=HSS.o _ BB1.o;obtain⟨fn,hfn⟩:=Ze ((putS (rowK t k j a) b).words.length);simp only[setV,hfn,PW.o];rw[hfn] at HF;clear hfn;refine⟨_,rfl,fun _=>hS0,?_⟩;refine Yn 13 51 ?_;refine Yn 14 65 ?_;refine Yn 15 66 ?_;refine Yn 16 67 ?_;have HO7:=Zh (HO6.o.next BB1.o);have fz:=HFZ.o m1 BB1.o;have f0:=fz (a*2);have f1:=fz (a*2+1);clear fz;have r0:=(BB1.o.cell (p:=⟨g,a*2,none⟩) hg1).trans r0;have r1:=(BB1.o.cell (p:=⟨g,a*2+1,none⟩) hg1).trans r1;have hSF:(fun w':World=>w'.cell? ⟨p,2,none⟩=some (.slice (some ⟨g,0,none⟩) k c)∧w'.cell? ⟨cb,0,none⟩=some (iv a)∧w'.cell? ⟨cb,1,none⟩=some (iv b)) ((m1.setCell ⟨g,a*2,none⟩ (iv k)).setCell ⟨g,a*2+1,none⟩ (.slice fa fn fc)):=by
      have h3:=(QVa HO7.o.xb).2.2;have h4:=Qq (Qc HCB.o BB1.o (Qb HCB.o));exact⟨(QZh hgp).trans h3,(QZh hgc).trans h4.1,(QZh hgc).trans h4.2⟩
     refine Qeb 17 none ((m1.setCell ⟨g,a*2,none⟩ (iv k)).setCell ⟨g,a*2+1,none⟩ (.slice fa fn fc)) rfl ZK ZK ?rs1 rfl (fun _=>hSF) ?_
     case rs1=>go_simp
     refine Qu ZK ?_ _;generalize hA:Act.put _ _ _=A0;simp only[Qba,Qaa,Zu,Zv,Zw] at hA;subst hA;have HO8:=Zh (HTN.o m1 BB1.o _ _ HF.o);have HO9:=Zh (show Opn z z p t TV w ((m1.setCell ⟨g,a*2,none⟩ (iv k)).setCell ⟨g,a*2+1,none⟩ (.slice fa fn fc)) (.slice ua un uc) (.slice (some ⟨g,0,none⟩) k c) (QGd t k (j+1) k) by
      have h8:=HO8.o;rw[PW.o] at h8;rw[HSTEP.o];exact h8)
     clear hS0 f0 f1 r0 r1;go_wp2;go_roundw
     case rel=>exact⟨j+1,by omega,by go_num,⟨_,HO9.o⟩⟩
     case measure=>simp[intOf];omega
  ·obtain⟨V,HV⟩:=HR1.o;have HO1:=Zh HV;have hzr:z≤wr.heap.size:=by have:=HV.below.size;have:=HV.zs;omega
   have hbz:Base.b≤z:=HV.bs;have hpz:z+1<p:=HV.zq.2;have KE:=Zh (Qxe m hm wr);have htb:=HV.tb;rw[←HTV.o] at htb;obtain⟨x0,x1,x2,x3,x4⟩:=QJ htb;clear HV HR1 htb;go_wp2_with fail;refine KE.o.mono ?_;rintro e w3 ⟨eu,rfl,eo,b3⟩;obtain⟨ea,ec,rfl,-⟩:=eo.words.cell;obtain⟨en,hen⟩:=Ze ((Qy m).words.length);rw[hen,show setV (Qy m) (.slice ea en ec)=.agg #[iv m,.slice ea en ec] from rfl];have HE3:=Zh (hen▸eo.words:Qi w3 (.slice ea en ec) (Qy m).words);obtain⟨sb,hsb⟩:=Ze w3.heap.size;obtain⟨V4,hV4⟩:=Ze (w3.alloc (.cells #[iv m,.slice ea en ec] ST));have B4:=Zh (show Below w3.heap.size w3 V4 by rw[←hV4];exact Zb);have HO4:=Zh ((HO1.o.next b3).next B4.o);have HS4:=Zh (show V4.heap[sb]? = some (.cells #[iv m,.slice ea en ec] ST (0,0)) by rw[←hV4,←hsb];exact heap_alloc_new _ _);have HE4:=Zh (HE3.o.below B4.o);have hsz:wr.heap.size≤sb:=by have:=b3.size;omega
   have BB4:=Zh (b3.trans (B4.o.mono b3.size));have HV4:=Zh hV4;clear b3 eo hen hV4 x0 x1 x2 x3 x4;have htb:=HO4.o.tb;rw[←HTV.o] at htb;obtain⟨x0,x1,x2,x3,x4⟩:=QJ htb;go_upto_region 6 with(fail)
   try rw[hsb]
   rw[show w3.alloc (.cells #[iv m,.slice ea en ec] ST)=V4 from HV4.o];clear hsb;obtain⟨b,hb⟩:=Ze (QE t.kill.words k);have KH:=Zh (show Calls Tryz.prog 139 #[.agg #[iv m,.slice ka kn kc],iv k] V4 (Qia b V4) by
    have h1:=QPj t.kill k (.slice ka kn kc) V4 (HK1.o.below (HO4.o.zs▸HO4.o.below));rw[QCj OK.o.kill hlt,hb] at h1;rw[show setV t.kill (.slice ka kn kc)=.agg #[iv m,.slice ka kn kc] by rw[←hkw]] at h1;exact h1)
   have HROW:=Zh (QAq t hm hlt);rw[hb] at HROW;clear hb htb;go_wp2_with fail;refine KH.o.mono ?_;rintro e w5 ⟨rfl,b5⟩;have HO5:=Zh (HO4.o.next b5);have HS5:=Zh (Qc HS4.o b5 (Qb HS4.o));have HE5:=Zh (HE4.o.below b5);have BB5:=Zh (BB4.o.trans (b5.mono BB4.o.size));clear b5 x0 x1 x2 x3 x4 HO4 HS4 HE4 KH KE HE3 B4 HV4 BB4
   cases b with
  |true=>
    have HER:=Zh (show Qi w5 (.slice ea en ec) (rowK t m 0 k).words by rw[HROW.o];exact HE5.o);obtain⟨xss,how,hx⟩:=HO5.o.rows;have hxb:=HO5.o.xb;rw[hgw] at hxb;have PUSH:=Zh (show ∀g cap w',w'.ownsRow z ST 2 (.slice (some ⟨g,0,none⟩) (k+1) cap) (k+1) (xss.flatten++[iv m,.slice ea en ec])→w5.grownBy w' V.ownBlock→Opn z z p t TV w (w'.setCell ⟨p,2,none⟩ (.slice (some ⟨g,0,none⟩) (k+1) cap)) (.slice ua un uc) (.slice (some ⟨g,0,none⟩) (k+1) cap) (QGd t m 0 (k+1))∧w'.heap[p]? = some (.cells #[iv m,.slice ua un uc,V] RT (0,0)) from fun g cap w' ho hg=>by
     have h8:=HO5.o.push how hx (s:=rowK t m 0 k) HER.o (g:=g) (cap:=cap) (w':=w') (by rw[Qqb,(QVd t hm 0 k).width];exact ho) hg;rw[Qqb] at h8;rw[Qlj];exact⟨h8,(hg.block _ (Qb hxb) (Qdb how hxb (by intro c' fr e;injection e with _ e _;exact absurd (show RT=ST from e) ZD))).trans hxb⟩)
    rw[Qqb] at how;have OWN:=Zh how;have hzW:z≤w5.heap.size:=by have:=HO5.o.below.size;have:=HO5.o.zs;omega
    obtain⟨s0,s1⟩:=Qq HS5.o;obtain⟨y0,y1,y2⟩:=QVa hxb;clear how hx hxb;go_wp2_with (at_builtin;refine QL [iv m,.slice ea en ec] rfl _ _ _ rfl z ST _ 2 32 Tryz.underlying34 Qwd rfl ZO _ _ _ OWN.o rfl rfl rfl rfl (by unfold maxLen;omega) ZO hzW ?_;intro g cap w8 ho hg hzg _;have HP8:=Zh (PUSH.o g cap w8 ho hg);have v2:=(Qa HP8.o.2).1 2;have v3:=(Qa HP8.o.2).2 2;simp only[Zx,Zy,Zz] at v2;clear ho hg hzg);go_roundw
    case rel=>exact⟨k+1,by omega,by go_num,⟨_,HP8.o.1⟩⟩
    case measure=>simp[intOf];omega
  |false=>
    have HCH:=Zh (show chgS (Qy m) (k:Int) true=(putS (Qy m) k,0) by
     unfold chgS;rw[if_pos (QOb hm).ok,if_pos ⟨by omega,by show(k:Int)<((m:Nat):Int);omega⟩];simp)
    have KW:=Zh (show Calls Tryz.prog 140 #[.agg #[iv m,.slice ea en ec],iv k] w5 (QAd (putS (Qy m) k,0) w5) by
     have h1:=QPg (Qy m) k (.slice ea en ec) w5 HE5.o (by have:=BB5.o.size;omega);rw[HCH.o] at h1;exact h1)
    obtain⟨s0,s1⟩:=Qq HS5.o;go_wp2_with fail;refine KW.o.mono ?_;rintro e w6 ⟨fu,rfl,hf,b6⟩;obtain⟨fa,fc,rfl,-⟩:=hf.cell;obtain⟨fn,hfn⟩:=Ze ((putS (Qy m) k).words.length);have HF6:=Zh (hfn▸hf:Qi w6 (.slice fa fn fc) (putS (Qy m) k).words);simp only[setV,hfn,show(putS (Qy m) k).width=(m:Int) from rfl];have HS6:=Zh (Qc HS5.o b6 (Qb HS5.o));have BB6:=Zh (BB5.o.trans (b6.mono BB5.o.size));obtain⟨W7,hW7⟩:=Ze ((w6.setCell ⟨sb,0,none⟩ (iv m)).setCell ⟨sb,1,none⟩ (.slice fa fn fc));have HW7:=Zh hW7;have BB7:=Zh (show Below wr.heap.size wr W7 by rw[←hW7];exact(BB6.o.setCell hsz _).setCell hsz _);have HS7:=Zh (show W7.heap[sb]? = some (.cells #[iv m,.slice fa fn fc] ST (0,0)) by rw[←hW7];exact Qvb (Qwb HS6.o _) _);have HT7:tyAt w6 sb=some ST:=Qv HS6.o ZO;have HER:=Zh (show Qi W7 (.slice fa fn fc) (rowK t m 0 k).words by
     rw[HROW.o,←hW7];exact(HF6.o.keep (Qf.setCell (U:=ST) HT7 ZD)).keep (Qf.setCell (U:=ST) (by rw[QS];exact HT7) ZD))
    have HO7:=Zh (HO1.o.next BB7.o);obtain⟨s0,s1⟩:=Qq HS6.o;have f0:=(Qa HS6.o).2 0;have f1:=(Qa HS6.o).2 1;clear hf b6 hfn hW7 HT7;go_upto_region 8 with(fail)
    rw[show(w6.setCell ⟨sb,0,none⟩ (iv m)).setCell ⟨sb,1,none⟩ (.slice fa fn fc)=W7 from HW7.o];clear s0 s1 f0 f1;obtain⟨xss,how,hx⟩:=HO7.o.rows;have hxb:=HO7.o.xb;rw[hgw] at hxb;have PUSH:=Zh (show ∀g cap w',w'.ownsRow z ST 2 (.slice (some ⟨g,0,none⟩) (k+1) cap) (k+1) (xss.flatten++[iv m,.slice fa fn fc])→W7.grownBy w' V.ownBlock→Opn z z p t TV w (w'.setCell ⟨p,2,none⟩ (.slice (some ⟨g,0,none⟩) (k+1) cap)) (.slice ua un uc) (.slice (some ⟨g,0,none⟩) (k+1) cap) (QGd t m 0 (k+1))∧w'.heap[p]? = some (.cells #[iv m,.slice ua un uc,V] RT (0,0)) from fun g cap w' ho hg=>by
     have h8:=HO7.o.push how hx (s:=rowK t m 0 k) HER.o (g:=g) (cap:=cap) (w':=w') (by rw[Qqb,(QVd t hm 0 k).width];exact ho) hg;rw[Qqb] at h8;rw[Qlj];exact⟨h8,(hg.block _ (Qb hxb) (Qdb how hxb (by intro c' fr e;injection e with _ e _;exact absurd (show RT=ST from e) ZD))).trans hxb⟩)
    rw[Qqb] at how;have OWN:=Zh how;have hzW:z≤W7.heap.size:=by have:=HO7.o.below.size;have:=HO7.o.zs;omega
    obtain⟨s0,s1⟩:=Qq HS7.o;obtain⟨y0,y1,y2⟩:=QVa hxb;clear how hx hxb;go_wp2_with (at_builtin;refine QL [iv m,.slice fa fn fc] rfl _ _ _ rfl z ST _ 2 32 Tryz.underlying34 Qwd rfl ZO _ _ _ OWN.o rfl rfl rfl rfl (by unfold maxLen;omega) ZO hzW ?_;intro g cap w8 ho hg hzg _;have HP8:=Zh (PUSH.o g cap w8 ho hg);have v2:=(Qa HP8.o.2).1 2;have v3:=(Qa HP8.o.2).2 2;simp only[Zx,Zy,Zz] at v2;clear ho hg hzg);go_roundw
    case rel=>exact⟨k+1,by omega,by go_num,⟨_,HP8.o.1⟩⟩
    case measure=>simp[intOf];omega
end
section
open Go.RowKit
variable [Base]
theorem OwnN.base {z z':Nat}{w:World}{v:Value}{l:List Qx}(h:OwnN z w v l)(hz:z'≤z):OwnN z' w v l:=
 ⟨h.1,h.2.imp id fun ⟨g,cap,cur,e,hg,r⟩=>⟨g,cap,cur,e,Nat.le_trans hz hg,r⟩⟩
theorem Qcy {w:World}(p:List Qo)(v:Value)(h:QAa w v p)(he:QFa p=0)(hbs:Base.b≤w.heap.size):Calls Tryz.prog 63 #[.agg #[v]] w (QBu (QR p) w):=by
 obtain⟨z,hz⟩:=Ze w.heap.size;have hbz:Base.b≤z:=by omega
 have ck:=Qzb he;have hfew:=QUc ck.valid;have KC:=Zh (show ∀x,Below z w x→Calls Tryz.prog 62 #[.agg #[v]] x (Qwy x) from fun x b=>Qcx p v (h.below (hz▸b)) ck (by have:=b.size;omega));have HFEW:=Zh hfew;have HNP:=Zh (show QR p=QB p 0 from Qne he);have HLE:=Zh (show(QB p 0).length≤256 by rw[←HNP.o];exact Qme);obtain⟨a,c,rfl,hn,hc⟩:=h.cell;have HC:=Zh hc;obtain⟨n,hl⟩:=Ze p.length;have hn8:n≤8:=by have:=hfew.1;omega
 rw[hl] at hn KC ⊢;have HL:=Zh hl;obtain⟨W,hW⟩:=Ze (w.alloc (.cells #[.slice a n c] 25));have HPB:=Zh (show W.heap[z]? = some (.cells #[.slice a n c] 25 (0,0)) by rw[←hW,←hz];exact heap_alloc_new _ _);have BW:=Zh (show Below z w W by rw[←hW,←hz];exact Zb);have HWW:=Zh hW;have HZ:=Zh hz;have hzW:z+1=W.heap.size:=by rw[←hW,←hz];simp
 clear h hc hl hW ck hfew he hn;have x0:=(Qd HPB.o).1 0;simp at x0;go_enter Tryz.func63,Tryz.ntmps63;go_upto_region 1 with(fail)
 rw[show w.alloc (.cells #[.slice a n c] 25)=W from HWW.o]
 try rw[hz]
 go_wp2_with fail;refine(KC.o W BW.o).mono ?_;rintro e w1 ⟨rfl,b1⟩;obtain⟨w2,hw2⟩:=Ze (w1.alloc (.cells #[iv 0,iv 0,iv 0,iv 0] NT));have HW2:=Zh hw2;have B2:=Zh (show Below (z+1) W w2 by rw[hzW,←hw2];exact b1.alloc b1.size _);clear b1 hw2 x0;go_upto_region 5 with(fail)
 rw[show w1.alloc (.cells #[iv 0,iv 0,iv 0,iv 0] NT)=w2 from HW2.o];go_wp2;go_loopw [3,6] (fun V y wr=>∃(i:Nat) (Y:Value),i≤n∧Y=V∧y=.int .i64 i∧Hid (Below (z+1) W wr)∧Hid (OwnN (z+1) wr Y (QB (p.take i) 0))) (fun _ y _=>n-(intOf y).toNat)
 case atStart=>exact⟨0,_,Nat.zero_le _,rfl,rfl,B2.o,OwnN.nil⟩
 case round=>
  obtain⟨i,V,hi,rfl,rfl,HB,HO⟩:=hrel;have zwr:z+1≤wr.heap.size:=by have:=HB.o.size;omega
  have x0:=(Qd (Qc HPB.o HB.o ZO)).1 0;simp at x0;by_cases hlt:i<n;rotate_left
  ·have HO2:=Zh (show OwnN z wr V (QR p) by rw[HNP.o,←show p.take i=p from List.take_of_length_le (by rw[HL.o];omega)];exact OwnN.base HO.o ZO);go_wp2;exact bodyPost_ret (v:=V) (by simp[results,Tryz.results63,go_sem]) rfl ⟨_,rfl,by rw[HZ.o];exact HO2.o,by rw[HZ.o];exact BW.o.trans (HB.o.mono ZO)⟩
  ·obtain⟨f,hf⟩:∃f,p[i]? = some f:=⟨_,List.getElem?_eq_getElem (by rw[HL.o];exact hlt)⟩;obtain⟨fb,fo,bv,rfl,hfb,-,g1,hbl⟩:=HC.o i f hf;have hfm:=List.mem_of_getElem? hf;obtain⟨ba,bc,rfl,hbn,hbc⟩:=hbl.cell;have HBC:=Zh hbc;obtain⟨bn,hbn2⟩:=Ze f.blocks.length;have hbn16:bn≤16:=by have:=(HFEW.o.2 f hfm).1;omega
   rw[hbn2] at g1;have HBL:=Zh hbn2;have G1:=Zh ((BW.o.cell (p:=⟨fb,fo+i*2+1,none⟩) (by show fb<z;omega)).trans g1);have HFT:=Zh (QPm hf);have HFM:=Zh hfm;have hpre:=QKo hf;have hlen0:(QB (p.take i) 0).length+(Qca i f.blocks 0).length+2≤256:=by have:=HLE.o;simp[Qcf] at hpre;omega
   obtain⟨L0,hL0⟩:=Ze (QB (p.take i) 0);rw[hL0] at HO HFT hlen0;clear hf hbl hbn2 hpre hbc hL0 g1 hbn hfm;go_upto_region 9 with(at_builtin;refine QL [iv 1,iv (i:Int),iv (-1),iv (-1)] rfl _ _ _ rfl (z+1) NT _ 4 32 Tryz.underlying44 QVf rfl ZO _ _ _ HO.o rfl rfl rfl rfl (by unfold maxLen;omega) ZO zwr ?_;intro g cap w5 ho hg _ _;have HO5:=Zh (OwnN.push (n:=entN i) ho);have B5:=Zh (Below.of_grown hg HO.o zwr);clear ho hg)
   have HB5:=Zh (HB.o.trans (B5.o.mono ZO));clear x0;go_wp2;go_loopw [3,7] (fun V y wr=>∃(k:Nat) (Y:Value),k≤bn∧Y=V∧y=.int .i64 k∧Hid (Below (z+1) W wr)∧Hid (OwnN (z+1) wr Y (L0++[entN i]++Qca i (f.blocks.take k) 0))) (fun _ y _=>bn-(intOf y).toNat)
   case atStart=>exact⟨0,_,Nat.zero_le _,rfl,rfl,HB5.o,by unfold Hid;simpa [Qca] using HO5.o⟩
   case round=>
    clear zwr;obtain⟨k,V,hk,rfl,rfl,HB,HO⟩:=hrel;have zwr:z+1≤wr.heap.size:=by have:=HB.o.size;omega
    have x0:=(Qd (Qc HPB.o HB.o ZO)).1 0;simp at x0;have g1:=(HB.o.cell (p:=⟨fb,fo+i*2+1,none⟩) (by show fb<z+1;omega)).trans G1.o;by_cases hlt2:k<bn;rotate_left
    ·have HO2:=Zh (show OwnN (z+1) wr V (L0++[entN i]++Qca i f.blocks 0) by rw[←show f.blocks.take k=f.blocks from List.take_of_length_le (by rw[HBL.o];omega)];exact HO.o);have hlq:(L0++[entN i]++Qca i f.blocks 0).length≤300:=by simp;omega
     obtain⟨M,hM⟩:=Ze (L0++[entN i]++Qca i f.blocks 0);rw[hM] at HO2 HFT hlq;clear hM HO;go_wp2_with (at_builtin;refine QL [iv 2,iv (i:Int),iv (-1),iv (-1)] rfl _ _ _ rfl (z+1) NT _ 4 32 Tryz.underlying44 QVf rfl ZO _ _ _ HO2.o rfl rfl rfl rfl (by unfold maxLen;omega) ZO zwr ?_;intro g cap w5 ho hg _ _;have HO5:=Zh (OwnN.push (n:=extN i) ho);have B5:=Zh (Below.of_grown hg HO2.o zwr);clear ho hg);have HB6:=Zh (HB.o.trans B5.o);go_roundw
     case rel=>exact⟨i+1,_,by omega,rfl,by go_num,HB6.o,Zh (by rw[HFT.o];exact HO5.o)⟩
     case measure=>simp[intOf];omega
    ·obtain⟨b,hb⟩:∃b,f.blocks[k]? = some b:=⟨_,List.getElem?_eq_getElem (by rw[HBL.o];exact hlt2)⟩;obtain⟨kb,ko,sv1,rfl,hkb,-,q1,hsl⟩:=HBC.o k b hb;obtain⟨sa,sc,rfl,hsn,hsc⟩:=hsl.cell;have HSC:=Zh hsc;obtain⟨sn,hsn2⟩:=Ze b.stmts.length;have hsn3:sn≤32:=by have:=(HFEW.o.2 f HFM.o).2 b (List.mem_of_getElem? hb);omega
     rw[hsn2] at q1;have q1:=(HB.o.cell (p:=⟨kb,ko+k*2+1,none⟩) (by show kb<z+1;omega)).trans ((BW.o.cell (p:=⟨kb,ko+k*2+1,none⟩) (by show kb<z;omega)).trans q1);have HSL:=Zh hsn2;have HBT:=Zh (Qyl (i:=i) hb);have hpre:=Qmn (i:=i) hb;have hlen1:L0.length+(Qca i (f.blocks.take k) 0).length+(Qta i k b.stmts 0).length+2≤256:=by omega
     obtain⟨L1,hL1⟩:=Ze (Qca i (f.blocks.take k) 0);rw[hL1] at HO HBT hlen1;clear hb hsl hsn2 hpre hsc hL1 hsn;go_wp2;clear x0 g1 q1;go_loopw [3,9] (fun V y wr=>∃(j:Nat) (Y:Value),j≤sn∧Y=V∧y=.int .i64 j∧Hid (Below (z+1) W wr)∧Hid (OwnN (z+1) wr Y (L0++[entN i]++L1++Qta i k (b.stmts.take j) 0))) (fun _ y _=>sn-(intOf y).toNat)
     case atStart=>exact⟨0,_,Nat.zero_le _,rfl,rfl,HB.o,by unfold Hid;simpa [Qta] using HO.o⟩
     case round=>
      clear zwr HB HO;obtain⟨j,V,hj,rfl,rfl,HB,HO⟩:=hrel;have zwr:z+1≤wr.heap.size:=by have:=HB.o.size;omega
      by_cases hlt3:j<sn;rotate_left
      ·have HO2:=Zh (show OwnN (z+1) wr V (L0++[entN i]++Qca i (f.blocks.take (k+1)) 0) by rw[HBT.o,←show b.stmts.take j=b.stmts from List.take_of_length_le (by rw[HSL.o];omega),←List.append_assoc];exact HO.o);go_wp2;go_roundw
       case rel=>exact⟨k+1,_,by omega,rfl,by go_num,HB.o,HO2.o⟩
       case measure=>simp[intOf];omega
      ·obtain⟨s,hs⟩:∃s,b.stmts[j]? = some s:=⟨_,List.getElem?_eq_getElem (by rw[HSL.o];exact hlt3)⟩;obtain⟨b4,o4,u,t,rfl,hb4,c0,-⟩:=HSC.o j s hs;have c0:=(HB.o.cell (p:=⟨b4,o4+j*4,none⟩) (by show b4<z+1;omega)).trans ((BW.o.cell (p:=⟨b4,o4+j*4,none⟩) (by show b4<z;omega)).trans c0);have hz4:b4<wr.heap.size:=by omega
       have HST:=Zh (QMl (i:=i) (k:=k) hs);have hpre:=QEn (i:=i) (k:=k) hs;obtain⟨op,hop⟩:=Ze s.op;rw[hop] at c0;have C0:=Zh c0;have HSN:=Zh (show QWe i k j s=⟨3,i,k,j⟩::(if op=3 then [⟨4,i,k,j⟩] else []) by unfold QWe;rw[hop]);obtain⟨L2,hL2⟩:=Ze (Qta i k (b.stmts.take j) 0);rw[hL2] at HO HST hpre;have hlq:(L0++[entN i]++L1++L2).length≤300:=by simp;omega
       obtain⟨M,hM⟩:=Ze (L0++[entN i]++L1++L2);rw[hM] at HO hlq;have HMM:=Zh hM;clear hs hpre hL2 hM hop c0;go_upto_region 17 with(at_builtin;refine QL [iv 3,iv (i:Int),iv (k:Int),iv (j:Int)] rfl _ _ _ rfl (z+1) NT _ 4 32 Tryz.underlying44 QVf rfl ZO _ _ _ HO.o rfl rfl rfl rfl (by unfold maxLen;omega) ZO zwr ?_;intro g cap w5 ho hg _ _;have HO5:=Zh (OwnN.push (n:=⟨3,i,k,j⟩) ho);have B5:=Zh (Below.of_grown hg HO.o zwr);clear ho hg)
       have HB6:=Zh (HB.o.trans (B5.o.mono ZO));have zw6:z+1≤w5.heap.size:=by have:=HB6.o.size;omega
       have c0:=(B5.o.cell (p:=⟨b4,o4+j*4,none⟩) (by show b4<z+1;omega)).trans C0.o;by_cases h3:op=3
       ·rw[if_pos h3] at HSN;have HO6:=HO5;have w6q:(M++[(⟨3,i,k,j⟩:Qx)]).length≤301:=by rw[List.length_append];simp only[List.length_singleton];omega
        obtain⟨M2,hM2⟩:=Ze (M++[(⟨3,i,k,j⟩:Qx)]);rw[hM2] at HO6 w6q;have HMM2:=Zh hM2;clear HO5 hM2;subst h3;go_wp2_with (at_builtin;refine QL [iv 4,iv (i:Int),iv (k:Int),iv (j:Int)] rfl _ _ _ rfl (z+1) NT _ 4 32 Tryz.underlying44 QVf rfl ZO _ _ _ HO6.o rfl rfl rfl rfl (by unfold maxLen;omega) ZO zw6 ?_;intro g cap w7 ho hg _ _;have HO7:=Zh (OwnN.push (n:=⟨4,i,k,j⟩) ho);have B7:=Zh (Below.of_grown hg HO6.o zw6);clear ho hg);have HB7:=Zh (HB6.o.trans B7.o);go_roundw
        case rel=>exact⟨j+1,_,by omega,rfl,by go_num,HB7.o,Zh (by rw[HST.o,HSN.o,←List.append_assoc,HMM.o,show [(⟨3,i,k,j⟩:Qx),⟨4,i,k,j⟩]=[⟨3,i,k,j⟩]++[⟨4,i,k,j⟩] from rfl,←List.append_assoc,HMM2.o];exact HO7.o)⟩
        case measure=>simp[intOf];omega
       ·rw[if_neg h3] at HSN;have h3b:(op==3)=false:=by simpa using h3
        go_wp2;go_roundw
        case rel=>exact⟨j+1,_,by omega,rfl,by go_num,HB6.o,Zh (by rw[HST.o,HSN.o,←List.append_assoc,HMM.o];exact HO5.o)⟩
        case measure=>simp[intOf];omega
end
end Go.Proofs.YtijekimobahgpaaGreatDoor
namespace Go.Proofs
open Go.Shelf
def Tryz.laysSlsf6_ren:Go.Shelf.Ren:=⟨fun|6=>112|15=>166|14=>167|28=>206|29=>207|20=>208|21=>209|22=>210|23=>211|24=>212|25=>213|26=>214|27=>215|46=>241|47=>237|48=>238|49=>242|50=>243|57=>253|n=>n,fun|22=>53|24=>119|25=>175|3=>3|39=>140|0=>0|53=>253|55=>139|4=>4|46=>246|45=>245|50=>250|5=>5|9=>9|66=>269|70=>273|76=>281|77=>188|n=>n,fun|n=>n⟩
theorem Tryz.laysSlsf6:Go.Proofs.SlLaysF0.n6 Tryz.prog Tryz.laysSlsf6_ren:={
 mixed:=by kernel_rfl
 f6:=⟨Tryz.f112.name,by decide,Tryz.func112.trans (congrArg some (by kernel_rfl))⟩
 f14:=⟨Tryz.f167.name,by decide,Tryz.func167.trans (congrArg some (by kernel_rfl))⟩
 f15:=Tryz.func166.trans (congrArg some (by kernel_rfl))
 f20:=⟨Tryz.f208.name,by decide,Tryz.func208.trans (congrArg some (by kernel_rfl))⟩
 f21:=⟨Tryz.f209.name,by decide,Tryz.func209.trans (congrArg some (by kernel_rfl))⟩
 f22:=⟨Tryz.f210.name,by decide,Tryz.func210.trans (congrArg some (by kernel_rfl))⟩
 f23:=⟨Tryz.f211.name,by decide,Tryz.func211.trans (congrArg some (by kernel_rfl))⟩
 f24:=⟨Tryz.f212.name,by decide,Tryz.func212.trans (congrArg some (by kernel_rfl))⟩
 f25:=⟨Tryz.f213.name,by decide,Tryz.func213.trans (congrArg some (by kernel_rfl))⟩
 f26:=⟨Tryz.f214.name,by decide,Tryz.func214.trans (congrArg some (by kernel_rfl))⟩
 f27:=⟨Tryz.f215.name,by decide,Tryz.func215.trans (congrArg some (by kernel_rfl))⟩
 f28:=Tryz.func206.trans (congrArg some (by kernel_rfl))
 f29:=Tryz.func207.trans (congrArg some (by kernel_rfl))
 f46:=⟨Tryz.f241.name,by decide,Tryz.func241.trans (congrArg some (by kernel_rfl))⟩
 f47:=Tryz.func237.trans (congrArg some (by kernel_rfl))
 f48:=Tryz.func238.trans (congrArg some (by kernel_rfl))
 f49:=⟨Tryz.f242.name,by decide,Tryz.func242.trans (congrArg some (by kernel_rfl))⟩
 f50:=⟨Tryz.f243.name,by decide,Tryz.func243.trans (congrArg some (by kernel_rfl))⟩
 f57:=⟨Tryz.f253.name,by decide,Tryz.func253.trans (congrArg some (by kernel_rfl))⟩
 t0:=Tryz.underlying0
 a0:=Tryz.isAgg0
 z0:=Tryz.sizeOf0
 v0:=Tryz.zeroValue0
 t3:=Tryz.underlying3
 a3:=Tryz.isAgg3
 z3:=Tryz.sizeOf3
 v3:=Tryz.zeroValue3
 t4:=Tryz.underlying4
 a4:=Tryz.isAgg4
 z4:=Tryz.sizeOf4
 v4:=Tryz.zeroValue4
 t5:=Tryz.underlying5
 a5:=Tryz.isAgg5
 z5:=Tryz.sizeOf5
 v5:=Tryz.zeroValue5
 t9:=Tryz.underlying9
 a9:=Tryz.isAgg9
 z9:=Tryz.sizeOf9
 v9:=Tryz.zeroValue9
 t22:=Tryz.underlying53
 a22:=Tryz.isAgg53
 z22:=Tryz.sizeOf53
 v22:=Tryz.zeroValue53
 t25:=Tryz.underlying175
 a25:=Tryz.isAgg175
 z25:=Tryz.sizeOf175
 v25:=Tryz.zeroValue175
 t39:=Tryz.underlying140
 a39:=Tryz.isAgg140
 z39:=Tryz.sizeOf140
 v39:=Tryz.zeroValue140
 t45:=Tryz.underlying245
 a45:=Tryz.isAgg245
 z45:=Tryz.sizeOf245
 v45:=Tryz.zeroValue245
 t46:=Tryz.underlying246
 a46:=Tryz.isAgg246
 z46:=Tryz.sizeOf246
 v46:=Tryz.zeroValue246
 t50:=Tryz.underlying250
 a50:=Tryz.isAgg250
 z50:=Tryz.sizeOf250
 v50:=Tryz.zeroValue250
 t53:=Tryz.underlying253
 a53:=Tryz.isAgg253
 z53:=Tryz.sizeOf253
 v53:=Tryz.zeroValue253
 t55:=Tryz.underlying139
 a55:=Tryz.isAgg139
 z55:=Tryz.sizeOf139
 v55:=Tryz.zeroValue139
 t66:=Tryz.underlying269
 a66:=Tryz.isAgg269
 z66:=Tryz.sizeOf269
 v66:=Tryz.zeroValue269
 t70:=Tryz.underlying273
 a70:=Tryz.isAgg273
 z70:=Tryz.sizeOf273
 v70:=Tryz.zeroValue273
 t76:=Tryz.underlying281
 a76:=Tryz.isAgg281
 z76:=Tryz.sizeOf281
 v76:=Tryz.zeroValue281
 t77:=Tryz.underlying188
 a77:=Tryz.isAgg188
 z77:=Tryz.sizeOf188
 v77:=Tryz.zeroValue188 }
def Tryz.lays125_ren:Go.Shelf.Ren:=⟨fun|125=>166|128=>206|129=>207|n=>n,fun|46=>140|3=>3|51=>253|53=>139|4=>4|5=>5|9=>9|n=>n,fun|n=>n⟩
theorem Tryz.lays125:Go.Proofs.Lays.n125 Tryz.prog Tryz.lays125_ren:={
 mixed:=by kernel_rfl
 f125:=Tryz.func166.trans (congrArg some (by kernel_rfl))
 f128:=Tryz.func206.trans (congrArg some (by kernel_rfl))
 f129:=Tryz.func207.trans (congrArg some (by kernel_rfl))
 t3:=Tryz.underlying3
 a3:=Tryz.isAgg3
 z3:=Tryz.sizeOf3
 v3:=Tryz.zeroValue3
 t4:=Tryz.underlying4
 a4:=Tryz.isAgg4
 z4:=Tryz.sizeOf4
 v4:=Tryz.zeroValue4
 t5:=Tryz.underlying5
 a5:=Tryz.isAgg5
 z5:=Tryz.sizeOf5
 v5:=Tryz.zeroValue5
 t9:=Tryz.underlying9
 a9:=Tryz.isAgg9
 z9:=Tryz.sizeOf9
 v9:=Tryz.zeroValue9
 t46:=Tryz.underlying140
 a46:=Tryz.isAgg140
 z46:=Tryz.sizeOf140
 v46:=Tryz.zeroValue140
 t51:=Tryz.underlying253
 a51:=Tryz.isAgg253
 z51:=Tryz.sizeOf253
 v51:=Tryz.zeroValue253
 t53:=Tryz.underlying139
 a53:=Tryz.isAgg139
 z53:=Tryz.sizeOf139
 v53:=Tryz.zeroValue139 }
end Go.Proofs
