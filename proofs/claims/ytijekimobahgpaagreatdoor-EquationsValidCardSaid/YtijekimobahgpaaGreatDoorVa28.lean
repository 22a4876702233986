/- A part of the proof. -/
import Derived.Test.YtijekimobahgpaaGreatDoorVa27
set_option linter.unusedVariables false
set_option linter.unusedSimpArgs false
set_option linter.unusedSectionVars false
set_option maxRecDepth 100000
set_option maxHeartbeats 16000000
namespace Go.Proofs.YtijekimobahgpaaGreatDoor
section
open Go.RowKit
variable [Base]
theorem Qik {α:Type} [DecidableEq α]{a b:List α}{k:Nat}{x y:α}(ha:a[k]? = some x)(hb:b[k]? = some y)(h:a.take k=b.take k):(a.take (k+1)=b.take (k+1))↔x=y:=by
 rw[List.take_add_one,List.take_add_one,ha,hb,h];simp
theorem Qqs (a b:List Int)(u v:Value)(w:World)(hu:QJa w u a)(hv:QJa w v b):Calls Tryz.prog 59 #[u,v] w (Qia (decide (a=b)) w):=by
 obtain⟨ua,uc,rfl,hun,-,-,huc⟩:=hu.cell;obtain⟨va,vc,rfl,hvn,-,-,hvc⟩:=hv.cell;have HU:=Zh huc;have HV:=Zh hvc;obtain⟨n,hn⟩:=Ze a.length;obtain⟨m,hm⟩:=Ze b.length;rw[hn] at hun ⊢;rw[hm] at hvn ⊢;have HN:=Zh hn;have HM:=Zh hm;obtain⟨d,hd⟩:=Ze (decide (a=b));rw[hd];have HD:=Zh hd;clear huc hvc hu hv hn hm hd;unfold maxLen at hun hvn;by_cases hnm:n=m;rotate_left
 ·have t1:((n:Int) !=(m:Int))=true:=by simp;omega
  have HF:=Zh (show d=false by
   rw[←HD.o];simp only[decide_eq_false_iff_not];rintro rfl;exact hnm (HN.o.symm.trans HM.o))
  clear hnm;go_enter Tryz.func59,Tryz.ntmps59;go_wp2;go_ret;exact⟨by rw[HF.o];rfl,Below.refl _ _⟩
 subst hnm;have t1:((n:Int) !=(n:Int))=false:=by simp
 go_enter Tryz.func59,Tryz.ntmps59;go_wp2;go_loopw [5] (fun y wr=>∃k:Nat,k≤n∧y=.int .i64 k∧Hid (Below w.heap.size w wr)∧Hid (a.take k=b.take k)) (fun y _=>n-(intOf y).toNat)
 case atStart=>exact⟨0,Nat.zero_le _,rfl,Below.refl _ _,by unfold Hid;simp⟩
 case round=>
  obtain⟨k,hk,rfl,HB,HT⟩:=hrel;by_cases hlt:k<n
  ·obtain⟨x,hx⟩:∃x,a[k]? = some x:=⟨_,List.getElem?_eq_getElem (by rw[HN.o];exact hlt)⟩;obtain⟨y,hy⟩:∃y,b[k]? = some y:=⟨_,List.getElem?_eq_getElem (by rw[HM.o];exact hlt)⟩;obtain⟨xb,xo,rfl,hxb,g0⟩:=HU.o k x hx;obtain⟨yb,yo,rfl,hyb,g1⟩:=HV.o k y hy;have g0:=(HB.o.cell (p:=⟨xb,xo+k,none⟩) hxb).trans g0;have g1:=(HB.o.cell (p:=⟨yb,yo+k,none⟩) hyb).trans g1;have HS:=Zh (Qik hx hy HT.o);have HXY:=Zh (And.intro hx hy);clear hx hy;by_cases e:x=y
   ·have t2:(x != y)=false:=by simp[e]
    have HT2:=Zh (HS.o.2 e);clear e;go_wp2;go_quiet (fail);go_wp2;go_roundw
    case rel=>exact⟨k+1,by omega,by go_num,Qp HB.o _,HT2⟩
    case measure=>simp[intOf];omega
   ·have t2:(x != y)=true:=by simp[e]
    have HF:=Zh (show d=false by
     rw[←HD.o];simp only[decide_eq_false_iff_not];rintro rfl;have:=HXY.o.1.symm.trans HXY.o.2;injection this with this
     exact e this)
    clear e;go_wp2;go_quiet (fail);go_wp2;go_ret;exact⟨by rw[HF.o];rfl,Qp HB.o _⟩
  ·obtain rfl:k=n:=by omega
   have HF:=Zh (show d=true by
    rw[←HD.o];have h:=HT.o;rw[List.take_of_length_le (by rw[HN.o];exact Nat.le_refl _),List.take_of_length_le (by rw[HM.o];exact Nat.le_refl _)] at h
    simpa using h)
   go_wp2;go_ret;exact⟨by rw[HF.o];rfl,HB.o⟩
def eqTB (a b:Qw):Bool:=Qhj a.gen b.gen&&(Qhj a.kill b.kill&&decide (a.cops=b.cops))
theorem Qdm (f g:Qw)(fu fk fc gu gk gc:Value)(w:World)(hf:Qja w fu fk fc f)(hg:Qja w gu gk gc g):Calls Tryz.prog 20 #[trV f fu fk fc,trV g gu gk gc] w (Qia (eqTB f g) w):=by
 have HF:=Zh hf;have HG:=Zh hg;obtain⟨fua,fuc,rfl,-⟩:=hf.gen.cell;obtain⟨fka,fkc,rfl,-⟩:=hf.kill.cell;obtain⟨fca,fcc,rfl,hn,-,-,hfc⟩:=hf.cops.cell;obtain⟨gua,guc,rfl,-⟩:=hg.gen.cell;obtain⟨gka,gkc,rfl,-⟩:=hg.kill.cell;obtain⟨gca,gcc,rfl,hm,-,-,hgc⟩:=hg.cops.cell;simp only[trV];obtain⟨fun',h1⟩:∃n,f.gen.words.length=n:=⟨_,rfl⟩;obtain⟨fkn,h2⟩:=Ze f.kill.words.length;obtain⟨n,h3⟩:=Ze f.cops.length;obtain⟨gun,h4⟩:=Ze g.gen.words.length;obtain⟨gkn,h5⟩:=Ze g.kill.words.length;obtain⟨m,h6⟩:=Ze g.cops.length;rw[h1,h2,h3] at HF;rw[h4,h5,h6] at HG;rw[h3] at hn;rw[h6] at hm;rw[h1,h2,h3,h4,h5,h6];have HFC:=Zh hfc;have HGC:=Zh hgc;have HN:=Zh h3;have HM:=Zh h6;obtain⟨z,hz⟩:=Ze w.heap.size;obtain⟨W,hW⟩:=Ze ((w.alloc (.cells #[iv f.gen.width,.slice fua fun' fuc,iv f.kill.width,.slice fka fkn fkc,.slice fca n fcc] FNA)).alloc (.cells #[iv g.gen.width,.slice gua gun guc,iv g.kill.width,.slice gka gkn gkc,.slice gca m gcc] FNA));have HZ:=Zh hz;have BW:=Zh (show Below z w W by rw[←hW,←hz];exact(Zb).alloc ZS _);have HCEL:=Zh (show ∀wx,Below W.heap.size W wx→(wx.heap[z]? = some (.cells #[iv f.gen.width,.slice fua fun' fuc,iv f.kill.width,.slice fka fkn fkc,.slice fca n fcc] FNA (0,0))∧wx.heap[z+1]? = some (.cells #[iv g.gen.width,.slice gua gun guc,iv g.kill.width,.slice gka gkn gkc,.slice gca m gcc] FNA (0,0))) by
  have k1:W.heap[z]? = some (.cells #[iv f.gen.width,.slice fua fun' fuc,iv f.kill.width,.slice fka fkn fkc,.slice fca n fcc] FNA (0,0)):=by rw[←hW,←hz,Below.heap_alloc _ _ _ ZS];exact heap_alloc_new _ _
  have k2:W.heap[z+1]? = some (.cells #[iv g.gen.width,.slice gua gun guc,iv g.kill.width,.slice gka gkn gkc,.slice gca m gcc] FNA (0,0)):=by rw[←hW,←hz];exact Qda _ _
  exact fun wx b=>⟨Qc k1 b (Qb k1),Qc k2 b (Qb k2)⟩)
 have hWs:W.heap.size=z+2:=by rw[←hW,←hz];simp
 have HWW:=Zh hW;obtain⟨d,hd⟩:=Ze (eqTB f g);rw[hd];obtain⟨d1,hd1⟩:=Ze (Qhj f.gen g.gen);obtain⟨d2,hd2⟩:=Ze (Qhj f.kill g.kill);have HD:=Zh (show d=(d1&&(d2&&decide (f.cops=g.cops))) by rw[←hd,←hd1,←hd2];rfl);have K1:=Zh (show ∀wx,Below z w wx→Calls Tryz.prog 75 #[.agg #[iv f.gen.width,.slice fua fun' fuc],.agg #[iv g.gen.width,.slice gua gun guc]] wx (Qia d1 wx) from fun wx b=>by
  rw[←hd1];exact Qpk f.gen g.gen _ _ wx (HF.o.gen.below (HZ.o▸b)) (HG.o.gen.below (HZ.o▸b)))
 have K2:=Zh (show ∀wx,Below z w wx→Calls Tryz.prog 75 #[.agg #[iv f.kill.width,.slice fka fkn fkc],.agg #[iv g.kill.width,.slice gka gkn gkc]] wx (Qia d2 wx) from fun wx b=>by
  rw[←hd2];exact Qpk f.kill g.kill _ _ wx (HF.o.kill.below (HZ.o▸b)) (HG.o.kill.below (HZ.o▸b)))
 clear hf hg hfc hgc h1 h2 h3 h4 h5 h6 hW hd hd1 hd2;unfold maxLen at hn hm;obtain⟨⟨x0,x1,x2,x3,x4⟩,⟨y0,y1,y2,y3,y4⟩⟩:=And.imp QJ QJ (HCEL.o W (Below.refl _ _));go_enter Tryz.func20,Tryz.ntmps20;go_upto_region 1 with(fail)
 rw[show(w.alloc (.cells #[iv f.gen.width,.slice fua fun' fuc,iv f.kill.width,.slice fka fkn fkc,.slice fca n fcc] FNA)).alloc (.cells #[iv g.gen.width,.slice gua gun guc,iv g.kill.width,.slice gka gkn gkc,.slice gca m gcc] FNA)=W from HWW.o]
 try rw[hz]
 go_wp2_with fail;refine(K1.o W BW.o).mono ?_;rintro e w1 ⟨rfl,b1⟩;have B1:=Zh b1;have BZ1:=Zh (BW.o.trans (b1.mono ZO));clear b1 x0 x1 x2 x3 x4 y0 y1 y2 y3 y4;obtain⟨⟨x0,x1,x2,x3,x4⟩,⟨y0,y1,y2,y3,y4⟩⟩:=And.imp QJ QJ (HCEL.o w1 B1.o)
 cases d1 with
|false=>
  have HF2:=Zh (show d=false by rw[HD.o];rfl);go_wp2;go_ret;exact⟨by rw[HF2.o];rfl,by rw[HZ.o];exact BZ1.o⟩
|true=>
  go_wp2_with fail;refine(K2.o w1 BZ1.o).mono ?_;rintro e w2 ⟨rfl,b2⟩;have B2:=Zh (B1.o.trans (b2.mono B1.o.size));have BZ2:=Zh (BZ1.o.trans (b2.mono (by have:=BZ1.o.size;have:=HZ.o;omega)));clear b2 x0 x1 x2 x3 x4 y0 y1 y2 y3 y4;obtain⟨⟨x0,x1,x2,x3,x4⟩,⟨y0,y1,y2,y3,y4⟩⟩:=And.imp QJ QJ (HCEL.o w2 B2.o)
  cases d2 with
 |false=>
   have HF2:=Zh (show d=false by rw[HD.o];rfl);go_wp2;go_ret;exact⟨by rw[HF2.o];rfl,by rw[HZ.o];exact BZ2.o⟩
 |true=>
   by_cases hnm:n=m;rotate_left
   ·have t1:((n:Int) !=(m:Int))=true:=by simp;omega
    have HF2:=Zh (show d=false by
     rw[HD.o];have:¬f.cops=g.cops:=fun e=>hnm (by rw[←HN.o,←HM.o,e])
     simp[this])
    clear hnm;go_wp2;go_ret;exact⟨by rw[HF2.o];rfl,by rw[HZ.o];exact BZ2.o⟩
   subst hnm;have t1:((n:Int) !=(n:Int))=false:=by simp
   have HD2:=Zh (show d=decide (f.cops=g.cops) by rw[HD.o];simp);go_wp2;clear x0 x1 x2 x3 x4 y0 y1 y2 y3 y4 t1;go_loopw [5] (fun y wr=>∃k:Nat,k≤n∧y=.int .i64 k∧Hid (Below W.heap.size W wr)∧Hid (f.cops.take k=g.cops.take k)) (fun y _=>n-(intOf y).toNat)
   case atStart=>exact⟨0,Nat.zero_le _,rfl,B2.o,by unfold Hid;simp⟩
   case round=>
    obtain⟨k,hk,rfl,HB,HT⟩:=hrel;have HBZ:=Zh (show Below z w wr from BW.o.trans (HB.o.mono ZO));obtain⟨⟨x0,x1,x2,x3,x4⟩,⟨y0,y1,y2,y3,y4⟩⟩:=And.imp QJ QJ (HCEL.o wr HB.o);by_cases hlt:k<n
    ·obtain⟨⟨p1,p2⟩,hx⟩:∃x,f.cops[k]? = some x:=⟨_,List.getElem?_eq_getElem (by rw[HN.o];exact hlt)⟩;obtain⟨⟨q1,q2⟩,hy⟩:∃y,g.cops[k]? = some y:=⟨_,List.getElem?_eq_getElem (by rw[HM.o];exact hlt)⟩;obtain⟨xb,xo,rfl,hxb,g0,g1⟩:=HFC.o k _ hx;obtain⟨yb,yo,rfl,hyb,g2,g3⟩:=HGC.o k _ hy;simp only at g0 g1 g2 g3;have hxz:xb<z:=by have:=HZ.o;omega
     have hyz:yb<z:=by have:=HZ.o;omega
     have g0:=(HBZ.o.cell (p:=⟨xb,xo+k*2,none⟩) hxz).trans g0;have g1:=(HBZ.o.cell (p:=⟨xb,xo+k*2+1,none⟩) hxz).trans g1;have g2:=(HBZ.o.cell (p:=⟨yb,yo+k*2,none⟩) hyz).trans g2;have g3:=(HBZ.o.cell (p:=⟨yb,yo+k*2+1,none⟩) hyz).trans g3;have HS:=Zh (Qik hx hy HT.o);have HXY:=Zh (And.intro hx hy);clear hx hy;by_cases e:p1=q1∧p2=q2
     ·obtain⟨rfl,rfl⟩:=e;have HT2:=Zh (HS.o.2 rfl);go_wp2;go_quiet (fail);go_wp2;go_roundw
      case rel=>exact⟨k+1,by omega,by go_num,Qp HB.o _,HT2⟩
      case measure=>simp[intOf];omega
     ·have HF2:=Zh (show d=false by
       rw[HD2.o];simp only[decide_eq_false_iff_not];intro h;have h2:=HXY.o;rw[h] at h2;have:=h2.1.symm.trans h2.2;injection this with this
       injection this with e1 e2
       exact e ⟨e1,e2⟩)
      by_cases e1:p1=q1
      ·have e2:¬p2=q2:=fun h=>e ⟨e1,h⟩
       subst e1;clear e;go_wp2;go_quiet (fail);go_wp2;go_ret;exact⟨by rw[HF2.o];rfl,by rw[HZ.o];exact Qp HBZ.o _⟩
      ·clear e;go_wp2;go_quiet (fail);go_wp2;go_ret;exact⟨by rw[HF2.o];rfl,by rw[HZ.o];exact Qp HBZ.o _⟩
    ·obtain rfl:k=n:=by omega
     have HF2:=Zh (show d=true by
      rw[HD2.o];have h:=HT.o;rw[List.take_of_length_le (by rw[HN.o];exact Nat.le_refl _),List.take_of_length_le (by rw[HM.o];exact Nat.le_refl _)] at h
      simpa using h)
     go_wp2;go_ret;exact⟨by rw[HF2.o];rfl,by rw[HZ.o];exact HBZ.o⟩
end
section
open Go.RowKit
variable [Base]
theorem Qoa.row {w:World}{a:Option Addr}{n c:Nat}{l:List (List Int)}(h:Qoa Qqc w (.slice a n c) l){k:Nat}{x:List Int}(hk:l[k]? = some x):∃b off u,a=some ⟨b,off,none⟩∧b<w.heap.size∧w.cell? ⟨b,off+k,none⟩=some u∧QJa w u x:=by
 obtain⟨a',c',e,-,-,-,h1⟩:=h.cell;injection e with e
 subst e;obtain⟨b,off,cs,e,hb,⟨u,rfl,hu⟩,hc⟩:=h1 k x hk;have c0:=hc 0 (show 0<1 by omega);rw[show off+k*Qqc.sz+0=off+k by show off+k*1+0=_;omega] at c0;exact⟨b,off,u,e,hb,c0,hu⟩
theorem Qlx (l:List (List Int))(u v:Value)(w:World)(hu:Qoa Qqc w u l)(hv:Qoa Qqc w v l):Calls Tryz.prog 21 #[u,v] w (Qia true w):=by
 obtain⟨aa,ac,rfl,hnm,-⟩:=hu.cell;obtain⟨ba,bc,rfl,-⟩:=hv.cell;obtain⟨n,hn⟩:=Ze l.length;rw[hn] at hu hv hnm ⊢;have HU:=Zh hu;have HV:=Zh hv;have HN:=Zh hn;have t1:((n:Int) !=(n:Int))=false:=by simp
 clear hu hv hn;unfold maxLen at hnm;go_enter Tryz.func21,Tryz.ntmps21;go_wp2;go_loopw [5] (fun y wr=>∃k:Nat,k≤n∧y=.int .i64 k∧Hid (Below w.heap.size w wr)) (fun y _=>n-(intOf y).toNat)
 case atStart=>exact⟨0,Nat.zero_le _,rfl,Below.refl _ _⟩
 case round=>
  obtain⟨k,hk,rfl,HB⟩:=hrel;by_cases hlt:k<n;rotate_left
  ·obtain rfl:k=n:=by omega
   go_wp2;go_ret;exact⟨rfl,HB.o⟩
  obtain⟨x,hx⟩:∃x,l[k]? = some x:=⟨_,List.getElem?_eq_getElem (by rw[HN.o];exact hlt)⟩;obtain⟨ab,ao,ua,rfl,hab,c0,hA⟩:=(HU.o.below HB.o).row hx;obtain⟨bb,bo,ub,rfl,hbb,c1,hC⟩:=(HV.o.below HB.o).row hx;have HA:=Zh hA;have HC:=Zh hC;have HLE:=Zh HB.o.size;clear hx hA hC;go_upto_region 6 with(fail)
  refine Zr (fun w'=>w'.cell? ⟨ab,ao+k,none⟩=some ua∧w'.cell? ⟨bb,bo+k,none⟩=some ub) 9 (⟨c0,c1⟩) fun hS0=>?_
  refine Yc 0 17 [2,3,8] ?_;refine Yc 1 18 [2,3,8] ?_;refine Yc 2 19 [3,8] ?_;refine Yc 3 20 [8] ?_;refine Yc 4 21 [6,7,8] ?_;refine Yc 5 22 [6,7,8] ?_;refine Yc 6 23 [7,8] ?_;refine Yc 7 24 [8] ?_;refine QP 8 (some 25) 59 #[ua,ub] rfl ZK ZK ZK rfl ?_;refine(Qqs x x ua ub (wr.drewN 1) (HA.o.same (Qf.below (Qp (Below.refl wr.heap.size wr) 1))) (HC.o.same (Qf.below (Qp (Below.refl wr.heap.size wr) 1)))).mono ?_;rintro e z1 ⟨rfl,b1⟩;rw[show decide (x=x)=true by simp];have HB1:=Zh (HB.o.trans (((Qp (Below.refl wr.heap.size wr) 1).trans b1).mono HLE.o));have hS1:(fun w':World=>w'.cell? ⟨ab,ao+k,none⟩=some ua∧w'.cell? ⟨bb,bo+k,none⟩=some ub) z1:=⟨(b1.cell (p:=⟨ab,ao+k,none⟩) (show ab<(wr.drewN 1).heap.size from hab)).trans hS0.1,(b1.cell (p:=⟨bb,bo+k,none⟩) (show bb<(wr.drewN 1).heap.size from hbb)).trans hS0.2⟩;clear hS0 b1;have hS0:=hS1;clear hS1;refine⟨_,rfl,fun _=>hS0,?_⟩;refine QW 9 (some 26) (.bool false) z1 rfl ZK ZK (by go_simp) rfl (fun h=>absurd rfl h) ?_;refine Qu ZK ?_ _;generalize hA:Act.put _ _ _=A0;simp only[Qba,Qaa,Zu,Zv,Zw] at hA;subst hA;clear hS0 c0 c1;go_wp2;go_roundw
  case rel=>exact⟨k+1,by omega,by go_num,HB1⟩
  case measure=>simp[intOf];omega
end
section
theorem Qzw:∀v∈QGl,QV v=true:=by decide
theorem Qqx:∀v∈Quw,QV v=true:=by decide
theorem QCw:∀v∈Qpw,QV v=true:=by decide
theorem Qmx {l:List Str}{a b:Int}(h:∀x∈l,QV x=true)(h1:a≤(l.length:Int))(h2:(l.length:Int)≤b):Qjl l a b=true:=by
 unfold Qjl;rw[List.all_eq_true.2 h,decide_eq_true h1,decide_eq_true h2];rfl
theorem Qyw {s:QD}(h1:∀x∈s.uses,QV x=true)(h2:∀x∈s.targets,QV x=true)(h3:s.uses.length≤4)(h4:s.targets.length≤2)(h5:opB s.op (QV s.dfn) s.dfn.isEmpty s.uses.length s.targets.length=true):stmtB s=true:=by
 unfold stmtB;rw[Qmx h1 ZO ZO,Qmx h2 ZO ZO,h5];rfl
theorem Qty {F:Int}{s:QD}(h:Qsw F s):stmtB s=true:=by
 rcases h with⟨ho,hd,⟨h1,h2,h3⟩,ht⟩|⟨ho,hd,hu,ht⟩|⟨ho,hd,⟨v,hv,hu⟩,ht⟩|⟨ho,hd,hu,r,_,n,hn,ht⟩|⟨ho,hd,⟨h1,h2⟩,ht⟩
 ·refine Qyw (fun x hx=>Qzw x (h3 x hx)) (by rw[ht];simp) ZO (by rw[ht];simp) ?_;rw[ho,hd,ht];simp[opB];omega
 ·refine Qyw (by rw[hu];simp) (by rw[ht];simp) (by rw[hu];simp) (by rw[ht];simp) ?_;rw[hu,ht,Qzw _ hd];rcases ho with ho|ho <;> rw[ho] <;> rfl
 ·refine Qyw (by rw[hu];simpa using Qzw v hv) (by rw[ht];simp) (by rw[hu];simp) (by rw[ht];simp) ?_;rw[ho,hd,hu,ht];rfl
 ·refine Qyw (by rw[hu];simp) (by rw[ht];simpa using Qqx n (List.mem_of_getElem? hn)) (by rw[hu];simp) (by rw[ht];simp) ?_;rw[ho,hd,hu,ht];rfl
 ·refine Qyw (fun x hx=>Qzw x (h2 x hx)) (by rw[ht];simp) ZO (by rw[ht];simp) ?_;rw[ho,ht,Qzw _ hd];rfl
theorem Qry {K:Int}{s:QD}(h:QLw K s):stmtB s=true:=by
 rcases h with⟨ho,hd,hu,ht⟩|⟨ho,hd,hu,r,_,n,hn,ht⟩|⟨ho,hd,⟨v,hv,hu⟩,r,q,_,_,n,m,hn,hm,ht⟩
 ·refine Qyw (by rw[hu];simp) (by rw[ht];simp) (by rw[hu];simp) (by rw[ht];simp) ?_;rw[ho,hd,hu,ht];rfl
 ·refine Qyw (by rw[hu];simp) (by rw[ht];simpa using QCw n (List.mem_of_getElem? hn)) (by rw[hu];simp) (by rw[ht];simp) ?_;rw[ho,hd,hu,ht];rfl
 ·refine Qyw (by rw[hu];simpa using Qzw v hv) (by rw[ht];simpa using ⟨QCw n (List.mem_of_getElem? hn),QCw m (List.mem_of_getElem? hm)⟩) (by rw[hu];simp) (by rw[ht];simp) ?_;rw[ho,hd,hu,ht];rfl
theorem Qfy {F K:Int}{k:Nat}{b:QI}(h:QHw F K k b):Qoc b=true:=by
 obtain⟨hn,l,t,e,hl,h1,h2⟩:=h;unfold Qoc;rw[QCw _ (List.mem_of_getElem? hn),e,List.all_eq_true.2 (fun x hx=>?_)]
 ·simp;omega
 ·rcases List.mem_append.1 hx with hx|hx
  ·exact Qty (h1 x hx)
  ·simp at hx;rw[hx];exact Qry h2
theorem Qsy {F:Int}{i:Nat}{f:Qo}(h:QMw F i f):QNc f=true:=by
 obtain⟨hn,h1,h2,h3⟩:=h;unfold QNc;rw[Qqx _ (List.mem_of_getElem? hn),decide_eq_true h1,decide_eq_true (show f.blocks.length≤16 by omega),List.all_eq_true.2 (fun x hx=>?_)]
 ·rfl
 ·obtain⟨k,hk⟩:=List.mem_iff_getElem?.1 hx;exact Qfy (h3 k x hk)
theorem Qpx {p:List Qo}(h:Qqw p):QMa p=true:=by
 obtain⟨h1,h2,h3⟩:=h;unfold QMa;rw[decide_eq_true h1,decide_eq_true (show p.length≤8 by omega),List.all_eq_true.2 (fun x hx=>?_)]
 ·rfl
 ·obtain⟨k,hk⟩:=List.mem_iff_getElem?.1 hx;exact Qsy (h3 k x hk)
end
section
variable [Base]
theorem Qdx {N l:List Str}(hN:N.length=3)(hl:l.length≤3)(h:∀(i:Nat) (x:Str),l[i]? = some x→N[i]? = some x):l=N.take l.length:=by
 apply List.ext_getElem?;intro i;rw[List.getElem?_take];by_cases hi:i<l.length
 ·rw[if_pos hi,List.getElem?_eq_getElem hi];exact(h i _ (List.getElem?_eq_getElem hi)).symm
 ·rw[if_neg hi,List.getElem?_eq_none ZO]
theorem Qhy (k:Nat)(h:k≤3):dupI (Quw.take k) = -1:=by
 obtain rfl|rfl|rfl|rfl:k=0∨k=1∨k=2∨k=3:=by omega
 all_goals decide
theorem QSx (k:Nat)(h:k≤3):dupI (Qpw.take k) = -1:=by
 obtain rfl|rfl|rfl|rfl:k=0∨k=1∨k=2∨k=3:=by omega
 all_goals decide
theorem Qqw.fnames {p:List Qo}(h:Qqw p):QRc p=Quw.take p.length:=by
 obtain⟨h1,h2,h3⟩:=h;have:=Qdx (N:=Quw) (l:=QRc p) rfl (by simp only[QRc,List.length_map];exact h2) fun i x hx=>by
  simp only[QRc,List.getElem?_map,Option.map_eq_some_iff] at hx;obtain⟨f,hf,rfl⟩:=hx;exact(h3 i f hf).1
 rw[show(QRc p).length=p.length by simp only[QRc,List.length_map]] at this;exact this
theorem QMw.bnames {F:Int}{i:Nat}{f:Qo}(h:QMw F i f):QPb f=Qpw.take f.blocks.length:=by
 obtain⟨-,h1,h2,h3⟩:=h;have:=Qdx (N:=Qpw) (l:=QPb f) rfl (by simp only[QPb,List.length_map];exact h2) fun i x hx=>by
  simp only[QPb,List.getElem?_map,Option.map_eq_some_iff] at hx;obtain⟨b,hb,rfl⟩:=hx;exact(h3 i b hb).1
 rw[show(QPb f).length=f.blocks.length by simp only[QPb,List.length_map]] at this;exact this
theorem QYw {N:List Str}{F r:Nat}{n:Str}(hr:(r:Int)<(F:Int))(hn:N[r]? = some n):n∈N.take F:=by
 refine List.mem_of_getElem? (i:=r) ?_;rw[List.getElem?_take,if_pos ZO];exact hn
theorem Qiy {F:Nat}{bs:List Str}{s:QD}(h:Qsw F s):QXi (Quw.take F) bs s false=0:=by
 unfold QXi QTg;rcases h with⟨ho,hd,hu,ht⟩|⟨ho,hd,hu,ht⟩|⟨ho,hd,hu,ht⟩|⟨ho,hd,hu,r,hr,n,hn,ht⟩|⟨ho,hd,hu,ht⟩
 ·simp[ho,ht]
 ·rcases ho with ho|ho <;> simp[ho,ht]
 ·simp[ho,ht]
 ·have:=QYw hr hn;simp[ho,ht,this]
 ·simp[ho,ht]
theorem QWx {K:Nat}{fs:List Str}{s:QD}(h:QLw K s):QXi fs (Qpw.take K) s true=0:=by
 unfold QXi QTg;rcases h with⟨ho,hd,hu,ht⟩|⟨ho,hd,hu,r,hr,n,hn,ht⟩|⟨ho,hd,hu,r,q,hr,hq,n,m,hn,hm,ht⟩
 ·simp[ho,ht]
 ·have:=QYw hr hn;simp[ho,ht,this]
 ·have h1:=QYw hr hn;have h2:=QYw hq hm;simp[ho,ht,h1,h2]
theorem Qbx {fs bs:List Str}{t:QD}(ht:QXi fs bs t true=0):∀l:List QD,(∀s∈l,QXi fs bs s false=0)→QIc fs bs (l++[t])=0
|[],_=>by simp[QIc,Qte,ht]
|s::r,h=>by
  have h1:=h s ZS
  have h2:=Qbx ht r fun x hx=>h x (by simp[hx])
  have h3:(r++[t]).isEmpty=false:=by simp
  simp only[List.cons_append,QIc,Qte,h3,h1,h2,if_pos]
theorem QXw {fs bs:List Str}:∀l:List QI,(∀b∈l,QIc fs bs b.stmts=0)→QCd fs bs l=0
|[],_=>rfl
|b::r,h=>by
  simp only[QCd,Qte,h b ZS,if_pos,QXw r fun x hx=>h x (by simp[hx])]
theorem Qfx {fs:List Str}:∀l:List Qo,(∀f∈l,Qxf fs f=0)→QQc fs l=0
|[],_=>rfl
|f::r,h=>by
  simp only[QQc,Qte,h f ZS,if_pos,Qfx r fun x hx=>h x (by simp[hx])]
theorem Qqw.funcsE0 {p:List Qo}(h:Qqw p):QQc (QRc p) p=0:=by
 refine Qfx p fun f hf=>?_
 rw[h.fnames];obtain⟨i,hi⟩:=List.mem_iff_getElem?.1 hf;have hg:=h.2.2 i f hi;have hb:=hg.bnames;have hd:¬0≤dupI (QPb f):=by
  rw[hb];have:=QSx f.blocks.length hg.2.2.1;omega
 unfold Qxf;rw[if_neg hd,hb];refine QXw _ fun b hb'=>?_
 obtain⟨k,hk⟩:=List.mem_iff_getElem?.1 hb';obtain⟨-,l,t,e,-,h1,h2⟩:=hg.2.2.2 k b hk;rw[e];exact Qbx (QWx h2) l fun s hs=>Qiy (h1 s hs)
theorem Qqw.stmt {p:List Qo}(h:Qqw p){s:QD}(hs:s∈QH p):(∃F,Qsw F s)∨∃K,QLw K s:=by
 unfold QH at hs;obtain⟨l,hl,hs⟩:=List.mem_flatten.1 hs;obtain⟨f,hf,rfl⟩:=List.mem_map.1 hl;obtain⟨l,hl,hs⟩:=List.mem_flatten.1 hs;obtain⟨b,hb,rfl⟩:=List.mem_map.1 hl;obtain⟨i,hi⟩:=List.mem_iff_getElem?.1 hf;obtain⟨k,hk⟩:=List.mem_iff_getElem?.1 hb;obtain⟨-,l,t,e,-,h1,h2⟩:=(h.2.2 i f hi).2.2.2 k b hk;rw[e] at hs;rcases List.mem_append.1 hs with hs|hs
 ·exact .inl ⟨_,h1 s hs⟩
 ·simp only[List.mem_singleton] at hs;exact .inr ⟨_,hs▸h2⟩
theorem QXx {s:QD}(h:(∃F,Qsw F s)∨∃K,QLw K s):∀x∈s.dfn::s.uses,x≠[]→x∈QGl:=by
 intro x hx hne;rcases h with⟨F,h⟩|⟨K,h⟩
 ·rcases h with⟨ho,hd,⟨-,-,hu⟩,ht⟩|⟨ho,hd,hu,ht⟩|⟨ho,hd,⟨v,hv,hu⟩,ht⟩|⟨ho,hd,hu,-⟩|⟨ho,hd,⟨-,hu⟩,ht⟩
  ·rcases List.mem_cons.1 hx with rfl|hx
   ·exact absurd hd hne
   ·exact hu x hx
  ·rw[hu] at hx;simp only[List.mem_singleton] at hx;exact hx▸hd
  ·rw[hu,hd] at hx;simp only[List.mem_cons,List.not_mem_nil,or_false] at hx;rcases hx with rfl|rfl
   ·exact absurd rfl hne
   ·exact hv
  ·rw[hu,hd] at hx;simp only[List.mem_singleton] at hx;exact absurd hx hne
  ·rcases List.mem_cons.1 hx with rfl|hx
   ·exact hd
   ·exact hu x hx
 ·rcases h with⟨ho,hd,hu,-⟩|⟨ho,hd,hu,-⟩|⟨ho,hd,⟨v,hv,hu⟩,-⟩
  ·rw[hu,hd] at hx;simp only[List.mem_singleton] at hx;exact absurd hx hne
  ·rw[hu,hd] at hx;simp only[List.mem_singleton] at hx;exact absurd hx hne
  ·rw[hu,hd] at hx;simp only[List.mem_cons,List.not_mem_nil,or_false] at hx;rcases hx with rfl|rfl
   ·exact absurd rfl hne
   ·exact hv
theorem Qqw.vars_le {p:List Qo}(h:Qqw p):(QN p).length≤4:=
 Qml (b:=QGl) (Qwn p) fun x hx=>by
  obtain⟨s,hs,hx,hne⟩:=(QFl (Qpx h)).1 hx
  exact QXx (h.stmt hs) x hx hne
theorem Qtx {α:Type}{k n:Nat}:∀l:List (List α),l.length≤n→(∀x∈l,x.length≤k)→l.flatten.length≤n*k
|[],_,_=>by simp
|x::r,h,hk=>by
  obtain⟨m,rfl⟩:∃m,n=m+1:=⟨n-1,by simp at h;omega⟩
  have h1:=Qtx (k:=k) (n:=m) r (by simpa using h) fun y hy=>hk y (by simp[hy])
  have h2:=hk x ZS
  rw[List.flatten_cons,List.length_append,Nat.succ_mul]
  omega
theorem Qqw.stmts_le {p:List Qo}(h:Qqw p):(QH p).length≤36:=by
 unfold QH;refine Qtx (k:=12) (n:=3) _ (by rw[List.length_map];exact h.2.1) fun x hx=>?_
 obtain⟨f,hf,rfl⟩:=List.mem_map.1 hx;obtain⟨i,hi⟩:=List.mem_iff_getElem?.1 hf;have hg:=h.2.2 i f hi;refine Qtx (k:=4) (n:=3) _ (by rw[List.length_map];exact hg.2.2.1) fun x hx=>?_
 obtain⟨b,hb,rfl⟩:=List.mem_map.1 hx;obtain⟨k,hk⟩:=List.mem_iff_getElem?.1 hb;obtain⟨-,l,t,e,hl,-⟩:=hg.2.2.2 k b hk;rw[e,List.length_append];simp;omega
theorem Qgx {α:Type}{g:α→Int}{c:Int}(hc:∀x,g x≤c):∀(l:List α) (a:Int),(l.map g).foldl (· + ·) a≤a+c*l.length
|[],a=>by simp
|x::r,a=>by
  have h1:=Qgx hc r (a+g x)
  have h2:=hc x
  simp only[List.map_cons,List.foldl_cons,List.length_cons] at h1 ⊢
  have h3:c*((r.length+1:Nat):Int)=c*(r.length:Int)+c:=by
   rw[Int.natCast_add,Int.mul_add];simp
  omega
theorem Qqw.check {p:List Qo}(h:Qqw p):QFa p=0:=by
 have hv:=Qpx h;have h0:=h.stmts_le;have h1:=h.vars_le;have h2:=h.2.1;have h3:QMd p≤256:=by
  unfold QMd;rw[if_pos hv];have:=Qgx (g:=QHd) (c:=2) (fun s=>by unfold QHd;split <;> omega) (QH p) 0;unfold sumI;omega
 have h4:QNd p≤1024:=by
  unfold QNd;rw[if_pos hv];have:=Qgx (g:=Qod) (c:=3) (fun s=>by unfold Qod;split <;>(try split) <;> omega) (QH p) 0;unfold sumI;omega
 have h5:¬0≤dupI (QRc p):=by
  rw[h.fnames];have:=Qhy p.length h2;omega
 unfold QFa;rw[if_neg (by rw[hv];simp),if_neg h5,h.funcsE0,if_neg ZS,if_neg ZO]
theorem Qqw.facts {p:List Qo}(h:Qqw p){kind:Int}(h1:1≤kind)(h2:kind≤4):Qxb p kind=0:=by
 have hv:=h.vars_le;have hn:=Qme (p:=p);unfold Qxb;rw[h.check,if_neg ZS,if_neg ZO,if_neg];unfold QBc
 split
 ·have:=QJg (QN p) p (QR p) 0;omega
 ·simp;omega
theorem Qly {s:QD}(h:(∃F,Qsw F s)∨∃K,QLw K s):FitS s:=by
 have:s.uses.length≤3∧s.targets.length≤2:=by
  rcases h with⟨F,h⟩|⟨K,h⟩
  ·rcases h with⟨ho,hd,⟨-,hu,-⟩,ht⟩|⟨ho,hd,hu,ht⟩|⟨ho,hd,⟨v,hv,hu⟩,ht⟩|⟨ho,hd,hu,r,hr,n,hn,ht⟩|⟨ho,hd,⟨hu,-⟩,ht⟩
   ·rw[ht];exact⟨by omega,by simp⟩
   ·rw[ht,hu];exact⟨by simp,by simp⟩
   ·rw[ht,hu];exact⟨by simp,by simp⟩
   ·rw[ht,hu];exact⟨by simp,by simp⟩
   ·rw[ht];exact⟨hu,by simp⟩
  ·rcases h with⟨ho,hd,hu,ht⟩|⟨ho,hd,hu,r,hr,n,hn,ht⟩|⟨ho,hd,⟨v,hv,hu⟩,r,q,hr,hq,n,m,hn,hm,ht⟩
   all_goals rw[ht,hu];exact⟨by simp,by simp⟩
 unfold FitS;omega
theorem Qqw.fit {p:List Qo}(h:Qqw p):∀f∈p,∀b∈f.blocks,∀s∈b.stmts,FitS s:=by
 intro f hf b hb s hs;refine Qly (h.stmt ?_);unfold QH;exact List.mem_flatten.2 ⟨_,List.mem_map.2 ⟨f,hf,rfl⟩,List.mem_flatten.2 ⟨_,List.mem_map.2 ⟨b,hb,rfl⟩,hs⟩⟩
end
section
open Go.RowKit
variable [Base]
theorem Qrq (a b:Int)(w:World):Calls Tryz.prog 66 #[iv a,iv b] w (Qia (QLd a b) w):=by
 have HE:QLd a b=((decide (0≤a)&&decide (a≤256))&&(decide (1≤b)&&decide (b≤256))):=rfl;by_cases h1:0≤a
 ·have t1:decide (a≥0)=true:=by simpa using h1
  by_cases h2:a≤256
  ·have t2:decide (a≤256)=true:=by simpa using h2
   by_cases h3:1≤b
   ·have t3:decide (b≥1)=true:=by simpa using h3
    have HF:=Zh (show QLd a b=decide (b≤256) by rw[HE];simp[h1,h2,h3]);clear HE h1 h2 h3;go_enter Tryz.func66,Tryz.ntmps66;go_wp2;go_ret;exact⟨by rw[HF.o];rfl,Below.refl _ _⟩
   ·have t3:decide (b≥1)=false:=by simpa using h3
    have HF:=Zh (show QLd a b=false by rw[HE];simp[h3]);clear HE h1 h2 h3;go_enter Tryz.func66,Tryz.ntmps66;go_wp2;go_ret;exact⟨by rw[HF.o];rfl,Below.refl _ _⟩
  ·have t2:decide (a≤256)=false:=by simpa using h2
   have HF:=Zh (show QLd a b=false by rw[HE];simp[h2]);clear HE h1 h2;go_enter Tryz.func66,Tryz.ntmps66;go_wp2;go_ret;exact⟨by rw[HF.o];rfl,Below.refl _ _⟩
 ·have t1:decide (a≥0)=false:=by simpa using h1
  have HF:=Zh (show QLd a b=false by rw[HE];simp[h1]);clear HE h1;go_enter Tryz.func66,Tryz.ntmps66;go_wp2;go_ret;exact⟨by rw[HF.o];rfl,Below.refl _ _⟩
def QGe (l:List Int)(k:Nat):Option Int:=if k=0 then none else l[k-1]?
theorem QXs {n:Int}{l:List Int}{k:Nat}{c:Int}(h:l[k]? = some c):Qye n (QGe l k) (l.drop k)=(((decide (0≤c)&&decide (c<n))&&(match QGe l k with|none=>true|some q=>decide (q<c)))&&Qye n (QGe l (k+1)) (l.drop (k+1))):=by
 have e:l.drop k=c::l.drop (k+1):=by
  have hlt:=(List.getElem?_eq_some_iff.1 h).1;rw[List.drop_eq_getElem_cons hlt];rw[List.getElem?_eq_getElem hlt] at h;injection h with h
  rw[h]
 rw[e]
 conv=>lhs;unfold Qye
 have e2:QGe l (k+1)=some c:=by unfold QGe;rw[if_neg ZO];simpa using h
 rw[e2]
 cases QGe l k <;> rfl
theorem QQt (l:List Int)(v:Value)(m:Int)(w:World)(h:QJa w v l):Calls Tryz.prog 67 #[v,iv m] w (Qia (ascB m l) w):=by
 obtain⟨a,c,rfl,hn,-,-,hc⟩:=h.cell;have HC:=Zh hc;obtain⟨n,hl⟩:=Ze l.length;rw[hl] at hn ⊢;have HL:=Zh hl;clear hc h hl;unfold maxLen at hn;go_enter Tryz.func67,Tryz.ntmps67;go_wp2;go_loopw [9] (fun y wr=>∃k:Nat,k≤n∧y=.int .i64 k∧w=wr∧Hid (ascB m l=Qye m (QGe l k) (l.drop k))) (fun y _=>n-(intOf y).toNat)
 case atStart=>exact⟨0,Nat.zero_le _,rfl,rfl,by unfold Hid ascB QGe;simp⟩
 case round=>
  obtain⟨k,hk,rfl,rfl,HA⟩:=hrel;by_cases hlt:k<n
  ·obtain⟨x,hx⟩:∃x,l[k]? = some x:=⟨_,List.getElem?_eq_getElem (by rw[HL.o];exact hlt)⟩;obtain⟨xb,xo,rfl,hxb,g0⟩:=HC.o k x hx;have HS:=Zh (QXs (n:=m) hx);by_cases h1:0≤x
   ·have t1:decide (x<0)=false:=by simp;omega
    by_cases h2:x<m
    ·have t2:decide (x≥m)=false:=by simp;omega
     by_cases h0:k=0
     ·subst h0;rw[Nat.add_zero] at g0;have HA2:=Zh (show ascB m l=Qye m (QGe l (0+1)) (l.drop (0+1)) by
       rw[HA.o,HS.o];have e:QGe l 0=none:=rfl;rw[e];simp[h1,h2])
      clear hx h1 h2;go_wp2;go_roundw
      case rel=>exact⟨0+1,by omega,by go_num,(by first|rfl|trivial),HA2⟩
      case measure=>simp[intOf];omega
     ·obtain⟨j,rfl⟩:∃j,k=j+1:=⟨k-1,by omega⟩;obtain⟨y,hy⟩:∃y,l[j]? = some y:=⟨_,List.getElem?_eq_getElem (by rw[HL.o];omega)⟩;obtain⟨yb,yo,e,hyb,g1⟩:=HC.o j y hy;injection e with e
      injection e with e1 e2
      subst e1 e2;have e:QGe l (j+1)=some y:=by unfold QGe;rw[if_neg h0];exact hy
      by_cases h4:y<x
      ·have t4:decide (x≤y)=false:=by simp;omega
       have HA2:=Zh (show ascB m l=Qye m (QGe l (j+1+1)) (l.drop (j+1+1)) by
        rw[HA.o,HS.o,e];simp[h1,h2,h4])
       clear hx hy h0 h1 h2 h4 e;go_wp2;go_roundw
       case rel=>exact⟨j+1+1,by omega,by go_num,(by first|rfl|trivial),HA2⟩
       case measure=>simp[intOf];omega
      ·have t4:decide (x≤y)=true:=by simp;omega
       have HA2:=Zh (show ascB m l=false by
        rw[HA.o,HS.o,e];simp[h4])
       clear hx hy h0 h1 h2 h4 e;go_wp2;go_ret;exact⟨by rw[HA2.o];rfl,Below.refl _ _⟩
    ·have t2:decide (x≥m)=true:=by simp;omega
     have HA2:=Zh (show ascB m l=false by rw[HA.o,HS.o];simp[h2]);clear hx h1 h2;go_wp2;go_ret;exact⟨by rw[HA2.o];rfl,Below.refl _ _⟩
   ·have t1:decide (x<0)=true:=by simp;omega
    have HA2:=Zh (show ascB m l=false by rw[HA.o,HS.o];simp[h1]);clear hx h1;go_wp2;go_ret;exact⟨by rw[HA2.o];rfl,Below.refl _ _⟩
  ·have HA2:=Zh (show ascB m l=true by
    rw[HA.o,List.drop_eq_nil_of_le (by rw[HL.o];omega)]
    cases QGe l k <;> rfl)
   go_wp2;go_ret;exact⟨by rw[HA2.o];rfl,Below.refl _ _⟩
theorem QAs (m:Int)(t:Qw)(gu ku cu:Value)(w:World)(h:Qja w gu ku cu t):Calls Tryz.prog 71 #[iv m,trV t gu ku cu] w (Qia (Qrc m t) w):=by
 have HT:=Zh h;obtain⟨ga,gc,rfl,-,-,-,-⟩:=h.gen.cell;obtain⟨ka,kc,rfl,-,-,-,-⟩:=h.kill.cell;obtain⟨ca,cc,rfl,-,-,-,-⟩:=h.cops.cell;simp only[trV];obtain⟨gn,hgn⟩:=Ze t.gen.words.length;obtain⟨kn,hkn⟩:=Ze t.kill.words.length;obtain⟨n,hn⟩:=Ze t.cops.length;rw[hgn,hkn,hn] at HT ⊢;obtain⟨W,hW⟩:=Ze (w.alloc (.cells #[iv t.gen.width,.slice ga gn gc,iv t.kill.width,.slice ka kn kc,.slice ca n cc] FNA));obtain⟨z,hz⟩:=Ze w.heap.size;have BW:=Zh (show Below w.heap.size w W by rw[←hW];exact Zb);have HX:=Zh (show W.heap[z]? = some (.cells #[iv t.gen.width,.slice ga gn gc,iv t.kill.width,.slice ka kn kc,.slice ca n cc] FNA (0,0)) by rw[←hW,←hz];exact heap_alloc_new _ _);have HWW:=Zh hW;obtain⟨b,hb⟩:=Ze (Qtd t);have KV:=Zh (Qng t (.slice ga gn gc) (.slice ka kn kc) (.slice ca n cc) W (HT.o.below BW.o));rw[hb] at KV;simp only[trV] at KV;have HF:=Zh (show Qrc m t=(b&&decide (t.gen.width=m)) by unfold Qrc;rw[hb]);clear h hW hgn hkn hn hb;obtain⟨x0,x1,x2,x3,x4⟩:=QJ HX.o;go_enter Tryz.func71,Tryz.ntmps71;go_upto_region 1 with(fail)
 rw[show w.alloc (.cells #[iv t.gen.width,.slice ga gn gc,iv t.kill.width,.slice ka kn kc,.slice ca n cc] FNA)=W from HWW.o]
 try rw[hz]
 go_wp2_with fail;refine KV.o.mono ?_;rintro e w1 ⟨rfl,b1⟩;have B1:=Zh (BW.o.trans (b1.mono BW.o.size));have HX1:=Zh (Qc HX.o b1 (Qb HX.o));clear b1 x0 x1 x2 x3 x4;obtain⟨x0,x1,x2,x3,x4⟩:=QJ HX1.o
 cases b with
|true=>
  go_wp2;go_ret;exact⟨by rw[HF.o];rfl,B1.o⟩
|false=>
  go_wp2;go_ret;exact⟨by rw[HF.o];rfl,B1.o⟩
def Qjp (b:Bool)(w:World)(e:Ending)(w':World):Prop:=∃z:Int,e=.returned (iv z)∧-1≤z∧b=decide (z<0)∧Below w.heap.size w w'
def QPc (m:Int)(s:QSet):Bool:=setB s&&decide (s.width=m)
theorem Qlm (m:Int)(q:Nat)(s:QSet)(u:Value)(w:World)(h:Qi w u s.words)(hq:w.cell? ⟨q,0,none⟩=some (iv m))(hqs:q<w.heap.size):Calls Tryz.prog 135 #[setV s u,.pointer (some ⟨q,0,none⟩)] w (Qia (!QPc m s) w):=by
 have HT:=Zh h;obtain⟨sa,sc,rfl,-⟩:=h.cell;obtain⟨sn,hsn⟩:=Ze s.words.length;rw[hsn] at HT ⊢;simp only[setV];obtain⟨W,hW⟩:=Ze (w.alloc (.cells #[iv s.width,.slice sa sn sc] ST));obtain⟨z,hz⟩:=Ze w.heap.size;have BW:=Zh (show Below w.heap.size w W by rw[←hW];exact Zb);have HX:=Zh (show W.heap[z]? = some (.cells #[iv s.width,.slice sa sn sc] ST (0,0)) by rw[←hW,←hz];exact heap_alloc_new _ _);have HWW:=Zh hW;have HQ:=Zh (And.intro hq hqs);obtain⟨b,hb⟩:=Ze (setB s);have KV:=Zh (Qff hb (HT.o.below BW.o));have HF:=Zh (show(!QPc m s)=(!(b&&decide (s.width=m))) by unfold QPc;rw[hb]);clear h hW hsn hb hq hqs;obtain⟨x0,x1⟩:=Qq HX.o;go_enter Tryz.func135,Tryz.ntmps135;go_upto_region 1 with(fail)
 rw[show w.alloc (.cells #[iv s.width,.slice sa sn sc] ST)=W from HWW.o]
 try rw[hz]
 go_wp2_with fail;refine KV.o.mono ?_;rintro e w1 ⟨rfl,b1⟩;have B1:=Zh (BW.o.trans (b1.mono BW.o.size));have HX1:=Zh (Qc HX.o b1 (Qb HX.o));clear b1 x0 x1;obtain⟨x0,x1⟩:=Qq HX1.o;have q0:=(B1.o.cell (p:=⟨q,0,none⟩) HQ.o.2).trans HQ.o.1
 cases b with
|true=>
  go_wp2;go_ret;exact⟨by rw[HF.o];rfl,B1.o⟩
|false=>
  go_wp2;go_ret;exact⟨by rw[HF.o];rfl,B1.o⟩
theorem Qco (m:Int)(q:Nat)(t:Qw)(gu ku cu:Value)(w:World)(h:Qja w gu ku cu t)(hq:w.cell? ⟨q,0,none⟩=some (iv m))(hqs:q<w.heap.size):Calls Tryz.prog 70 #[trV t gu ku cu,.pointer (some ⟨q,0,none⟩)] w (Qia (!Qrc m t) w):=by
 have HT:=Zh h;obtain⟨ga,gc,rfl,-,-,-,-⟩:=h.gen.cell;obtain⟨ka,kc,rfl,-,-,-,-⟩:=h.kill.cell;obtain⟨ca,cc,rfl,-,-,-,-⟩:=h.cops.cell;simp only[trV];obtain⟨gn,hgn⟩:=Ze t.gen.words.length;obtain⟨kn,hkn⟩:=Ze t.kill.words.length;obtain⟨n,hn⟩:=Ze t.cops.length;rw[hgn,hkn,hn] at HT ⊢;obtain⟨W,hW⟩:=Ze (w.alloc (.cells #[iv t.gen.width,.slice ga gn gc,iv t.kill.width,.slice ka kn kc,.slice ca n cc] FNA));obtain⟨z,hz⟩:=Ze w.heap.size;have BW:=Zh (show Below w.heap.size w W by rw[←hW];exact Zb);have HX:=Zh (show W.heap[z]? = some (.cells #[iv t.gen.width,.slice ga gn gc,iv t.kill.width,.slice ka kn kc,.slice ca n cc] FNA (0,0)) by rw[←hW,←hz];exact heap_alloc_new _ _);have HWW:=Zh hW;have KV:=Zh (QAs m t (.slice ga gn gc) (.slice ka kn kc) (.slice ca n cc) W (HT.o.below BW.o));simp only[trV] at KV;have q0:=(BW.o.cell (p:=⟨q,0,none⟩) hqs).trans hq;clear h hW hgn hkn hn hq hqs;obtain⟨x0,x1,x2,x3,x4⟩:=QJ HX.o;go_enter Tryz.func70,Tryz.ntmps70;go_upto_region 1 with(fail)
 rw[show w.alloc (.cells #[iv t.gen.width,.slice ga gn gc,iv t.kill.width,.slice ka kn kc,.slice ca n cc] FNA)=W from HWW.o]
 try rw[hz]
 go_wp2_with fail;refine KV.o.mono ?_;rintro e w1 ⟨rfl,b1⟩;have B1:=Zh (BW.o.trans (b1.mono BW.o.size));clear b1 x0 x1 x2 x3 x4;go_wp2;go_ret;exact⟨rfl,B1.o⟩
theorem QJm (l:List QSet)(v:Value)(m:Int)(q:Nat)(w:World)(h:Qoa Qsa w v l)(hq:w.cell? ⟨q,0,none⟩=some (iv m))(hqs:q<w.heap.size):
  Calls Tryz.prog 149 #[v,.func (.func 135) #[] #[.pointer (some ⟨q,0,none⟩)]] w (Qjp (l.all (QPc m)) w):=by
 obtain⟨a,c,rfl,hn,-,-,hc⟩:=h.cell;have HC:=Zh hc;obtain⟨n,hl⟩:=Ze l.length;rw[hl] at hn ⊢;have HL:=Zh hl;have HQ:=Zh (And.intro hq hqs);clear hc h hl hq hqs;unfold maxLen at hn;go_enter Tryz.func149,Tryz.ntmps149;go_wp2;go_loopw [8] (fun x wr=>∃k:Nat,k≤n∧x=.int .i64 k∧Hid (Below w.heap.size w wr)∧Hid (l.all (QPc m)=(l.drop k).all (QPc m))) (fun x _=>n-(intOf x).toNat)
 case atStart=>exact⟨0,Nat.zero_le _,rfl,Below.refl _ _,by unfold Hid;simp⟩
 case round=>
  obtain⟨k,hk,rfl,HB,HA⟩:=hrel;by_cases hlt:k<n
  ·obtain⟨s,hs⟩:∃s,l[k]? = some s:=⟨_,List.getElem?_eq_getElem (show k<l.length by have:=HL.o;omega)⟩;obtain⟨jb,jo,cs,rfl,hjb,⟨u,rfl,hu⟩,hcs⟩:=HC.o k s hs;obtain⟨ua,uc,rfl,-⟩:=hu.cell;obtain⟨un,hun⟩:=Ze s.words.length;rw[hun] at hu hcs;simp only[Qsa] at hcs;have g0:=hcs 0 ZD;have g1:=hcs 1 ZD;simp only[Nat.add_zero,List.getElem?_cons_zero,List.getElem?_cons_succ] at g0 g1;have g0:=(HB.o.cell (p:=⟨jb,jo+k*2,none⟩) hjb).trans g0;have g1:=(HB.o.cell (p:=⟨jb,jo+k*2+1,none⟩) hjb).trans g1;have K:=(show ∀wr,Below w.heap.size w wr→Calls Tryz.prog 135 _ wr (Qia (!(QPc m) s) wr) from fun wr b=>Qlm m q s (.slice ua un uc) wr (hu.below b) ((b.cell (p:=⟨q,0,none⟩) HQ.o.2).trans HQ.o.1) (by have:=b.size;have:=HQ.o.2;omega));simp only[setV] at K;have K:=Zh K;have HS:=Zh (Qzd l k s hs (QPc m));obtain⟨r,hr⟩:=Ze ((QPc m) s);rw[hr] at K HS;clear hs hr hun hu hcs
   cases r with
  |false=>
    have HG:=Zh (show l.all (QPc m)=false by rw[HA.o,HS.o];rfl);go_wp2_with fail;refine(K.o _ HB.o).mono ?_;rintro e w' ⟨rfl,b⟩;have HB2:=Zh (HB.o.trans (b.mono HB.o.size));clear b g0 g1;go_wp2;go_ret;exact⟨(k:Int),rfl,by omega,by rw[HG.o];simp,HB2.o⟩
  |true=>
    have HG:=Zh (show l.all (QPc m)=(l.drop (k+1)).all (QPc m) by rw[HA.o,HS.o];rfl);go_wp2_with fail;refine(K.o _ HB.o).mono ?_;rintro e w' ⟨rfl,b⟩;have HB2:=Zh (HB.o.trans (b.mono HB.o.size));clear b g0 g1;go_wp2;go_roundw
    case rel=>exact⟨k+1,by omega,by go_num,HB2,HG⟩
    case measure=>simp[intOf];omega
  ·have HG:=Zh (show l.all (QPc m)=true by rw[HA.o,List.drop_eq_nil_of_le (by rw[HL.o];omega)];rfl);go_wp2;go_ret;exact⟨-1,rfl,by omega,by rw[HG.o];rfl,HB.o⟩
theorem QLm (l:List QSet)(v:Value)(m:Int)(q:Nat)(w:World)(h:Qoa Qsa w v l)(hq:w.cell? ⟨q,0,none⟩=some (iv m))(hqs:q<w.heap.size):
  Calls Tryz.prog 88 #[v,.func (.func 135) #[] #[.pointer (some ⟨q,0,none⟩)]] w (Qia (!l.all (QPc m)) w):=by
 obtain⟨a,c,rfl,-⟩:=h.cell;have K:=Zh (QJm l _ m q w h hq hqs);clear h hq hqs;go_enter Tryz.func88,Tryz.ntmps88;go_wp2_with fail;refine K.o.mono ?_;rintro e w' ⟨z,rfl,hz,ha,b⟩;have HA:=Zh (show(!l.all (QPc m))=decide (0≤z) by rw[ha,Bool.eq_iff_iff];simp);have HB:=Zh b;clear ha b;go_wp2;go_ret;exact⟨by rw[HA.o];rfl,HB.o⟩
theorem QEo (l:List Qw)(v:Value)(m:Int)(q:Nat)(w:World)(h:Qoa trEl w v l)(hq:w.cell? ⟨q,0,none⟩=some (iv m))(hqs:q<w.heap.size):
  Calls Tryz.prog 136 #[v,.func (.func 70) #[] #[.pointer (some ⟨q,0,none⟩)]] w (Qjp (l.all (Qrc m)) w):=by
 obtain⟨a,c,rfl,hn,-,-,hc⟩:=h.cell;have HC:=Zh hc;obtain⟨n,hl⟩:=Ze l.length;rw[hl] at hn ⊢;have HL:=Zh hl;have HQ:=Zh (And.intro hq hqs);clear hc h hl hq hqs;unfold maxLen at hn;go_enter Tryz.func136,Tryz.ntmps136;go_wp2;go_loopw [8] (fun x wr=>∃k:Nat,k≤n∧x=.int .i64 k∧Hid (Below w.heap.size w wr)∧Hid (l.all (Qrc m)=(l.drop k).all (Qrc m))) (fun x _=>n-(intOf x).toNat)
 case atStart=>exact⟨0,Nat.zero_le _,rfl,Below.refl _ _,by unfold Hid;simp⟩
 case round=>
  obtain⟨k,hk,rfl,HB,HA⟩:=hrel;by_cases hlt:k<n
  ·obtain⟨s,hs⟩:∃s,l[k]? = some s:=⟨_,List.getElem?_eq_getElem (show k<l.length by have:=HL.o;omega)⟩;obtain⟨jb,jo,cs,rfl,hjb,⟨gu,ku,cu,rfl,hu⟩,hcs⟩:=HC.o k s hs;obtain⟨ga,gc,rfl,-⟩:=hu.gen.cell;obtain⟨ka,kc,rfl,-⟩:=hu.kill.cell;obtain⟨ca,cc,rfl,-⟩:=hu.cops.cell;obtain⟨gn,hgn⟩:=Ze s.gen.words.length;obtain⟨kn,hkn⟩:=Ze s.kill.words.length;obtain⟨cn,hcn⟩:=Ze s.cops.length;rw[hgn,hkn,hcn] at hu hcs;simp only[trEl] at hcs;have g0:=hcs 0 ZD;have g1:=hcs 1 ZD;have g2:=hcs 2 ZD;have g3:=hcs 3 ZD;have g4:=hcs 4 ZD;simp only[Nat.add_zero,List.getElem?_cons_zero,List.getElem?_cons_succ] at g0 g1 g2 g3 g4;have g0:=(HB.o.cell (p:=⟨jb,jo+k*5,none⟩) hjb).trans g0;have g1:=(HB.o.cell (p:=⟨jb,jo+k*5+1,none⟩) hjb).trans g1;have g2:=(HB.o.cell (p:=⟨jb,jo+k*5+2,none⟩) hjb).trans g2;have g3:=(HB.o.cell (p:=⟨jb,jo+k*5+3,none⟩) hjb).trans g3;have g4:=(HB.o.cell (p:=⟨jb,jo+k*5+4,none⟩) hjb).trans g4;have K:=(show ∀wr,Below w.heap.size w wr→Calls Tryz.prog 70 _ wr (Qia (!(Qrc m) s) wr) from fun wr b=>Qco m q s (.slice ga gn gc) (.slice ka kn kc) (.slice ca cn cc) wr (hu.below b) ((b.cell (p:=⟨q,0,none⟩) HQ.o.2).trans HQ.o.1) (by have:=b.size;have:=HQ.o.2;omega));simp only[trV] at K;have K:=Zh K;have HS:=Zh (Qzd l k s hs (Qrc m));obtain⟨r,hr⟩:=Ze ((Qrc m) s);rw[hr] at K HS;clear hs hr hgn hkn hcn hu hcs
   cases r with
  |false=>
    have HG:=Zh (show l.all (Qrc m)=false by rw[HA.o,HS.o];rfl);go_wp2_with fail;refine(K.o _ HB.o).mono ?_;rintro e w' ⟨rfl,b⟩;have HB2:=Zh (HB.o.trans (b.mono HB.o.size));clear b g0 g1 g2 g3 g4;go_wp2;go_ret;exact⟨(k:Int),rfl,by omega,by rw[HG.o];simp,HB2.o⟩
  |true=>
    have HG:=Zh (show l.all (Qrc m)=(l.drop (k+1)).all (Qrc m) by rw[HA.o,HS.o];rfl);go_wp2_with fail;refine(K.o _ HB.o).mono ?_;rintro e w' ⟨rfl,b⟩;have HB2:=Zh (HB.o.trans (b.mono HB.o.size));clear b g0 g1 g2 g3 g4;go_wp2;go_roundw
    case rel=>exact⟨k+1,by omega,by go_num,HB2,HG⟩
    case measure=>simp[intOf];omega
  ·have HG:=Zh (show l.all (Qrc m)=true by rw[HA.o,List.drop_eq_nil_of_le (by rw[HL.o];omega)];rfl);go_wp2;go_ret;exact⟨-1,rfl,by omega,by rw[HG.o];rfl,HB.o⟩
theorem QGo (l:List Qw)(v:Value)(m:Int)(q:Nat)(w:World)(h:Qoa trEl w v l)(hq:w.cell? ⟨q,0,none⟩=some (iv m))(hqs:q<w.heap.size):
  Calls Tryz.prog 69 #[v,.func (.func 70) #[] #[.pointer (some ⟨q,0,none⟩)]] w (Qia (!l.all (Qrc m)) w):=by
 obtain⟨a,c,rfl,-⟩:=h.cell;have K:=Zh (QEo l _ m q w h hq hqs);clear h hq hqs;go_enter Tryz.func69,Tryz.ntmps69;go_wp2_with fail;refine K.o.mono ?_;rintro e w' ⟨z,rfl,hz,ha,b⟩;have HA:=Zh (show(!l.all (Qrc m))=decide (0≤z) by rw[ha,Bool.eq_iff_iff];simp);have HB:=Zh b;clear ha b;go_wp2;go_ret;exact⟨by rw[HA.o];rfl,HB.o⟩
theorem QRl (m:Int)(l:List QSet)(v:Value)(w:World)(h:Qoa Qsa w v l):Calls Tryz.prog 68 #[iv m,v] w (Qia (QDe m l) w):=by
 have HT:=Zh h;obtain⟨a,c,rfl,-⟩:=h.cell;obtain⟨n,hn⟩:=Ze l.length;rw[hn] at HT ⊢;obtain⟨W,hW⟩:=Ze (w.alloc (.cells #[iv m] 3));obtain⟨z,hz⟩:=Ze w.heap.size;have BW:=Zh (show Below w.heap.size w W by rw[←hW];exact Zb);have HX:=Zh (show W.heap[z]? = some (.cells #[iv m] 3 (0,0)) by rw[←hW,←hz];exact heap_alloc_new _ _);have HWW:=Zh hW;have K:=Zh (show Calls Tryz.prog 88 #[.slice a n c,.func (.func 135) #[] #[.pointer (some ⟨z,0,none⟩)]] W (Qia (!QDe m l) W) from by
  have h1:=QLm l (.slice a n c) m z W (HT.o.below BW.o) (by have:=(Qa HX.o).1 0;simpa using this) (Qb HX.o);exact h1)
 clear h hn hW;go_enter Tryz.func68,Tryz.ntmps68;go_upto_region 1 with(fail)
 rw[show w.alloc (.cells #[iv m] 3)=W from HWW.o]
 try rw[hz]
 go_wp2_with fail;refine K.o.mono ?_;rintro e w1 ⟨rfl,b1⟩;have B1:=Zh (BW.o.trans (b1.mono BW.o.size));clear b1;go_wp2;go_ret;exact⟨by simp,B1.o⟩
end
end Go.Proofs.YtijekimobahgpaaGreatDoor
