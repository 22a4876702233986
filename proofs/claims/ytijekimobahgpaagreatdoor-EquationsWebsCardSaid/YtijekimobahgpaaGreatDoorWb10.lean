/- A part of the proof. -/
import Derived.Test.YtijekimobahgpaaGreatDoorWb09
set_option linter.unusedVariables false
set_option linter.unusedSimpArgs false
set_option linter.unusedSectionVars false
set_option maxRecDepth 100000
set_option maxHeartbeats 16000000
namespace Go.Proofs.YtijekimobahgpaaGreatDoor
section
open Go.RowKit
variable [Base]
theorem Qrq (a b:Int)(w:World):Calls Tryz.prog 66 #[iv a,iv b] w (Qia (QLd a b) w):=by
 have HE:QLd a b=((decide (0≤a)&&decide (a≤256))&&(decide (1≤b)&&decide (b≤256))):=rfl;by_cases h1:0≤a
 ·have t1:decide (a≥0)=true:=by simpa using h1
  by_cases h2:a≤256
  ·have t2:decide (a≤256)=true:=by simpa using h2
   by_cases h3:1≤b
   ·have t3:decide (b≥1)=true:=by simpa using h3
    have HF:=Zh (show QLd a b=decide (b≤256) by rw[HE];simp[h1,h2,h3]);clear HE h1 h2 h3;go_enter Tryz.func66,Tryz.ntmps66;go_wp2;go_ret;exact⟨by rw[HF.o];rfl,Below.refl _ _⟩
   ·have t3:decide (b≥1)=false:=by simpa using h3
    have HF:=Zh (show QLd a b=false by rw[HE];simp[h3]);clear HE h1 h2 h3;go_enter Tryz.func66,Tryz.ntmps66;go_wp2;go_ret;exact⟨by rw[HF.o];rfl,Below.refl _ _⟩
  ·have t2:decide (a≤256)=false:=by simpa using h2
   have HF:=Zh (show QLd a b=false by rw[HE];simp[h2]);clear HE h1 h2;go_enter Tryz.func66,Tryz.ntmps66;go_wp2;go_ret;exact⟨by rw[HF.o];rfl,Below.refl _ _⟩
 ·have t1:decide (a≥0)=false:=by simpa using h1
  have HF:=Zh (show QLd a b=false by rw[HE];simp[h1]);clear HE h1;go_enter Tryz.func66,Tryz.ntmps66;go_wp2;go_ret;exact⟨by rw[HF.o];rfl,Below.refl _ _⟩
def QGe (l:List Int)(k:Nat):Option Int:=if k=0 then none else l[k-1]?
theorem QXs {n:Int}{l:List Int}{k:Nat}{c:Int}(h:l[k]? = some c):Qye n (QGe l k) (l.drop k)=(((decide (0≤c)&&decide (c<n))&&(match QGe l k with|none=>true|some q=>decide (q<c)))&&Qye n (QGe l (k+1)) (l.drop (k+1))):=by
 have e:l.drop k=c::l.drop (k+1):=by
  have hlt:=(List.getElem?_eq_some_iff.1 h).1;rw[List.drop_eq_getElem_cons hlt];rw[List.getElem?_eq_getElem hlt] at h;injection h with h
  rw[h]
 rw[e]
 conv=>lhs;unfold Qye
 have e2:QGe l (k+1)=some c:=by unfold QGe;rw[if_neg ZO];simpa using h
 rw[e2]
 cases QGe l k <;> rfl
theorem QQt (l:List Int)(v:Value)(m:Int)(w:World)(h:QJa w v l):Calls Tryz.prog 67 #[v,iv m] w (Qia (ascB m l) w):=by
 obtain⟨a,c,rfl,hn,-,-,hc⟩:=h.cell;have HC:=Zh hc;obtain⟨n,hl⟩:=Ze l.length;rw[hl] at hn ⊢;have HL:=Zh hl;clear hc h hl;unfold maxLen at hn;go_enter Tryz.func67,Tryz.ntmps67;go_wp2;go_loopw [9] (fun y wr=>∃k:Nat,k≤n∧y=.int .i64 k∧w=wr∧Hid (ascB m l=Qye m (QGe l k) (l.drop k))) (fun y _=>n-(intOf y).toNat)
 case atStart=>exact⟨0,Nat.zero_le _,rfl,rfl,by unfold Hid ascB QGe;simp⟩
 case round=>
  obtain⟨k,hk,rfl,rfl,HA⟩:=hrel;by_cases hlt:k<n
  ·obtain⟨x,hx⟩:∃x,l[k]? = some x:=⟨_,List.getElem?_eq_getElem (by rw[HL.o];exact hlt)⟩;obtain⟨xb,xo,rfl,hxb,g0⟩:=HC.o k x hx;have HS:=Zh (QXs (n:=m) hx);by_cases h1:0≤x
   ·have t1:decide (x<0)=false:=by simp;omega
    by_cases h2:x<m
    ·have t2:decide (x≥m)=false:=by simp;omega
     by_cases h0:k=0
     ·subst h0;rw[Nat.add_zero] at g0;have HA2:=Zh (show ascB m l=Qye m (QGe l (0+1)) (l.drop (0+1)) by
       rw[HA.o,HS.o];have e:QGe l 0=none:=rfl;rw[e];simp[h1,h2])
      clear hx h1 h2;go_wp2;go_roundw
      case rel=>exact⟨0+1,by omega,by go_num,(by first|rfl|trivial),HA2⟩
      case measure=>simp[intOf];omega
     ·obtain⟨j,rfl⟩:∃j,k=j+1:=⟨k-1,by omega⟩;obtain⟨y,hy⟩:∃y,l[j]? = some y:=⟨_,List.getElem?_eq_getElem (by rw[HL.o];omega)⟩;obtain⟨yb,yo,e,hyb,g1⟩:=HC.o j y hy;injection e with e
      injection e with e1 e2
      subst e1 e2;have e:QGe l (j+1)=some y:=by unfold QGe;rw[if_neg h0];exact hy
      by_cases h4:y<x
      ·have t4:decide (x≤y)=false:=by simp;omega
       have HA2:=Zh (show ascB m l=Qye m (QGe l (j+1+1)) (l.drop (j+1+1)) by
        rw[HA.o,HS.o,e];simp[h1,h2,h4])
       clear hx hy h0 h1 h2 h4 e;go_wp2;go_roundw
       case rel=>exact⟨j+1+1,by omega,by go_num,(by first|rfl|trivial),HA2⟩
       case measure=>simp[intOf];omega
      ·have t4:decide (x≤y)=true:=by simp;omega
       have HA2:=Zh (show ascB m l=false by
        rw[HA.o,HS.o,e];simp[h4])
       clear hx hy h0 h1 h2 h4 e;go_wp2;go_ret;exact⟨by rw[HA2.o];rfl,Below.refl _ _⟩
    ·have t2:decide (x≥m)=true:=by simp;omega
     have HA2:=Zh (show ascB m l=false by rw[HA.o,HS.o];simp[h2]);clear hx h1 h2;go_wp2;go_ret;exact⟨by rw[HA2.o];rfl,Below.refl _ _⟩
   ·have t1:decide (x<0)=true:=by simp;omega
    have HA2:=Zh (show ascB m l=false by rw[HA.o,HS.o];simp[h1]);clear hx h1;go_wp2;go_ret;exact⟨by rw[HA2.o];rfl,Below.refl _ _⟩
  ·have HA2:=Zh (show ascB m l=true by
    rw[HA.o,List.drop_eq_nil_of_le (by rw[HL.o];omega)]
    cases QGe l k <;> rfl)
   go_wp2;go_ret;exact⟨by rw[HA2.o];rfl,Below.refl _ _⟩
theorem QAs (m:Int)(t:Qw)(gu ku cu:Value)(w:World)(h:Qja w gu ku cu t):Calls Tryz.prog 71 #[iv m,trV t gu ku cu] w (Qia (Qrc m t) w):=by
 have HT:=Zh h;obtain⟨ga,gc,rfl,-,-,-,-⟩:=h.gen.cell;obtain⟨ka,kc,rfl,-,-,-,-⟩:=h.kill.cell;obtain⟨ca,cc,rfl,-,-,-,-⟩:=h.cops.cell;simp only[trV];obtain⟨gn,hgn⟩:=Ze t.gen.words.length;obtain⟨kn,hkn⟩:=Ze t.kill.words.length;obtain⟨n,hn⟩:=Ze t.cops.length;rw[hgn,hkn,hn] at HT ⊢;obtain⟨W,hW⟩:=Ze (w.alloc (.cells #[iv t.gen.width,.slice ga gn gc,iv t.kill.width,.slice ka kn kc,.slice ca n cc] FNA));obtain⟨z,hz⟩:=Ze w.heap.size;have BW:=Zh (show Below w.heap.size w W by rw[←hW];exact Zb);have HX:=Zh (show W.heap[z]? = some (.cells #[iv t.gen.width,.slice ga gn gc,iv t.kill.width,.slice ka kn kc,.slice ca n cc] FNA (0,0)) by rw[←hW,←hz];exact heap_alloc_new _ _);have HWW:=Zh hW;obtain⟨b,hb⟩:=Ze (Qtd t);have KV:=Zh (Qng t (.slice ga gn gc) (.slice ka kn kc) (.slice ca n cc) W (HT.o.below BW.o));rw[hb] at KV;simp only[trV] at KV;have HF:=Zh (show Qrc m t=(b&&decide (t.gen.width=m)) by unfold Qrc;rw[hb]);clear h hW hgn hkn hn hb;obtain⟨x0,x1,x2,x3,x4⟩:=QJ HX.o;go_enter Tryz.func71,Tryz.ntmps71;go_upto_region 1 with(fail)
 rw[show w.alloc (.cells #[iv t.gen.width,.slice ga gn gc,iv t.kill.width,.slice ka kn kc,.slice ca n cc] FNA)=W from HWW.o]
 try rw[hz]
 go_wp2_with fail;refine KV.o.mono ?_;rintro e w1 ⟨rfl,b1⟩;have B1:=Zh (BW.o.trans (b1.mono BW.o.size));have HX1:=Zh (Qc HX.o b1 (Qb HX.o));clear b1 x0 x1 x2 x3 x4;obtain⟨x0,x1,x2,x3,x4⟩:=QJ HX1.o
 cases b with
|true=>
  go_wp2;go_ret;exact⟨by rw[HF.o];rfl,B1.o⟩
|false=>
  go_wp2;go_ret;exact⟨by rw[HF.o];rfl,B1.o⟩
def Qjp (b:Bool)(w:World)(e:Ending)(w':World):Prop:=∃z:Int,e=.returned (iv z)∧-1≤z∧b=decide (z<0)∧Below w.heap.size w w'
def QPc (m:Int)(s:QSet):Bool:=setB s&&decide (s.width=m)
theorem Qlm (m:Int)(q:Nat)(s:QSet)(u:Value)(w:World)(h:Qi w u s.words)(hq:w.cell? ⟨q,0,none⟩=some (iv m))(hqs:q<w.heap.size):Calls Tryz.prog 135 #[setV s u,.pointer (some ⟨q,0,none⟩)] w (Qia (!QPc m s) w):=by
 have HT:=Zh h;obtain⟨sa,sc,rfl,-⟩:=h.cell;obtain⟨sn,hsn⟩:=Ze s.words.length;rw[hsn] at HT ⊢;simp only[setV];obtain⟨W,hW⟩:=Ze (w.alloc (.cells #[iv s.width,.slice sa sn sc] ST));obtain⟨z,hz⟩:=Ze w.heap.size;have BW:=Zh (show Below w.heap.size w W by rw[←hW];exact Zb);have HX:=Zh (show W.heap[z]? = some (.cells #[iv s.width,.slice sa sn sc] ST (0,0)) by rw[←hW,←hz];exact heap_alloc_new _ _);have HWW:=Zh hW;have HQ:=Zh (And.intro hq hqs);obtain⟨b,hb⟩:=Ze (setB s);have KV:=Zh (Qff hb (HT.o.below BW.o));have HF:=Zh (show(!QPc m s)=(!(b&&decide (s.width=m))) by unfold QPc;rw[hb]);clear h hW hsn hb hq hqs;obtain⟨x0,x1⟩:=Qq HX.o;go_enter Tryz.func135,Tryz.ntmps135;go_upto_region 1 with(fail)
 rw[show w.alloc (.cells #[iv s.width,.slice sa sn sc] ST)=W from HWW.o]
 try rw[hz]
 go_wp2_with fail;refine KV.o.mono ?_;rintro e w1 ⟨rfl,b1⟩;have B1:=Zh (BW.o.trans (b1.mono BW.o.size));have HX1:=Zh (Qc HX.o b1 (Qb HX.o));clear b1 x0 x1;obtain⟨x0,x1⟩:=Qq HX1.o;have q0:=(B1.o.cell (p:=⟨q,0,none⟩) HQ.o.2).trans HQ.o.1
 cases b with
|true=>
  go_wp2;go_ret;exact⟨by rw[HF.o];rfl,B1.o⟩
|false=>
  go_wp2;go_ret;exact⟨by rw[HF.o];rfl,B1.o⟩
theorem Qco (m:Int)(q:Nat)(t:Qw)(gu ku cu:Value)(w:World)(h:Qja w gu ku cu t)(hq:w.cell? ⟨q,0,none⟩=some (iv m))(hqs:q<w.heap.size):Calls Tryz.prog 70 #[trV t gu ku cu,.pointer (some ⟨q,0,none⟩)] w (Qia (!Qrc m t) w):=by
 have HT:=Zh h;obtain⟨ga,gc,rfl,-,-,-,-⟩:=h.gen.cell;obtain⟨ka,kc,rfl,-,-,-,-⟩:=h.kill.cell;obtain⟨ca,cc,rfl,-,-,-,-⟩:=h.cops.cell;simp only[trV];obtain⟨gn,hgn⟩:=Ze t.gen.words.length;obtain⟨kn,hkn⟩:=Ze t.kill.words.length;obtain⟨n,hn⟩:=Ze t.cops.length;rw[hgn,hkn,hn] at HT ⊢;obtain⟨W,hW⟩:=Ze (w.alloc (.cells #[iv t.gen.width,.slice ga gn gc,iv t.kill.width,.slice ka kn kc,.slice ca n cc] FNA));obtain⟨z,hz⟩:=Ze w.heap.size;have BW:=Zh (show Below w.heap.size w W by rw[←hW];exact Zb);have HX:=Zh (show W.heap[z]? = some (.cells #[iv t.gen.width,.slice ga gn gc,iv t.kill.width,.slice ka kn kc,.slice ca n cc] FNA (0,0)) by rw[←hW,←hz];exact heap_alloc_new _ _);have HWW:=Zh hW;have KV:=Zh (QAs m t (.slice ga gn gc) (.slice ka kn kc) (.slice ca n cc) W (HT.o.below BW.o));simp only[trV] at KV;have q0:=(BW.o.cell (p:=⟨q,0,none⟩) hqs).trans hq;clear h hW hgn hkn hn hq hqs;obtain⟨x0,x1,x2,x3,x4⟩:=QJ HX.o;go_enter Tryz.func70,Tryz.ntmps70;go_upto_region 1 with(fail)
 rw[show w.alloc (.cells #[iv t.gen.width,.slice ga gn gc,iv t.kill.width,.slice ka kn kc,.slice ca n cc] FNA)=W from HWW.o]
 try rw[hz]
 go_wp2_with fail;refine KV.o.mono ?_;rintro e w1 ⟨rfl,b1⟩;have B1:=Zh (BW.o.trans (b1.mono BW.o.size));clear b1 x0 x1 x2 x3 x4;go_wp2;go_ret;exact⟨rfl,B1.o⟩
theorem QJm (l:List QSet)(v:Value)(m:Int)(q:Nat)(w:World)(h:Qoa Qsa w v l)(hq:w.cell? ⟨q,0,none⟩=some (iv m))(hqs:q<w.heap.size):
  Calls Tryz.prog 149 #[v,.func (.func 135) #[] #[.pointer (some ⟨q,0,none⟩)]] w (Qjp (l.all (QPc m)) w):=by
 obtain⟨a,c,rfl,hn,-,-,hc⟩:=h.cell;have HC:=Zh hc;obtain⟨n,hl⟩:=Ze l.length;rw[hl] at hn ⊢;have HL:=Zh hl;have HQ:=Zh (And.intro hq hqs);clear hc h hl hq hqs;unfold maxLen at hn;go_enter Tryz.func149,Tryz.ntmps149;go_wp2;go_loopw [8] (fun x wr=>∃k:Nat,k≤n∧x=.int .i64 k∧Hid (Below w.heap.size w wr)∧Hid (l.all (QPc m)=(l.drop k).all (QPc m))) (fun x _=>n-(intOf x).toNat)
 case atStart=>exact⟨0,Nat.zero_le _,rfl,Below.refl _ _,by unfold Hid;simp⟩
 case round=>
  obtain⟨k,hk,rfl,HB,HA⟩:=hrel;by_cases hlt:k<n
  ·obtain⟨s,hs⟩:∃s,l[k]? = some s:=⟨_,List.getElem?_eq_getElem (show k<l.length by have:=HL.o;omega)⟩;obtain⟨jb,jo,cs,rfl,hjb,⟨u,rfl,hu⟩,hcs⟩:=HC.o k s hs;obtain⟨ua,uc,rfl,-⟩:=hu.cell;obtain⟨un,hun⟩:=Ze s.words.length;rw[hun] at hu hcs;simp only[Qsa] at hcs;have g0:=hcs 0 ZD;have g1:=hcs 1 ZD;simp only[Nat.add_zero,List.getElem?_cons_zero,List.getElem?_cons_succ] at g0 g1;have g0:=(HB.o.cell (p:=⟨jb,jo+k*2,none⟩) hjb).trans g0;have g1:=(HB.o.cell (p:=⟨jb,jo+k*2+1,none⟩) hjb).trans g1;have K:=(show ∀wr,Below w.heap.size w wr→Calls Tryz.prog 135 _ wr (Qia (!(QPc m) s) wr) from fun wr b=>Qlm m q s (.slice ua un uc) wr (hu.below b) ((b.cell (p:=⟨q,0,none⟩) HQ.o.2).trans HQ.o.1) (by have:=b.size;have:=HQ.o.2;omega));simp only[setV] at K;have K:=Zh K;have HS:=Zh (Qzd l k s hs (QPc m));obtain⟨r,hr⟩:=Ze ((QPc m) s);rw[hr] at K HS;clear hs hr hun hu hcs
   cases r with
  |false=>
    have HG:=Zh (show l.all (QPc m)=false by rw[HA.o,HS.o];rfl);go_wp2_with fail;refine(K.o _ HB.o).mono ?_;rintro e w' ⟨rfl,b⟩;have HB2:=Zh (HB.o.trans (b.mono HB.o.size));clear b g0 g1;go_wp2;go_ret;exact⟨(k:Int),rfl,by omega,by rw[HG.o];simp,HB2.o⟩
  |true=>
    have HG:=Zh (show l.all (QPc m)=(l.drop (k+1)).all (QPc m) by rw[HA.o,HS.o];rfl);go_wp2_with fail;refine(K.o _ HB.o).mono ?_;rintro e w' ⟨rfl,b⟩;have HB2:=Zh (HB.o.trans (b.mono HB.o.size));clear b g0 g1;go_wp2;go_roundw
    case rel=>exact⟨k+1,by omega,by go_num,HB2,HG⟩
    case measure=>simp[intOf];omega
  ·have HG:=Zh (show l.all (QPc m)=true by rw[HA.o,List.drop_eq_nil_of_le (by rw[HL.o];omega)];rfl);go_wp2;go_ret;exact⟨-1,rfl,by omega,by rw[HG.o];rfl,HB.o⟩
theorem QLm (l:List QSet)(v:Value)(m:Int)(q:Nat)(w:World)(h:Qoa Qsa w v l)(hq:w.cell? ⟨q,0,none⟩=some (iv m))(hqs:q<w.heap.size):
  Calls Tryz.prog 88 #[v,.func (.func 135) #[] #[.pointer (some ⟨q,0,none⟩)]] w (Qia (!l.all (QPc m)) w):=by
 obtain⟨a,c,rfl,-⟩:=h.cell;have K:=Zh (QJm l _ m q w h hq hqs);clear h hq hqs;go_enter Tryz.func88,Tryz.ntmps88;go_wp2_with fail;refine K.o.mono ?_;rintro e w' ⟨z,rfl,hz,ha,b⟩;have HA:=Zh (show(!l.all (QPc m))=decide (0≤z) by rw[ha,Bool.eq_iff_iff];simp);have HB:=Zh b;clear ha b;go_wp2;go_ret;exact⟨by rw[HA.o];rfl,HB.o⟩
theorem QEo (l:List Qw)(v:Value)(m:Int)(q:Nat)(w:World)(h:Qoa trEl w v l)(hq:w.cell? ⟨q,0,none⟩=some (iv m))(hqs:q<w.heap.size):
  Calls Tryz.prog 136 #[v,.func (.func 70) #[] #[.pointer (some ⟨q,0,none⟩)]] w (Qjp (l.all (Qrc m)) w):=by
 obtain⟨a,c,rfl,hn,-,-,hc⟩:=h.cell;have HC:=Zh hc;obtain⟨n,hl⟩:=Ze l.length;rw[hl] at hn ⊢;have HL:=Zh hl;have HQ:=Zh (And.intro hq hqs);clear hc h hl hq hqs;unfold maxLen at hn;go_enter Tryz.func136,Tryz.ntmps136;go_wp2;go_loopw [8] (fun x wr=>∃k:Nat,k≤n∧x=.int .i64 k∧Hid (Below w.heap.size w wr)∧Hid (l.all (Qrc m)=(l.drop k).all (Qrc m))) (fun x _=>n-(intOf x).toNat)
 case atStart=>exact⟨0,Nat.zero_le _,rfl,Below.refl _ _,by unfold Hid;simp⟩
 case round=>
  obtain⟨k,hk,rfl,HB,HA⟩:=hrel;by_cases hlt:k<n
  ·obtain⟨s,hs⟩:∃s,l[k]? = some s:=⟨_,List.getElem?_eq_getElem (show k<l.length by have:=HL.o;omega)⟩;obtain⟨jb,jo,cs,rfl,hjb,⟨gu,ku,cu,rfl,hu⟩,hcs⟩:=HC.o k s hs;obtain⟨ga,gc,rfl,-⟩:=hu.gen.cell;obtain⟨ka,kc,rfl,-⟩:=hu.kill.cell;obtain⟨ca,cc,rfl,-⟩:=hu.cops.cell;obtain⟨gn,hgn⟩:=Ze s.gen.words.length;obtain⟨kn,hkn⟩:=Ze s.kill.words.length;obtain⟨cn,hcn⟩:=Ze s.cops.length;rw[hgn,hkn,hcn] at hu hcs;simp only[trEl] at hcs;have g0:=hcs 0 ZD;have g1:=hcs 1 ZD;have g2:=hcs 2 ZD;have g3:=hcs 3 ZD;have g4:=hcs 4 ZD;simp only[Nat.add_zero,List.getElem?_cons_zero,List.getElem?_cons_succ] at g0 g1 g2 g3 g4;have g0:=(HB.o.cell (p:=⟨jb,jo+k*5,none⟩) hjb).trans g0;have g1:=(HB.o.cell (p:=⟨jb,jo+k*5+1,none⟩) hjb).trans g1;have g2:=(HB.o.cell (p:=⟨jb,jo+k*5+2,none⟩) hjb).trans g2;have g3:=(HB.o.cell (p:=⟨jb,jo+k*5+3,none⟩) hjb).trans g3;have g4:=(HB.o.cell (p:=⟨jb,jo+k*5+4,none⟩) hjb).trans g4;have K:=(show ∀wr,Below w.heap.size w wr→Calls Tryz.prog 70 _ wr (Qia (!(Qrc m) s) wr) from fun wr b=>Qco m q s (.slice ga gn gc) (.slice ka kn kc) (.slice ca cn cc) wr (hu.below b) ((b.cell (p:=⟨q,0,none⟩) HQ.o.2).trans HQ.o.1) (by have:=b.size;have:=HQ.o.2;omega));simp only[trV] at K;have K:=Zh K;have HS:=Zh (Qzd l k s hs (Qrc m));obtain⟨r,hr⟩:=Ze ((Qrc m) s);rw[hr] at K HS;clear hs hr hgn hkn hcn hu hcs
   cases r with
  |false=>
    have HG:=Zh (show l.all (Qrc m)=false by rw[HA.o,HS.o];rfl);go_wp2_with fail;refine(K.o _ HB.o).mono ?_;rintro e w' ⟨rfl,b⟩;have HB2:=Zh (HB.o.trans (b.mono HB.o.size));clear b g0 g1 g2 g3 g4;go_wp2;go_ret;exact⟨(k:Int),rfl,by omega,by rw[HG.o];simp,HB2.o⟩
  |true=>
    have HG:=Zh (show l.all (Qrc m)=(l.drop (k+1)).all (Qrc m) by rw[HA.o,HS.o];rfl);go_wp2_with fail;refine(K.o _ HB.o).mono ?_;rintro e w' ⟨rfl,b⟩;have HB2:=Zh (HB.o.trans (b.mono HB.o.size));clear b g0 g1 g2 g3 g4;go_wp2;go_roundw
    case rel=>exact⟨k+1,by omega,by go_num,HB2,HG⟩
    case measure=>simp[intOf];omega
  ·have HG:=Zh (show l.all (Qrc m)=true by rw[HA.o,List.drop_eq_nil_of_le (by rw[HL.o];omega)];rfl);go_wp2;go_ret;exact⟨-1,rfl,by omega,by rw[HG.o];rfl,HB.o⟩
theorem QGo (l:List Qw)(v:Value)(m:Int)(q:Nat)(w:World)(h:Qoa trEl w v l)(hq:w.cell? ⟨q,0,none⟩=some (iv m))(hqs:q<w.heap.size):
  Calls Tryz.prog 69 #[v,.func (.func 70) #[] #[.pointer (some ⟨q,0,none⟩)]] w (Qia (!l.all (Qrc m)) w):=by
 obtain⟨a,c,rfl,-⟩:=h.cell;have K:=Zh (QEo l _ m q w h hq hqs);clear h hq hqs;go_enter Tryz.func69,Tryz.ntmps69;go_wp2_with fail;refine K.o.mono ?_;rintro e w' ⟨z,rfl,hz,ha,b⟩;have HA:=Zh (show(!l.all (Qrc m))=decide (0≤z) by rw[ha,Bool.eq_iff_iff];simp);have HB:=Zh b;clear ha b;go_wp2;go_ret;exact⟨by rw[HA.o];rfl,HB.o⟩
theorem QRl (m:Int)(l:List QSet)(v:Value)(w:World)(h:Qoa Qsa w v l):Calls Tryz.prog 68 #[iv m,v] w (Qia (QDe m l) w):=by
 have HT:=Zh h;obtain⟨a,c,rfl,-⟩:=h.cell;obtain⟨n,hn⟩:=Ze l.length;rw[hn] at HT ⊢;obtain⟨W,hW⟩:=Ze (w.alloc (.cells #[iv m] 3));obtain⟨z,hz⟩:=Ze w.heap.size;have BW:=Zh (show Below w.heap.size w W by rw[←hW];exact Zb);have HX:=Zh (show W.heap[z]? = some (.cells #[iv m] 3 (0,0)) by rw[←hW,←hz];exact heap_alloc_new _ _);have HWW:=Zh hW;have K:=Zh (show Calls Tryz.prog 88 #[.slice a n c,.func (.func 135) #[] #[.pointer (some ⟨z,0,none⟩)]] W (Qia (!QDe m l) W) from by
  have h1:=QLm l (.slice a n c) m z W (HT.o.below BW.o) (by have:=(Qa HX.o).1 0;simpa using this) (Qb HX.o);exact h1)
 clear h hn hW;go_enter Tryz.func68,Tryz.ntmps68;go_upto_region 1 with(fail)
 rw[show w.alloc (.cells #[iv m] 3)=W from HWW.o]
 try rw[hz]
 go_wp2_with fail;refine K.o.mono ?_;rintro e w1 ⟨rfl,b1⟩;have B1:=Zh (BW.o.trans (b1.mono BW.o.size));clear b1;go_wp2;go_ret;exact⟨by simp,B1.o⟩
end
section
open Go.RowKit
variable [Base]
theorem QDg:∀(l:List Int) (a:Int),l.foldl (· + ·) a=a+l.foldl (· + ·) 0
|[],a=>by simp
|x::r,a=>by
  rw[List.foldl_cons,List.foldl_cons,QDg r (a+x),QDg r (0+x)]
  omega
theorem QDn (x:Int)(l:List Int):sumI (x::l)=x+sumI l:=by
 unfold sumI;rw[List.foldl_cons,QDg,Int.zero_add]
theorem QMf (x:List Int)(l:List (List Int)):totI (x::l)=x.length+totI l:=QDn _ _
theorem QTi:∀(a b:List (List Int)),totI (a++b)=totI a+totI b
|[],b=>by show totI b=0+totI b;omega
|x::r,b=>by
  rw[List.cons_append,QMf,QMf,QTi r b]
  omega
theorem Qki:∀l:List (List Int),0≤totI l
|[]=>Int.le_refl _
|x::r=>by
  have:=Qki r
  rw[QMf]
  omega
theorem Qgk {l:List (List Int)}{k:Nat}{x:List Int}(h:l[k]? = some x):totI (l.take (k+1))=totI (l.take k)+x.length:=by
 rw[List.take_add_one,h,QTi]
 congr 1
 show totI [x]=_;rw[QMf];show(x.length:Int)+0=_;omega
theorem Qlp (l:List (List Int))(k:Nat):totI (l.take k)≤totI l:=by
 conv=>rhs;rw[←List.take_append_drop k l]
 rw[QTi];have:=Qki (l.drop k);omega
theorem QRo (s:SysS)(dv tv bv:Value)(w:World)(h:QKd w dv tv bv s):Calls Tryz.prog 18 #[sysV s dv tv bv] w (Qia (sysB s) w):=by
 have HS:=Zh h;obtain⟨da,dc,rfl,hdm,-,-,hdc⟩:=h.deps.cell;obtain⟨ta,tc,rfl,-⟩:=h.trans.cell;obtain⟨ba,bc,rfl,-⟩:=h.bnds.cell;obtain⟨dn,hdn⟩:=Ze s.deps.length;obtain⟨tn,htn⟩:=Ze s.trans.length;obtain⟨bn,hbn⟩:=Ze s.bnds.length;rw[hdn,htn,hbn] at HS;rw[hdn] at hdm;simp only[sysV,hdn,htn,hbn];obtain⟨sw,hsw⟩:=Ze s.width;rw[hsw];have HSB:=Zh (show sysB s=(QLd sw dn&&((decide (tn=dn)&&decide (bn=dn))&&((s.deps.all (ascB dn)&&decide (totI s.deps≤1024))&&(QDe sw s.bnds&&s.trans.all (Qrc sw))))) by unfold sysB;rw[hsw,hdn,htn,hbn]);obtain⟨W,hW⟩:=Ze (w.alloc (.cells #[iv sw,.slice da dn dc,.slice ta tn tc,.slice ba bn bc] SYT));obtain⟨z,hz⟩:=Ze w.heap.size;have BW:=Zh (show Below w.heap.size w W by rw[←hW];exact Zb);have HX:=Zh (show W.heap[z]? = some (.cells #[iv sw,.slice da dn dc,.slice ta tn tc,.slice ba bn bc] SYT (0,0)) by rw[←hW,←hz];exact heap_alloc_new _ _);have HWW:=Zh hW;have HDC:=Zh hdc;have HDN:=Zh hdn;have KSZ:=Zh (Qrq sw dn W);obtain⟨bs,hbs⟩:=Ze (QLd sw dn);rw[hbs] at KSZ HSB;have HBS:=Zh hbs;unfold maxLen at hdm;clear h hdc hdn htn hbn hsw hW hbs;obtain⟨x0,x1,x2,x3⟩:=Qt HX.o;go_enter Tryz.func18,Tryz.ntmps18;go_upto_region 1 with(fail)
 rw[show w.alloc (.cells #[iv sw,.slice da dn dc,.slice ta tn tc,.slice ba bn bc] SYT)=W from HWW.o]
 try rw[hz]
 go_wp2_with fail;refine KSZ.o.mono ?_;rintro e w1 ⟨rfl,b1⟩;have B1:=Zh (BW.o.trans (b1.mono BW.o.size));have HX1:=Zh (Qc HX.o b1 (Qb HX.o));clear b1 x0 x1 x2 x3 KSZ;obtain⟨x0,x1,x2,x3⟩:=Qt HX1.o
 cases bs with
|false=>
  have HF:=Zh (show sysB s=false by rw[HSB.o];rfl);go_wp2;go_ret;exact⟨by rw[HF.o];rfl,B1.o⟩
|true=>
  have hdn2:1≤dn∧dn≤256:=by
   have h1:=HBS.o;unfold QLd at h1;simp only[Bool.and_eq_true,decide_eq_true_eq] at h1;omega
  by_cases ht:tn=dn;rotate_left
  ·have t1:((tn:Int) !=(dn:Int))=true:=by simp;omega
   have HF:=Zh (show sysB s=false by rw[HSB.o];simp[ht]);clear ht;go_wp2;go_ret;exact⟨by rw[HF.o];rfl,B1.o⟩
  have t1:((tn:Int) !=(dn:Int))=false:=by simp;omega
  by_cases hb:bn=dn;rotate_left
  ·have t2:((bn:Int) !=(dn:Int))=true:=by simp;omega
   have HF:=Zh (show sysB s=false by rw[HSB.o];simp[hb]);clear ht hb;go_wp2;go_ret;exact⟨by rw[HF.o];rfl,B1.o⟩
  have t2:((bn:Int) !=(dn:Int))=false:=by simp;omega
  have HSB2:=Zh (show sysB s=((s.deps.all (ascB dn)&&decide (totI s.deps≤1024))&&(QDe sw s.bnds&&s.trans.all (Qrc sw))) by rw[HSB.o];simp[ht,hb]);clear ht hb HSB;go_wp2;clear x0 x1 x2 x3 t1 t2;go_loopw [4,32] (fun y4 y wr=>∃(k:Nat) (E:Int),k≤dn∧y=.int .i64 k∧y4=.int .i64 E∧0≤E∧E≤1024∧Hid (totI (s.deps.take k)=E)∧Hid (Below w.heap.size w wr∧wr.heap[z]? = some (.cells #[iv sw,.slice da dn dc,.slice ta tn tc,.slice ba bn bc] SYT (0,0)))∧Hid (s.deps.all (ascB dn)=(s.deps.drop k).all (ascB dn))) (fun _ y _=>dn-(intOf y).toNat)
  case atStart=>exact⟨0,0,Nat.zero_le _,rfl,rfl,by omega,by omega,rfl,⟨B1.o,HX1.o⟩,by unfold Hid;simp⟩
  case round=>
   obtain⟨k,E,hk,rfl,rfl,hE0,hE1,HE,HB,HA⟩:=hrel;by_cases hlt:k<dn
   ·obtain⟨l,hl⟩:∃l,s.deps[k]? = some l:=⟨_,List.getElem?_eq_getElem (by rw[HDN.o];exact hlt)⟩;obtain⟨jb,jo,cs,rfl,hjb,⟨u,rfl,hu⟩,hcs⟩:=HDC.o k l hl;have g0:=hcs 0 (show 0<1 by omega);simp only[Qqc,Nat.add_zero,Nat.mul_one,List.getElem?_cons_zero] at g0;have g0:=(HB.o.1.cell (p:=⟨jb,jo+k,none⟩) hjb).trans g0;obtain⟨ua,uc,rfl,hum,-⟩:=hu.cell;have KA:=Zh (QQt l (.slice ua l.length uc) dn wr (Qg.same hu (Qf.below HB.o.1)));obtain⟨un,hun⟩:=Ze l.length;have HT:=Zh (Qgk hl);have HLE:=Zh (Qlp s.deps (k+1));have HAD:=Zh (Qzd s.deps k l hl (ascB dn));rw[hun] at g0 hum KA HT;have HUN:=Zh hun;obtain⟨r,hr⟩:=Ze (ascB dn l);rw[hr] at KA HAD;have HR:=Zh hr;clear hl hu hcs hun hr;by_cases hun:un≤dn
    ·have hw:IntKind.i64.wrap (E+(un:Int))=E+(un:Int):=IntWalk.i64_in _ ZO;by_cases hbig:E+(un:Int) > 1024
     ·have t1:decide (E+(un:Int) > 1024)=true:=by simpa using hbig
      have HF:=Zh (show sysB s=false by
       rw[HSB2.o];have h1:¬totI s.deps≤1024:=by have:=HLE.o;have:=HT.o;have:=HE.o;omega
       simp[h1])
      clear hbig;go_wp2;go_ret;exact⟨by rw[HF.o];rfl,HB.o.1⟩
     ·have t1:decide (E+(un:Int) > 1024)=false:=by simpa using hbig
      have HE2:=Zh (show totI (s.deps.take (k+1))=E+un by rw[HT.o,HE.o]);have hE2:E+(un:Int)≤1024:=by omega
      clear hbig
      cases r with
     |false=>
       have HF:=Zh (show sysB s=false by rw[HSB2.o,HA.o,HAD.o];rfl);go_wp2_with fail;refine KA.o.mono ?_;rintro e w2 ⟨rfl,b2⟩;have HB2:=Zh (HB.o.1.trans (b2.mono HB.o.1.size));clear b2;go_wp2;go_ret;exact⟨by rw[HF.o];rfl,HB2.o⟩
     |true=>
       have HA2:=Zh (show s.deps.all (ascB dn)=(s.deps.drop (k+1)).all (ascB dn) by rw[HA.o,HAD.o];rfl);go_wp2_with fail;refine KA.o.mono ?_;rintro e w2 ⟨rfl,b2⟩;have HB2:=Zh (And.intro (HB.o.1.trans (b2.mono HB.o.1.size)) (Qc HB.o.2 b2 (Qb HB.o.2)));clear b2;go_wp2;go_roundw
       case rel=>exact⟨k+1,E+un,by omega,by go_num,by go_num,by omega,by omega,HE2,HB2,HA2⟩
       case measure=>simp[intOf];omega
    ·obtain rfl:r=false:=by
      cases r with
     |false=>rfl
     |true=>exact absurd (QYp HR.o) (by rw[HUN.o];omega)
     have HF:=Zh (show sysB s=false by rw[HSB2.o,HA.o,HAD.o];rfl);obtain⟨X,hX⟩:=Ze (IntKind.i64.wrap (E+(un:Int)));by_cases hbig:X > 1024
     ·have t1:decide (X > 1024)=true:=by simpa using hbig
      clear hbig;go_wp2;go_ret;exact⟨by rw[HF.o];rfl,HB.o.1⟩
     ·have t1:decide (X > 1024)=false:=by simpa using hbig
      clear hbig;go_wp2_with fail;refine KA.o.mono ?_;rintro e w2 ⟨rfl,b2⟩;have HB2:=Zh (HB.o.1.trans (b2.mono HB.o.1.size));clear b2;go_wp2;go_ret;exact⟨by rw[HF.o];rfl,HB2.o⟩
   ·obtain rfl:k=dn:=by omega
    have HSB3:=Zh (show sysB s=(QDe sw s.bnds&&s.trans.all (Qrc sw)) by
     have h1:s.deps.all (ascB k)=true:=by rw[HA.o,List.drop_eq_nil_of_le (by rw[HDN.o];exact Nat.le_refl _)];rfl
     have h2:totI s.deps≤1024:=by
      have h3:=HE.o;rw[List.take_of_length_le (by rw[HDN.o];exact Nat.le_refl _)] at h3;omega
     rw[HSB2.o,h1];simp[h2])
    have HSR:=Zh (HS.o.below HB.o.1);have KS:=Zh (QRl sw s.bnds (.slice ba bn bc) wr HSR.o.bnds);obtain⟨r,hr⟩:=Ze (QDe sw s.bnds);rw[hr] at KS HSB3;clear hr;obtain⟨x0,x1,x2,x3⟩:=Qt HB.o.2;go_wp2_with fail;refine KS.o.mono ?_;rintro e w2 ⟨rfl,b2⟩;have HB2:=Zh (And.intro (HB.o.1.trans (b2.mono HB.o.1.size)) (Qc HB.o.2 b2 (Qb HB.o.2)));have HSR2:=Zh (HSR.o.below b2);clear b2 x0 x1 x2 x3;obtain⟨x0,x1,x2,x3⟩:=Qt HB2.o.2
    cases r with
   |false=>
     have HF:=Zh (show sysB s=false by rw[HSB3.o];rfl);go_wp2;go_ret;exact⟨by rw[HF.o];rfl,HB2.o.1⟩
   |true=>
     have KF:=Zh (QGo s.trans (.slice ta tn tc) sw z w2 HSR2.o.trans x0 (Qb HB2.o.2));have HF:=Zh (show sysB s=s.trans.all (Qrc sw) by rw[HSB3.o];rfl);obtain⟨r,hr⟩:=Ze (s.trans.all (Qrc sw));rw[hr] at KF HF;clear hr;go_wp2_with fail;refine KF.o.mono ?_;rintro e w3 ⟨rfl,b3⟩;have HB3:=Zh (HB2.o.1.trans (b3.mono HB2.o.1.size));clear b3;go_wp2;go_ret;exact⟨by rw[HF.o];simp,HB3.o⟩
theorem QVh {s:SysS}{b:Bool}(hb:sysB s=b){dv tv bv:Value}{w:World}(h:QKd w dv tv bv s):Calls Tryz.prog 18 #[sysV s dv tv bv] w (Qia b w):=hb▸QRo s dv tv bv w h
theorem QTo (s:SysS)(hw:sysW s)(dv tv bv:Value)(w:World)(h:QKd w dv tv bv s):Calls Tryz.prog 60 #[sysV s dv tv bv] w (IntQ (QIg s) w):=by
 have HS:=Zh h;obtain⟨da,dc,rfl,hdm,-,-,hdc⟩:=h.deps.cell;obtain⟨ta,tc,rfl,-⟩:=h.trans.cell;obtain⟨ba,bc,rfl,-⟩:=h.bnds.cell;obtain⟨dn,hdn⟩:=Ze s.deps.length;obtain⟨tn,htn⟩:=Ze s.trans.length;obtain⟨bn,hbn⟩:=Ze s.bnds.length;rw[hdn,htn,hbn] at HS;rw[hdn] at hdm;obtain⟨sw,hsw⟩:=Ze s.width;obtain⟨W,hW⟩:=Ze (w.alloc (.cells #[iv sw,.slice da dn dc,.slice ta tn tc,.slice ba bn bc] SYT));obtain⟨z,hz⟩:=Ze w.heap.size;have BW:=Zh (show Below w.heap.size w W by rw[←hW];exact Zb);have HX:=Zh (show W.heap[z]? = some (.cells #[iv sw,.slice da dn dc,.slice ta tn tc,.slice ba bn bc] SYT (0,0)) by rw[←hW,←hz];exact heap_alloc_new _ _);have HWW:=Zh hW;have HDC:=Zh hdc;have HDN:=Zh hdn;obtain⟨b,hb⟩:=Ze (sysB s);have KV:=Zh (QVh hb (HS.o.below BW.o));simp only[sysV,hdn,htn,hbn,hsw] at KV ⊢;have HE:=Zh (show QIg s=if b=true then totI s.deps else 0 by unfold QIg;rw[hb]);have HOK:=Zh (show b=true→dn≤256∧totI s.deps≤1024 from fun h1=>by
  obtain⟨n,m,ho⟩:=QDr (hb.trans h1) hw;exact⟨by have:=ho.deps;have:=ho.nle;omega,ho.tot⟩)
 unfold maxLen at hdm;clear h hdc hdn htn hbn hsw hW hb hw;obtain⟨x0,x1,x2,x3⟩:=Qt HX.o;go_enter Tryz.func60,Tryz.ntmps60;go_upto_region 1 with(fail)
 rw[show w.alloc (.cells #[iv sw,.slice da dn dc,.slice ta tn tc,.slice ba bn bc] SYT)=W from HWW.o]
 try rw[hz]
 go_wp2_with fail;refine KV.o.mono ?_;rintro e w1 ⟨rfl,b1⟩;have B1:=Zh (BW.o.trans (b1.mono BW.o.size));have HX1:=Zh (Qc HX.o b1 (Qb HX.o));clear b1 x0 x1 x2 x3 KV;obtain⟨x0,x1,x2,x3⟩:=Qt HX1.o
 cases b with
|false=>
  go_wp2;go_ret;exact⟨Qob (show(0:Int)=QIg s by rw[HE.o];rfl),B1.o⟩
|true=>
  have hdn2:=(HOK.o rfl).1;have HTOT:=Zh (HOK.o rfl).2;have HE2:=Zh (show QIg s=totI s.deps by rw[HE.o,if_pos rfl]);clear HE HOK;go_wp2;clear x0 x1 x2 x3;go_loopw [3,11] (fun y4 y wr=>∃(k:Nat) (E:Int),k≤dn∧y=.int .i64 k∧y4=.int .i64 E∧0≤E∧E≤1024∧Hid (totI (s.deps.take k)=E)∧w1=wr) (fun _ y _=>dn-(intOf y).toNat)
  case atStart=>exact⟨0,0,Nat.zero_le _,rfl,rfl,by omega,by omega,rfl,rfl⟩
  case round=>
   obtain⟨k,E,hk,rfl,rfl,hE0,hE1,HT,rfl⟩:=hrel;by_cases hlt:k<dn
   ·obtain⟨l,hl⟩:∃l,s.deps[k]? = some l:=⟨_,List.getElem?_eq_getElem (by rw[HDN.o];exact hlt)⟩;obtain⟨jb,jo,cs,rfl,hjb,⟨u,rfl,hu⟩,hcs⟩:=HDC.o k l hl;have g0:=hcs 0 (show 0<1 by omega);simp only[Qqc,Nat.add_zero,Nat.mul_one,List.getElem?_cons_zero] at g0;have g0:=(B1.o.cell (p:=⟨jb,jo+k,none⟩) hjb).trans g0;obtain⟨ua,uc,rfl,hum,-⟩:=hu.cell;obtain⟨un,hun⟩:=Ze l.length;have HT2:=Qgk hl;have h3:=Qlp s.deps (k+1);rw[hun] at g0 hum HT2;have hE2:E+(un:Int)≤1024:=by have:=HTOT.o;have:=HT.o;omega
    have HT3:=Zh (show totI (s.deps.take (k+1))=E+un by rw[HT2,HT.o]);clear hl hu hcs hun HT2 h3;go_wp2;go_roundw
    case rel=>exact⟨k+1,E+un,by omega,by go_num,by go_num,by omega,by omega,HT3,(by first|rfl|trivial)⟩
    case measure=>simp[intOf];omega
   ·obtain rfl:k=dn:=by omega
    have HF:=Zh (show E=QIg s by
     rw[HE2.o,←HT.o,List.take_of_length_le (by rw[HDN.o];exact Nat.le_refl _)])
    go_wp2;go_ret;exact⟨Qob HF.o,B1.o⟩
end
section
open Go.RowKit
variable [Base]
def Qhj (s t:QSet):Bool:=decide (s.width=t.width)&&decide (s.words=t.words)
theorem Qpk (s t:QSet)(u1 u2:Value)(w:World)(h1:Qi w u1 s.words)(h2:Qi w u2 t.words):Calls Tryz.prog 75 #[setV s u1,setV t u2] w (Qia (Qhj s t) w):=by
 have hud:∀b:Bool,(undef=Value.bool b)=False:=fun b=>by simp[undef]
 obtain⟨d,hd⟩:=Ze (Qhj s t);rw[hd];unfold Qhj at hd;have HD:=Zh hd;obtain⟨a1,c1,rfl,hm,-,-,hk1⟩:=h1.cell;obtain⟨a2,c2,rfl,-,-,-,hk2⟩:=h2.cell;obtain⟨n1,hn1⟩:=Ze s.words.length;obtain⟨n2,hn2⟩:=Ze t.words.length;rw[hn1] at hm h1 ⊢;rw[hn2] at h2 ⊢;obtain⟨W,hW⟩:=Ze ((w.alloc (.cells #[.int .i64 s.width,.slice a1 n1 c1] 52)).alloc (.cells #[.int .i64 t.width,.slice a2 n2 c2] 52));have B0:Below w.heap.size w W:=by rw[←hW];exact(Zb).alloc ZS _
 have HB1:W.heap[w.heap.size]? = some (.cells #[.int .i64 s.width,.slice a1 n1 c1] 52 (0,0)):=by rw[←hW];exact Qz _ (heap_alloc_new _ _)
 have HB2:W.heap[w.heap.size+1]? = some (.cells #[.int .i64 t.width,.slice a2 n2 c2] 52 (0,0)):=by rw[←hW];exact Qda _ _
 have H1:=Zh HB1;have H2:=Zh HB2;have HW:=Zh hW;have BB:=Zh B0;have R1:=Zh (h1.below B0);have R2:=Zh (h2.below B0);have HK1:=Zh hk1;have HK2:=Zh hk2;have HN1:=Zh hn1;have HN2:=Zh hn2;unfold maxLen at hm;clear hW HB1 HB2 B0 hn1 hn2 h1 h2 hk1 hk2 hd R1 R2;by_cases hw:s.width=t.width;rotate_left
 ·obtain rfl:d=false:=by rw[←HD.o];simp[hw]
  have q1:(s.width != t.width)=true:=by simpa using hw
  clear hw;go_enter Tryz.func75,Tryz.ntmps75;go_wp2;go_ret;exact⟨rfl,by rw[HW.o];exact BB.o⟩
 have q1:(s.width != t.width)=false:=by simpa using hw
 by_cases hl:n1=n2;rotate_left
 ·obtain rfl:d=false:=by
   rw[←HD.o];have:s.words≠t.words:=fun e=>hl (by rw[←HN1.o,←HN2.o,e])
   simp[this]
  have q2:((n1:Int) !=(n2:Int))=true:=by simp;omega
  clear hw hl;go_enter Tryz.func75,Tryz.ntmps75;go_wp2;go_ret;exact⟨rfl,by rw[HW.o];exact BB.o⟩
 subst hl;have HD2:=Zh (show decide (s.words=t.words)=d by rw[←HD.o];simp[hw]);have q2:((n1:Int) !=(n1:Int))=false:=by simp
 clear hw HD;go_enter Tryz.func75,Tryz.ntmps75;go_wp2_with fail;rw[show(w.alloc (.cells #[.int .i64 s.width,.slice a1 n1 c1] 52)).alloc (.cells #[.int .i64 t.width,.slice a2 n1 c2] 52)=W from HW.o];go_loopw [5] (fun y wr=>∃i:Nat,i≤n1∧y=.int .i64 i∧Hid (s.words.take i=t.words.take i)∧Hid (Below W.heap.size W wr)) (fun y _=>n1-(intOf y).toNat)
 case atStart=>exact⟨0,Nat.zero_le _,rfl,rfl,Below.refl _ _⟩
 case round=>
  obtain⟨i,hi,rfl,HE,HB⟩:=hrel;have G:=Zh (Qc H1.o HB.o (Qb H1.o));have K:=Zh (Qc H2.o HB.o (Qb H2.o));have x0:=(Qa G.o).1 0;have x1:=(Qa G.o).1 1;have y0:=(Qa K.o).1 0;have y1:=(Qa K.o).1 1;simp only[Zx,Zy,Zz] at x0 x1 y0 y1;by_cases hlt:i<n1
  ·obtain⟨x,hx⟩:∃x,s.words[i]? = some x:=⟨_,List.getElem?_eq_getElem (show i<s.words.length by have:=HN1.o;omega)⟩;obtain⟨y,hy⟩:∃y,t.words[i]? = some y:=⟨_,List.getElem?_eq_getElem (show i<t.words.length by have:=HN2.o;omega)⟩;obtain⟨b1,o1,rfl,hb1,-,hc1⟩:=HK1.o i x hx;obtain⟨b2,o2,rfl,hb2,-,hc2⟩:=HK2.o i y hy;have g1:=((BB.o.trans (HB.o.mono BB.o.size)).cell (p:=⟨b1,o1+i,none⟩) hb1).trans hc1;have g2:=((BB.o.trans (HB.o.mono BB.o.size)).cell (p:=⟨b2,o2+i,none⟩) hb2).trans hc2;have e1:(0:Int)≤(i:Int):=by omega
   have e2:(i:Int)<(n1:Int):=by omega
   have HX:=Zh hx;have HY:=Zh hy;clear hc1 hc2 hx hy HK1 HK2;by_cases hxy:x=y
   ·subst hxy;have q3:((x:Int) !=(x:Int))=false:=by simp
    have HE2:=Zh (show s.words.take (i+1)=t.words.take (i+1) by rw[List.take_add_one,List.take_add_one,HE.o,HX.o,HY.o]);go_wp2;go_quiet (fail);go_wp2;go_roundw
    case rel=>exact⟨i+1,by omega,by go_num,HE2,Qp HB.o _⟩
    case measure=>simp[intOf];omega
   ·have q3:((x:Int) !=(y:Int))=true:=by simp;omega
    obtain rfl:d=false:=by
     rw[←HD2.o];have:s.words≠t.words:=by
      intro e;have h1:=HX.o;rw[e,HY.o] at h1;injection h1 with h1
      exact hxy h1.symm
     simpa using this
    go_wp2;go_quiet (fail);go_wp2;go_ret;exact⟨rfl,Qp (BB.o.trans (HB.o.mono BB.o.size)) _⟩
  ·obtain rfl:i=n1:=by omega
   obtain rfl:d=true:=by
    rw[←HD2.o];have h:=HE.o;rw[List.take_of_length_le (by have:=HN1.o;omega),List.take_of_length_le (by have:=HN2.o;omega)] at h
    simpa using h
   go_wp2;go_ret;exact⟨rfl,BB.o.trans (HB.o.mono BB.o.size)⟩
end
section
open Go.RowKit
variable [Base]
theorem Qik {α:Type} [DecidableEq α]{a b:List α}{k:Nat}{x y:α}(ha:a[k]? = some x)(hb:b[k]? = some y)(h:a.take k=b.take k):(a.take (k+1)=b.take (k+1))↔x=y:=by
 rw[List.take_add_one,List.take_add_one,ha,hb,h];simp
theorem Qqs (a b:List Int)(u v:Value)(w:World)(hu:QJa w u a)(hv:QJa w v b):Calls Tryz.prog 59 #[u,v] w (Qia (decide (a=b)) w):=by
 obtain⟨ua,uc,rfl,hun,-,-,huc⟩:=hu.cell;obtain⟨va,vc,rfl,hvn,-,-,hvc⟩:=hv.cell;have HU:=Zh huc;have HV:=Zh hvc;obtain⟨n,hn⟩:=Ze a.length;obtain⟨m,hm⟩:=Ze b.length;rw[hn] at hun ⊢;rw[hm] at hvn ⊢;have HN:=Zh hn;have HM:=Zh hm;obtain⟨d,hd⟩:=Ze (decide (a=b));rw[hd];have HD:=Zh hd;clear huc hvc hu hv hn hm hd;unfold maxLen at hun hvn;by_cases hnm:n=m;rotate_left
 ·have t1:((n:Int) !=(m:Int))=true:=by simp;omega
  have HF:=Zh (show d=false by
   rw[←HD.o];simp only[decide_eq_false_iff_not];rintro rfl;exact hnm (HN.o.symm.trans HM.o))
  clear hnm;go_enter Tryz.func59,Tryz.ntmps59;go_wp2;go_ret;exact⟨by rw[HF.o];rfl,Below.refl _ _⟩
 subst hnm;have t1:((n:Int) !=(n:Int))=false:=by simp
 go_enter Tryz.func59,Tryz.ntmps59;go_wp2;go_loopw [5] (fun y wr=>∃k:Nat,k≤n∧y=.int .i64 k∧Hid (Below w.heap.size w wr)∧Hid (a.take k=b.take k)) (fun y _=>n-(intOf y).toNat)
 case atStart=>exact⟨0,Nat.zero_le _,rfl,Below.refl _ _,by unfold Hid;simp⟩
 case round=>
  obtain⟨k,hk,rfl,HB,HT⟩:=hrel;by_cases hlt:k<n
  ·obtain⟨x,hx⟩:∃x,a[k]? = some x:=⟨_,List.getElem?_eq_getElem (by rw[HN.o];exact hlt)⟩;obtain⟨y,hy⟩:∃y,b[k]? = some y:=⟨_,List.getElem?_eq_getElem (by rw[HM.o];exact hlt)⟩;obtain⟨xb,xo,rfl,hxb,g0⟩:=HU.o k x hx;obtain⟨yb,yo,rfl,hyb,g1⟩:=HV.o k y hy;have g0:=(HB.o.cell (p:=⟨xb,xo+k,none⟩) hxb).trans g0;have g1:=(HB.o.cell (p:=⟨yb,yo+k,none⟩) hyb).trans g1;have HS:=Zh (Qik hx hy HT.o);have HXY:=Zh (And.intro hx hy);clear hx hy;by_cases e:x=y
   ·have t2:(x != y)=false:=by simp[e]
    have HT2:=Zh (HS.o.2 e);clear e;go_wp2;go_quiet (fail);go_wp2;go_roundw
    case rel=>exact⟨k+1,by omega,by go_num,Qp HB.o _,HT2⟩
    case measure=>simp[intOf];omega
   ·have t2:(x != y)=true:=by simp[e]
    have HF:=Zh (show d=false by
     rw[←HD.o];simp only[decide_eq_false_iff_not];rintro rfl;have:=HXY.o.1.symm.trans HXY.o.2;injection this with this
     exact e this)
    clear e;go_wp2;go_quiet (fail);go_wp2;go_ret;exact⟨by rw[HF.o];rfl,Qp HB.o _⟩
  ·obtain rfl:k=n:=by omega
   have HF:=Zh (show d=true by
    rw[←HD.o];have h:=HT.o;rw[List.take_of_length_le (by rw[HN.o];exact Nat.le_refl _),List.take_of_length_le (by rw[HM.o];exact Nat.le_refl _)] at h
    simpa using h)
   go_wp2;go_ret;exact⟨by rw[HF.o];rfl,HB.o⟩
def eqTB (a b:Qw):Bool:=Qhj a.gen b.gen&&(Qhj a.kill b.kill&&decide (a.cops=b.cops))
theorem Qdm (f g:Qw)(fu fk fc gu gk gc:Value)(w:World)(hf:Qja w fu fk fc f)(hg:Qja w gu gk gc g):Calls Tryz.prog 20 #[trV f fu fk fc,trV g gu gk gc] w (Qia (eqTB f g) w):=by
 have HF:=Zh hf;have HG:=Zh hg;obtain⟨fua,fuc,rfl,-⟩:=hf.gen.cell;obtain⟨fka,fkc,rfl,-⟩:=hf.kill.cell;obtain⟨fca,fcc,rfl,hn,-,-,hfc⟩:=hf.cops.cell;obtain⟨gua,guc,rfl,-⟩:=hg.gen.cell;obtain⟨gka,gkc,rfl,-⟩:=hg.kill.cell;obtain⟨gca,gcc,rfl,hm,-,-,hgc⟩:=hg.cops.cell;simp only[trV];obtain⟨fun',h1⟩:∃n,f.gen.words.length=n:=⟨_,rfl⟩;obtain⟨fkn,h2⟩:=Ze f.kill.words.length;obtain⟨n,h3⟩:=Ze f.cops.length;obtain⟨gun,h4⟩:=Ze g.gen.words.length;obtain⟨gkn,h5⟩:=Ze g.kill.words.length;obtain⟨m,h6⟩:=Ze g.cops.length;rw[h1,h2,h3] at HF;rw[h4,h5,h6] at HG;rw[h3] at hn;rw[h6] at hm;rw[h1,h2,h3,h4,h5,h6];have HFC:=Zh hfc;have HGC:=Zh hgc;have HN:=Zh h3;have HM:=Zh h6;obtain⟨z,hz⟩:=Ze w.heap.size;obtain⟨W,hW⟩:=Ze ((w.alloc (.cells #[iv f.gen.width,.slice fua fun' fuc,iv f.kill.width,.slice fka fkn fkc,.slice fca n fcc] FNA)).alloc (.cells #[iv g.gen.width,.slice gua gun guc,iv g.kill.width,.slice gka gkn gkc,.slice gca m gcc] FNA));have HZ:=Zh hz;have BW:=Zh (show Below z w W by rw[←hW,←hz];exact(Zb).alloc ZS _);have HCEL:=Zh (show ∀wx,Below W.heap.size W wx→(wx.heap[z]? = some (.cells #[iv f.gen.width,.slice fua fun' fuc,iv f.kill.width,.slice fka fkn fkc,.slice fca n fcc] FNA (0,0))∧wx.heap[z+1]? = some (.cells #[iv g.gen.width,.slice gua gun guc,iv g.kill.width,.slice gka gkn gkc,.slice gca m gcc] FNA (0,0))) by
  have k1:W.heap[z]? = some (.cells #[iv f.gen.width,.slice fua fun' fuc,iv f.kill.width,.slice fka fkn fkc,.slice fca n fcc] FNA (0,0)):=by rw[←hW,←hz,Below.heap_alloc _ _ _ ZS];exact heap_alloc_new _ _
  have k2:W.heap[z+1]? = some (.cells #[iv g.gen.width,.slice gua gun guc,iv g.kill.width,.slice gka gkn gkc,.slice gca m gcc] FNA (0,0)):=by rw[←hW,←hz];exact Qda _ _
  exact fun wx b=>⟨Qc k1 b (Qb k1),Qc k2 b (Qb k2)⟩)
 have hWs:W.heap.size=z+2:=by rw[←hW,←hz];simp
 have HWW:=Zh hW;obtain⟨d,hd⟩:=Ze (eqTB f g);rw[hd];obtain⟨d1,hd1⟩:=Ze (Qhj f.gen g.gen);obtain⟨d2,hd2⟩:=Ze (Qhj f.kill g.kill);have HD:=Zh (show d=(d1&&(d2&&decide (f.cops=g.cops))) by rw[←hd,←hd1,←hd2];rfl);have K1:=Zh (show ∀wx,Below z w wx→Calls Tryz.prog 75 #[.agg #[iv f.gen.width,.slice fua fun' fuc],.agg #[iv g.gen.width,.slice gua gun guc]] wx (Qia d1 wx) from fun wx b=>by
  rw[←hd1];exact Qpk f.gen g.gen _ _ wx (HF.o.gen.below (HZ.o▸b)) (HG.o.gen.below (HZ.o▸b)))
 have K2:=Zh (show ∀wx,Below z w wx→Calls Tryz.prog 75 #[.agg #[iv f.kill.width,.slice fka fkn fkc],.agg #[iv g.kill.width,.slice gka gkn gkc]] wx (Qia d2 wx) from fun wx b=>by
  rw[←hd2];exact Qpk f.kill g.kill _ _ wx (HF.o.kill.below (HZ.o▸b)) (HG.o.kill.below (HZ.o▸b)))
 clear hf hg hfc hgc h1 h2 h3 h4 h5 h6 hW hd hd1 hd2;unfold maxLen at hn hm;obtain⟨⟨x0,x1,x2,x3,x4⟩,⟨y0,y1,y2,y3,y4⟩⟩:=And.imp QJ QJ (HCEL.o W (Below.refl _ _));go_enter Tryz.func20,Tryz.ntmps20;go_upto_region 1 with(fail)
 rw[show(w.alloc (.cells #[iv f.gen.width,.slice fua fun' fuc,iv f.kill.width,.slice fka fkn fkc,.slice fca n fcc] FNA)).alloc (.cells #[iv g.gen.width,.slice gua gun guc,iv g.kill.width,.slice gka gkn gkc,.slice gca m gcc] FNA)=W from HWW.o]
 try rw[hz]
 go_wp2_with fail;refine(K1.o W BW.o).mono ?_;rintro e w1 ⟨rfl,b1⟩;have B1:=Zh b1;have BZ1:=Zh (BW.o.trans (b1.mono ZO));clear b1 x0 x1 x2 x3 x4 y0 y1 y2 y3 y4;obtain⟨⟨x0,x1,x2,x3,x4⟩,⟨y0,y1,y2,y3,y4⟩⟩:=And.imp QJ QJ (HCEL.o w1 B1.o)
 cases d1 with
|false=>
  have HF2:=Zh (show d=false by rw[HD.o];rfl);go_wp2;go_ret;exact⟨by rw[HF2.o];rfl,by rw[HZ.o];exact BZ1.o⟩
|true=>
  go_wp2_with fail;refine(K2.o w1 BZ1.o).mono ?_;rintro e w2 ⟨rfl,b2⟩;have B2:=Zh (B1.o.trans (b2.mono B1.o.size));have BZ2:=Zh (BZ1.o.trans (b2.mono (by have:=BZ1.o.size;have:=HZ.o;omega)));clear b2 x0 x1 x2 x3 x4 y0 y1 y2 y3 y4;obtain⟨⟨x0,x1,x2,x3,x4⟩,⟨y0,y1,y2,y3,y4⟩⟩:=And.imp QJ QJ (HCEL.o w2 B2.o)
  cases d2 with
 |false=>
   have HF2:=Zh (show d=false by rw[HD.o];rfl);go_wp2;go_ret;exact⟨by rw[HF2.o];rfl,by rw[HZ.o];exact BZ2.o⟩
 |true=>
   by_cases hnm:n=m;rotate_left
   ·have t1:((n:Int) !=(m:Int))=true:=by simp;omega
    have HF2:=Zh (show d=false by
     rw[HD.o];have:¬f.cops=g.cops:=fun e=>hnm (by rw[←HN.o,←HM.o,e])
     simp[this])
    clear hnm;go_wp2;go_ret;exact⟨by rw[HF2.o];rfl,by rw[HZ.o];exact BZ2.o⟩
   subst hnm;have t1:((n:Int) !=(n:Int))=false:=by simp
   have HD2:=Zh (show d=decide (f.cops=g.cops) by rw[HD.o];simp);go_wp2;clear x0 x1 x2 x3 x4 y0 y1 y2 y3 y4 t1;go_loopw [5] (fun y wr=>∃k:Nat,k≤n∧y=.int .i64 k∧Hid (Below W.heap.size W wr)∧Hid (f.cops.take k=g.cops.take k)) (fun y _=>n-(intOf y).toNat)
   case atStart=>exact⟨0,Nat.zero_le _,rfl,B2.o,by unfold Hid;simp⟩
   case round=>
    obtain⟨k,hk,rfl,HB,HT⟩:=hrel;have HBZ:=Zh (show Below z w wr from BW.o.trans (HB.o.mono ZO));obtain⟨⟨x0,x1,x2,x3,x4⟩,⟨y0,y1,y2,y3,y4⟩⟩:=And.imp QJ QJ (HCEL.o wr HB.o);by_cases hlt:k<n
    ·obtain⟨⟨p1,p2⟩,hx⟩:∃x,f.cops[k]? = some x:=⟨_,List.getElem?_eq_getElem (by rw[HN.o];exact hlt)⟩;obtain⟨⟨q1,q2⟩,hy⟩:∃y,g.cops[k]? = some y:=⟨_,List.getElem?_eq_getElem (by rw[HM.o];exact hlt)⟩;obtain⟨xb,xo,rfl,hxb,g0,g1⟩:=HFC.o k _ hx;obtain⟨yb,yo,rfl,hyb,g2,g3⟩:=HGC.o k _ hy;simp only at g0 g1 g2 g3;have hxz:xb<z:=by have:=HZ.o;omega
     have hyz:yb<z:=by have:=HZ.o;omega
     have g0:=(HBZ.o.cell (p:=⟨xb,xo+k*2,none⟩) hxz).trans g0;have g1:=(HBZ.o.cell (p:=⟨xb,xo+k*2+1,none⟩) hxz).trans g1;have g2:=(HBZ.o.cell (p:=⟨yb,yo+k*2,none⟩) hyz).trans g2;have g3:=(HBZ.o.cell (p:=⟨yb,yo+k*2+1,none⟩) hyz).trans g3;have HS:=Zh (Qik hx hy HT.o);have HXY:=Zh (And.intro hx hy);clear hx hy;by_cases e:p1=q1∧p2=q2
     ·obtain⟨rfl,rfl⟩:=e;have HT2:=Zh (HS.o.2 rfl);go_wp2;go_quiet (fail);go_wp2;go_roundw
      case rel=>exact⟨k+1,by omega,by go_num,Qp HB.o _,HT2⟩
      case measure=>simp[intOf];omega
     ·have HF2:=Zh (show d=false by
       rw[HD2.o];simp only[decide_eq_false_iff_not];intro h;have h2:=HXY.o;rw[h] at h2;have:=h2.1.symm.trans h2.2;injection this with this
       injection this with e1 e2
       exact e ⟨e1,e2⟩)
      by_cases e1:p1=q1
      ·have e2:¬p2=q2:=fun h=>e ⟨e1,h⟩
       subst e1;clear e;go_wp2;go_quiet (fail);go_wp2;go_ret;exact⟨by rw[HF2.o];rfl,by rw[HZ.o];exact Qp HBZ.o _⟩
      ·clear e;go_wp2;go_quiet (fail);go_wp2;go_ret;exact⟨by rw[HF2.o];rfl,by rw[HZ.o];exact Qp HBZ.o _⟩
    ·obtain rfl:k=n:=by omega
     have HF2:=Zh (show d=true by
      rw[HD2.o];have h:=HT.o;rw[List.take_of_length_le (by rw[HN.o];exact Nat.le_refl _),List.take_of_length_le (by rw[HM.o];exact Nat.le_refl _)] at h
      simpa using h)
     go_wp2;go_ret;exact⟨by rw[HF2.o];rfl,by rw[HZ.o];exact HBZ.o⟩
end
section
open Go.RowKit
variable [Base]
theorem Qyv (l:List Int)(v:Value)(m:Int)(w:World)(h:QJa w v l):Calls Tryz.prog 142 #[v,iv m] w (Qia (ascB m l) w):=by
 obtain⟨a,c,rfl,hn,-,-,hc⟩:=h.cell;have HC:=Zh hc;obtain⟨n,hl⟩:=Ze l.length;rw[hl] at hn ⊢;have HL:=Zh hl;clear hc h hl;unfold maxLen at hn;go_enter Tryz.func142,Tryz.ntmps142;go_wp2;go_loopw [5] (fun y wr=>∃k:Nat,k≤n∧y=.int .i64 k∧Hid (Below w.heap.size w wr)∧Hid (ascB m l=Qye m (QGe l k) (l.drop k))) (fun y _=>n-(intOf y).toNat)
 case atStart=>exact⟨0,Nat.zero_le _,rfl,Below.refl _ _,by unfold Hid ascB QGe;simp⟩
 case round=>
  obtain⟨k,hk,rfl,HB,HA⟩:=hrel;by_cases hlt:k<n
  ·obtain⟨x,hx⟩:∃x,l[k]? = some x:=⟨_,List.getElem?_eq_getElem (by rw[HL.o];exact hlt)⟩;obtain⟨xb,xo,rfl,hxb,g0⟩:=HC.o k x hx;have g0:=(HB.o.cell (p:=⟨xb,xo+k,none⟩) hxb).trans g0;have HS:=Zh (QXs (n:=m) hx);by_cases h1:0≤x
   ·have t1:decide (x<0)=false:=by simp;omega
    by_cases h2:x<m
    ·have t2:decide (x≥m)=false:=by simp;omega
     by_cases h0:k=0
     ·subst h0;have t3:decide (((0:Nat):Int) > 0)=false:=by decide
      rw[Nat.add_zero] at g0;have HA2:=Zh (show ascB m l=Qye m (QGe l (0+1)) (l.drop (0+1)) by
       rw[HA.o,HS.o];have e:QGe l 0=none:=rfl;rw[e];simp[h1,h2])
      clear hx h1 h2;go_wp2;go_quiet (fail);go_wp2;go_roundw
      case rel=>exact⟨0+1,by omega,by go_num,Qp HB.o _,HA2⟩
      case measure=>simp[intOf];omega
     ·obtain⟨j,rfl⟩:∃j,k=j+1:=⟨k-1,by omega⟩;have t3:decide ((((j+1:Nat)):Int) > 0)=true:=by rw[decide_eq_true_eq];omega
      obtain⟨y,hy⟩:∃y,l[j]? = some y:=⟨_,List.getElem?_eq_getElem (by rw[HL.o];omega)⟩;obtain⟨yb,yo,e,hyb,g1⟩:=HC.o j y hy;injection e with e
      injection e with e1 e2
      subst e1 e2;have g1:=(HB.o.cell (p:=⟨xb,xo+j,none⟩) hxb).trans g1;have e:QGe l (j+1)=some y:=by unfold QGe;rw[if_neg h0];exact hy
      by_cases h4:y<x
      ·have t4:decide (y≥x)=false:=by simp;omega
       have HA2:=Zh (show ascB m l=Qye m (QGe l (j+1+1)) (l.drop (j+1+1)) by
        rw[HA.o,HS.o,e];simp[h1,h2,h4])
       clear hx hy h0 h1 h2 h4 e;go_wp2;go_quiet (fail);go_wp2;go_roundw
       case rel=>exact⟨j+1+1,by omega,by go_num,Qp HB.o _,HA2⟩
       case measure=>simp[intOf];omega
      ·have t4:decide (y≥x)=true:=by simp;omega
       have HA2:=Zh (show ascB m l=false by
        rw[HA.o,HS.o,e];simp[h4])
       clear hx hy h0 h1 h2 h4 e;go_wp2;go_quiet (fail);go_wp2;go_ret;exact⟨by rw[HA2.o];rfl,Qp HB.o _⟩
    ·have t2:decide (x≥m)=true:=by simp;omega
     have HA2:=Zh (show ascB m l=false by rw[HA.o,HS.o];simp[h2]);clear hx h1 h2;go_wp2;go_quiet (fail);go_wp2;go_ret;exact⟨by rw[HA2.o];rfl,Qp HB.o _⟩
   ·have t1:decide (x<0)=true:=by simp;omega
    have HA2:=Zh (show ascB m l=false by rw[HA.o,HS.o];simp[h1]);clear hx h1;go_wp2;go_quiet (fail);go_wp2;go_ret;exact⟨by rw[HA2.o];rfl,Qp HB.o _⟩
  ·have HA2:=Zh (show ascB m l=true by
    rw[HA.o,List.drop_eq_nil_of_le (by rw[HL.o];omega)]
    cases QGe l k <;> rfl)
   go_wp2;go_ret;exact⟨by rw[HA2.o];rfl,HB.o⟩
theorem QEv (a b:Cp)(w:World):Calls Tryz.prog 144 #[.agg #[iv a.1,iv a.2],.agg #[iv b.1,iv b.2]] w (Qia (befC a b) w):=by
 obtain⟨a1,a2⟩:=a;obtain⟨b1,b2⟩:=b;dsimp only;have HE:befC (a1,a2) (b1,b2)=(decide (a1<b1)||(decide (a1=b1)&&decide (a2<b2))):=rfl;by_cases h1:a1<b1
 ·have t1:decide (a1<b1)=true:=by simpa using h1
  have HF:=Zh (show befC (a1,a2) (b1,b2)=true by rw[HE];simp[h1]);clear HE h1;go_enter Tryz.func144,Tryz.ntmps144;go_wp2;go_ret;exact⟨by rw[HF.o];rfl,(Zb).alloc ZS _⟩
 ·have t1:decide (a1<b1)=false:=by simpa using h1
  by_cases h2:a1=b1
  ·subst h2;have HF:=Zh (show befC (a1,a2) (a1,b2)=decide (a2<b2) by rw[HE];simp);clear HE h1;go_enter Tryz.func144,Tryz.ntmps144;go_wp2;go_ret;exact⟨by rw[HF.o];simp,(Zb).alloc ZS _⟩
  ·have t2:(a1==b1)=false:=by simpa using h2
   have HF:=Zh (show befC (a1,a2) (b1,b2)=false by rw[HE];simp[h1,h2]);clear HE h1 h2;go_enter Tryz.func144,Tryz.ntmps144;go_wp2;go_ret;exact⟨by rw[HF.o];rfl,(Zb).alloc ZS _⟩
def QRu (l:List Cp)(k:Nat):Option Cp:=if k=0 then none else l[k-1]?
theorem QCv {m:Int}{l:List Cp}{k:Nat}{c:Cp}(h:l[k]? = some c):Qnc m (QRu l k) (l.drop k)=((inC m c&&(match QRu l k with|none=>true|some q=>befC q c))&&Qnc m (QRu l (k+1)) (l.drop (k+1))):=by
 have e:l.drop k=c::l.drop (k+1):=by
  have hlt:=(List.getElem?_eq_some_iff.1 h).1;rw[List.drop_eq_getElem_cons hlt];rw[List.getElem?_eq_getElem hlt] at h;injection h with h
  rw[h]
 rw[e]
 conv=>lhs;unfold Qnc
 have e2:QRu l (k+1)=some c:=by unfold QRu;rw[if_neg ZO];simpa using h
 rw[e2]
 cases QRu l k <;> rfl
theorem Qgv (t:Qw)(gu ku cu:Value)(w:World)(h:Qja w gu ku cu t):Calls Tryz.prog 81 #[trV t gu ku cu] w (Qia (Qtd t) w):=by
 have HT:=Zh h;obtain⟨ga,gc,rfl,-,-,-,-⟩:=h.gen.cell;obtain⟨ka,kc,rfl,-,-,-,-⟩:=h.kill.cell;obtain⟨ca,cc,rfl,hcm,-,-,hcc⟩:=h.cops.cell;obtain⟨⟨gw,gl⟩,⟨kw,kl⟩,cs⟩:=t;simp only[trV];dsimp only at HT hcm hcc ⊢;obtain⟨gn,hgn⟩:=Ze gl.length;obtain⟨kn,hkn⟩:=Ze kl.length;obtain⟨n,hn⟩:=Ze cs.length;rw[hgn,hkn,hn] at HT ⊢;rw[hn] at hcm;have HCC:=Zh hcc;have HN:=Zh hn;obtain⟨W,hW⟩:=Ze (w.alloc (.cells #[iv gw,.slice ga gn gc,iv kw,.slice ka kn kc,.slice ca n cc] FNA));obtain⟨z,hz⟩:=Ze w.heap.size;have HZ:=Zh hz;have BW:=Zh (show Below z w W by rw[←hW,←hz];exact Zb);have HX:=Zh (show W.heap[z]? = some (.cells #[iv gw,.slice ga gn gc,iv kw,.slice ka kn kc,.slice ca n cc] FNA (0,0)) by rw[←hW,←hz];exact heap_alloc_new _ _);have HWW:=Zh hW;have hWs:W.heap.size=z+1:=by rw[←hW,←hz];simp
 obtain⟨d1,hd1⟩:=Ze (setB ⟨gw,gl⟩);obtain⟨d2,hd2⟩:=Ze (setB ⟨kw,kl⟩);have HE:=Zh (show Qtd ⟨⟨gw,gl⟩,⟨kw,kl⟩,cs⟩=(d1&&(d2&&(decide (gw=kw)&&(decide (n≤64)&&Qnc gw none cs)))) by unfold Qtd;rw[hd1,hd2];dsimp only;rw[hn]);have KV1:=Zh (show ∀wx,Below z w wx→Calls Tryz.prog 80 #[.agg #[iv gw,.slice ga gn gc]] wx (Qia d1 wx) from fun wx b=>by
  have:=Qpf hd1 (.slice ga gn gc) wx (HT.o.gen.below (HZ.o▸b));exact this)
 have KV2:=Zh (show ∀wx,Below z w wx→Calls Tryz.prog 80 #[.agg #[iv kw,.slice ka kn kc]] wx (Qia d2 wx) from fun wx b=>by
  have:=Qpf hd2 (.slice ka kn kc) wx (HT.o.kill.below (HZ.o▸b));exact this)
 unfold maxLen at hcm;clear h hcc hW hgn hkn hn hd1 hd2;obtain⟨x0,x1,x2,x3,x4⟩:=QJ HX.o;go_enter Tryz.func81,Tryz.ntmps81;go_upto_region 1 with(fail)
 rw[show w.alloc (.cells #[iv gw,.slice ga gn gc,iv kw,.slice ka kn kc,.slice ca n cc] FNA)=W from HWW.o]
 try rw[hz]
 go_wp2_with fail;refine(KV1.o W BW.o).mono ?_;rintro e w1 ⟨rfl,b1⟩;have B1:=Zh b1;have BZ1:=Zh (BW.o.trans (b1.mono ZO));have HX1:=Zh (Qc HX.o b1 (Qb HX.o));clear b1 x0 x1 x2 x3 x4 KV1;obtain⟨x0,x1,x2,x3,x4⟩:=QJ HX1.o
 cases d1 with
|false=>
  have HF:=Zh (show Qtd ⟨⟨gw,gl⟩,⟨kw,kl⟩,cs⟩=false by rw[HE.o];rfl);go_wp2;go_ret;exact⟨by rw[HF.o];rfl,by rw[HZ.o];exact BZ1.o⟩
|true=>
  go_wp2_with fail;refine(KV2.o w1 BZ1.o).mono ?_;rintro e w2 ⟨rfl,b2⟩;have B2:=Zh (B1.o.trans (b2.mono B1.o.size));have BZ2:=Zh (BZ1.o.trans (b2.mono (by have:=BZ1.o.size;have:=HZ.o;omega)));have HX2:=Zh (Qc HX1.o b2 (Qb HX1.o));clear b2 x0 x1 x2 x3 x4 KV2;obtain⟨x0,x1,x2,x3,x4⟩:=QJ HX2.o
  cases d2 with
 |false=>
   have HF:=Zh (show Qtd ⟨⟨gw,gl⟩,⟨kw,kl⟩,cs⟩=false by rw[HE.o];rfl);go_wp2;go_ret;exact⟨by rw[HF.o];rfl,by rw[HZ.o];exact BZ2.o⟩
 |true=>
   by_cases hk:gw=kw;rotate_left
   ·have t1:(gw != kw)=true:=by simpa using hk
    have HF:=Zh (show Qtd ⟨⟨gw,gl⟩,⟨kw,kl⟩,cs⟩=false by rw[HE.o];simp[hk]);clear hk;go_wp2;go_ret;exact⟨by rw[HF.o];rfl,by rw[HZ.o];exact BZ2.o⟩
   subst hk;have t1:(gw != gw)=false:=by simp
   by_cases hl:n≤64;rotate_left
   ·have t2:decide ((n:Int) > 64)=true:=by simp;omega
    have HF:=Zh (show Qtd ⟨⟨gw,gl⟩,⟨gw,kl⟩,cs⟩=false by rw[HE.o];simp[hl]);clear hl;go_wp2;go_ret;exact⟨by rw[HF.o];rfl,by rw[HZ.o];exact BZ2.o⟩
   have t2:decide ((n:Int) > 64)=false:=by simp;omega
   have HE2:=Zh (show Qtd ⟨⟨gw,gl⟩,⟨gw,kl⟩,cs⟩=Qnc gw none cs by rw[HE.o];simp[hl]);go_wp2;clear x0 x1 x2 x3 x4 t1 t2;go_loopw [4] (fun y wr=>∃k:Nat,k≤n∧y=.int .i64 k∧Hid (Below W.heap.size W wr)∧Hid (Qnc gw none cs=Qnc gw (QRu cs k) (cs.drop k))) (fun y _=>n-(intOf y).toNat)
   case atStart=>exact⟨0,Nat.zero_le _,rfl,B2.o,by unfold Hid QRu;simp⟩
   case round=>
    obtain⟨k,hk,rfl,HB,HA⟩:=hrel;have HBZ:=Zh (show Below z w wr from BW.o.trans (HB.o.mono ZO));have HXR:=Zh (Qc HX.o HB.o (Qb HX.o));obtain⟨x0,x1,x2,x3,x4⟩:=QJ HXR.o;by_cases hlt:k<n
    ·obtain⟨⟨p1,p2⟩,hx⟩:∃x,cs[k]? = some x:=⟨_,List.getElem?_eq_getElem (by rw[HN.o];exact hlt)⟩;obtain⟨xb,xo,rfl,hxb,g0,g1⟩:=HCC.o k _ hx;simp only at g0 g1;have hxz:xb<z:=by have:=HZ.o;omega
     have g0:=(HBZ.o.cell (p:=⟨xb,xo+k*2,none⟩) hxz).trans g0;have g1:=(HBZ.o.cell (p:=⟨xb,xo+k*2+1,none⟩) hxz).trans g1;have HS:=Zh (QCv (m:=gw) hx);obtain⟨V,hV⟩:=Ze (wr.alloc (.cells #[iv p1,iv p2] CT));obtain⟨q,hq⟩:=Ze wr.heap.size;have hzq:z<q:=by rw[←hq];exact Qb HXR.o
     have BV:=Zh (show Below wr.heap.size wr V by rw[←hV];exact Zb);have HQ:=Zh (show V.heap[q]? = some (.cells #[iv p1,iv p2] CT (0,0)) by rw[←hV,←hq];exact heap_alloc_new _ _);have HXV:=Zh (Qc HXR.o BV.o (Qb HXR.o));have HBV:=Zh (HB.o.trans (BV.o.mono HB.o.size));have HBZV:=Zh (HBZ.o.trans (BV.o.mono (by have:=HBZ.o.size;have:=HZ.o;omega)));have HVV:=Zh hV;have HXX:=Zh hx;clear hV hx;go_upto_region 8 with(fail)
     try rw[hq]
     rw[show wr.alloc (.cells #[iv p1,iv p2] CT)=V from HVV.o];clear x0 x1 x2 x3 x4 g0 g1;obtain⟨x0,x1,x2,x3,x4⟩:=QJ HXV.o;obtain⟨y0,y1⟩:=Qq HQ.o;by_cases h1:0≤p1;rotate_left
     ·have t1:decide (p1<0)=true:=by simp;omega
      have HF:=Zh (show Qnc gw none cs=false by rw[HA.o,HS.o];simp[inC,h1]);clear h1;go_wp2;go_quiet (fail);go_wp2;go_ret;exact⟨by rw[HE2.o,HF.o];rfl,by rw[HZ.o];exact Qp HBZV.o _⟩
     have t1:decide (p1<0)=false:=by simp;omega
     by_cases h2:p1<gw;rotate_left
     ·have t2:decide (p1≥gw)=true:=by simp;omega
      have HF:=Zh (show Qnc gw none cs=false by rw[HA.o,HS.o];simp[inC,h2]);clear h1 h2;go_wp2;go_quiet (fail);go_wp2;go_ret;exact⟨by rw[HE2.o,HF.o];rfl,by rw[HZ.o];exact Qp HBZV.o _⟩
     have t2:decide (p1≥gw)=false:=by simp;omega
     by_cases h3:0≤p2;rotate_left
     ·have t3:decide (p2<0)=true:=by simp;omega
      have HF:=Zh (show Qnc gw none cs=false by rw[HA.o,HS.o];simp[inC,h3]);clear h1 h2 h3;go_wp2;go_quiet (fail);go_wp2;go_ret;exact⟨by rw[HE2.o,HF.o];rfl,by rw[HZ.o];exact Qp HBZV.o _⟩
     have t3:decide (p2<0)=false:=by simp;omega
     by_cases h4:p2<gw;rotate_left
     ·have t4:decide (p2≥gw)=true:=by simp;omega
      have HF:=Zh (show Qnc gw none cs=false by rw[HA.o,HS.o];simp[inC,h4]);clear h1 h2 h3 h4;go_wp2;go_quiet (fail);go_wp2;go_ret;exact⟨by rw[HE2.o,HF.o];rfl,by rw[HZ.o];exact Qp HBZV.o _⟩
     have t4:decide (p2≥gw)=false:=by simp;omega
     have HIN:inC gw (p1,p2)=true:=by simp[inC,h1,h2,h3,h4]
     by_cases h0:k=0
     ·subst h0;have t5:decide (((0:Nat):Int) > 0)=false:=by decide
      have HA2:=Zh (show Qnc gw none cs=Qnc gw (QRu cs (0+1)) (cs.drop (0+1)) by
       rw[HA.o,HS.o,HIN];have e:QRu cs 0=none:=rfl;rw[e];simp)
      clear h1 h2 h3 h4 HIN;go_wp2;go_quiet (fail);go_wp2;go_roundw
      case rel=>exact⟨0+1,by omega,by go_num,Qp HBV.o _,HA2⟩
      case measure=>simp[intOf];omega
     ·obtain⟨j,rfl⟩:∃j,k=j+1:=⟨k-1,by omega⟩;have t5:decide ((((j+1:Nat)):Int) > 0)=true:=by rw[decide_eq_true_eq];omega
      obtain⟨⟨r1,r2⟩,hy⟩:∃y,cs[j]? = some y:=⟨_,List.getElem?_eq_getElem (by rw[HN.o];omega)⟩;obtain⟨yb,yo,e,hyb,g0,g1⟩:=HCC.o j _ hy;injection e with e
      injection e with e1 e2
      subst e1 e2;simp only at g0 g1;have g0:=(HBZV.o.cell (p:=⟨xb,xo+j*2,none⟩) hxz).trans g0;have g1:=(HBZV.o.cell (p:=⟨xb,xo+j*2+1,none⟩) hxz).trans g1;have e:QRu cs (j+1)=some (r1,r2):=by unfold QRu;rw[if_neg h0];exact hy
      have KB:=Zh (show ∀wx,Calls Tryz.prog 144 #[.agg #[iv r1,iv r2],.agg #[iv p1,iv p2]] wx (Qia (befC (r1,r2) (p1,p2)) wx) from fun wx=>QEv (r1,r2) (p1,p2) wx);obtain⟨d,hd⟩:=Ze (befC (r1,r2) (p1,p2));rw[hd] at KB;have HA2:=Zh (show Qnc gw none cs=(d&&Qnc gw (QRu cs (j+1+1)) (cs.drop (j+1+1))) by
       rw[HA.o,HS.o,HIN,e];simp[hd])
      have HSS:=Zh (show ∀wx,Below V.heap.size V wx→(wx.cell? ⟨z,4,none⟩=some (.slice (some ⟨xb,xo,none⟩) n cc)∧wx.cell? ⟨q,0,none⟩=some (iv p1)∧wx.cell? ⟨q,1,none⟩=some (iv p2)∧wx.cell? ⟨xb,xo+j*2,none⟩=some (iv r1)∧wx.cell? ⟨xb,xo+j*2+1,none⟩=some (iv r2)) from fun wx b=>
       ⟨(b.cell (p:=⟨z,4,none⟩) (Qb HXV.o)).trans x4,(b.cell (p:=⟨q,0,none⟩) (Qb HQ.o)).trans y0,(b.cell (p:=⟨q,1,none⟩) (Qb HQ.o)).trans y1,(b.cell (p:=⟨xb,xo+j*2,none⟩) (by show xb<_;have:=Qb HXV.o;omega)).trans g0,(b.cell (p:=⟨xb,xo+j*2+1,none⟩) (by show xb<_;have:=Qb HXV.o;omega)).trans g1⟩)
      have hjn:j<n:=by omega
      clear h1 h2 h3 h4 HIN hy e hd h0;have s1:IntKind.i64.wrap ((((j+1:Nat)):Int)-1)=(j:Int):=by rw[show((((j+1:Nat)):Int)-1)=(j:Int) by omega];exact IntWalk.i64_in _ ZO
      have s2:IntKind.i64.wrap ((j:Int)+1-1)=(j:Int):=by rw[show((j:Int)+1-1)=(j:Int) by omega];exact IntWalk.i64_in _ ZO
      have s3:IntKind.i64.wrap (j:Int)=(j:Int):=IntWalk.i64_in _ ZO;have s4:(0:Int)≤(j:Int):=by omega
      have s5:(j:Int)<(n:Int):=by omega
      have F0:=Zh (show Below V.heap.size V V.drew from(Below.refl _ _).drew);go_wp2_with fail;go_region_held3 (fun wx=>wx.cell? ⟨z,4,none⟩=some (.slice (some ⟨xb,xo,none⟩) n cc)∧wx.cell? ⟨q,0,none⟩=some (iv p1)∧wx.cell? ⟨q,1,none⟩=some (iv p2)∧wx.cell? ⟨xb,xo+j*2,none⟩=some (iv r1)∧wx.cell? ⟨xb,xo+j*2+1,none⟩=some (iv r2)) (first|exact HSS.o _ F1.o|exact HSS.o _ F0.o|exact HSS.o _ (Below.refl _ _)|go_keep) (first|(go_at_call 144;((with_reducible refine(KB.o V.drew).mono ?_));go_must (rintro e z1 ⟨rfl,b⟩;have F1:=Zh (F0.o.trans (b.mono F0.o.size));clear b)))
      cases d with
     |false=>
       have HF:=Zh (show Qnc gw none cs=false by rw[HA2.o];rfl);go_wp2;go_ret;exact⟨by rw[HE2.o,HF.o];rfl,by rw[HZ.o];exact HBZV.o.trans (F1.o.mono (by have:=HBZV.o.size;have:=HZ.o;omega))⟩
     |true=>
       have HA3:=Zh (show Qnc gw none cs=Qnc gw (QRu cs (j+1+1)) (cs.drop (j+1+1)) by rw[HA2.o];rfl);go_wp2;go_roundw
       case rel=>exact⟨j+1+1,by omega,by go_num,HBV.o.trans (F1.o.mono HBV.o.size),HA3⟩
       case measure=>simp[intOf];omega
    ·have HF:=Zh (show Qnc gw none cs=true by
      rw[HA.o,List.drop_eq_nil_of_le (by rw[HN.o];omega)]
      cases QRu cs k <;> rfl)
     go_wp2;go_ret;exact⟨by rw[HE2.o,HF.o];rfl,by rw[HZ.o];exact HBZ.o⟩
end
section
open Go.RowKit
variable [Base]
theorem Qfv {α:Type}{l:List α}{p:α→Bool}{k:Nat}{x:α}(h:l[k]? = some x)(hx:p x=false):l.all p=false:=by
 rw[List.all_eq_false];exact⟨x,List.mem_of_getElem? h,by simp[hx]⟩
theorem QTu {α:Type}{l:List α}{p:α→Bool}{k:Nat}{x:α}(h:l[k]? = some x):(l.take (k+1)).all p=((l.take k).all p&&p x):=by
 rw[List.take_add_one,h,List.all_append];simp
theorem Quv (s:SysS)(dv tv bv:Value)(w:World)(h:QKd w dv tv bv s)(hv:sysB s=true):Calls Tryz.prog 76 #[sysV s dv tv bv] w (Qia true w):=by
 have HS:=Zh h;have HV:=Zh hv;clear hv;obtain⟨da,dc,rfl,hdm,-,-,hdc⟩:=h.deps.cell;obtain⟨ta,tc,rfl,htm,-,-,htc⟩:=h.trans.cell;obtain⟨ba,bc,rfl,hbm,-,-,hbc⟩:=h.bnds.cell;obtain⟨dn,hdn⟩:=Ze s.deps.length;obtain⟨tn,htn⟩:=Ze s.trans.length;obtain⟨bn,hbn⟩:=Ze s.bnds.length;rw[hdn,htn,hbn] at HS;rw[hdn] at hdm;rw[htn] at htm;rw[hbn] at hbm;simp only[sysV,hdn,htn,hbn];obtain⟨sw,hsw⟩:=Ze s.width;rw[hsw];have HSB:=Zh (show sysB s=(QLd sw dn&&((decide (tn=dn)&&decide (bn=dn))&&((s.deps.all (ascB dn)&&decide (totI s.deps≤1024))&&(s.bnds.all (QPc sw)&&s.trans.all (Qrc sw))))) by unfold sysB;rw[hsw,hdn,htn,hbn];rfl);obtain⟨W,hW⟩:=Ze (w.alloc (.cells #[iv sw,.slice da dn dc,.slice ta tn tc,.slice ba bn bc] SYT));obtain⟨z,hz⟩:=Ze w.heap.size;have HZ:=Zh hz;have BW:=Zh (show Below z w W by rw[←hW,←hz];exact Zb);have HX:=Zh (show W.heap[z]? = some (.cells #[iv sw,.slice da dn dc,.slice ta tn tc,.slice ba bn bc] SYT (0,0)) by rw[←hW,←hz];exact heap_alloc_new _ _);have HWW:=Zh hW;have hWs:W.heap.size=z+1:=by rw[←hW,←hz];simp
 have HDC:=Zh hdc;have HTC:=Zh htc;have HBC:=Zh hbc;have HDN:=Zh hdn;have HTN:=Zh htn;have HBN:=Zh hbn;unfold maxLen at hdm htm hbm;clear h hdc htc hbc hdn htn hbn hsw hW;obtain⟨x0,x1,x2,x3⟩:=Qt HX.o;go_enter Tryz.func76,Tryz.ntmps76;go_upto_region 1 with(fail)
 rw[show w.alloc (.cells #[iv sw,.slice da dn dc,.slice ta tn tc,.slice ba bn bc] SYT)=W from HWW.o]
 try rw[hz]
 have HT0:=HV.o;rw[HSB.o] at HT0;unfold QLd at HT0;simp only[Bool.and_eq_true,decide_eq_true_eq] at HT0;obtain⟨h_t,h_g⟩:=HT0.2.1;have h_a:0≤sw:=HT0.1.1.1;have h_b:sw≤256:=HT0.1.1.2;have h_e:dn=bn:=h_g.symm;have h_f:tn=bn:=h_t.trans h_e;have h_c:1≤bn:=by omega
 have h_d:bn≤256:=by omega
 clear HT0 h_g h_t;have t_a:decide (sw<0)=false:=by simp;omega
 have t_b:decide (sw > 256)=false:=by simp;omega
 have t_c:decide ((bn:Int)<1)=false:=by simp;omega
 have t_d:decide ((bn:Int) > 256)=false:=by simp;omega
 have t_e:((dn:Int) !=(bn:Int))=false:=by simp;omega
 have t_f:((tn:Int) !=(bn:Int))=false:=by simp;omega
 have HSB2:=Zh (show sysB s=((s.deps.all (ascB bn)&&decide (totI s.deps≤1024))&&(s.bnds.all (QPc sw)&&s.trans.all (Qrc sw))) by
  rw[HSB.o];unfold QLd;rw[h_e,h_f];simp only[h_a,h_b,decide_true,Bool.true_and];rw[show(decide (1≤(bn:Int))&&decide ((bn:Int)≤256))=true by simp;omega,Bool.true_and])
 have HEQ:=Zh (And.intro h_e h_f);clear HSB h_e h_f;go_wp2;clear x0 x1 x2 x3 t_a t_b t_c t_d t_e t_f;go_loopw [4,5] (fun y4 y wr=>∃(k:Nat) (E:Int),k≤bn∧y=.int .i64 k∧y4=.int .i64 E∧0≤E∧E≤bn*(k:Int)∧Hid (totI (s.deps.take k)=E)∧Hid (Below W.heap.size W wr)∧Hid ((s.deps.take k).all (ascB bn)=true∧(s.bnds.take k).all (QPc sw)=true∧(s.trans.take k).all (Qrc sw)=true)) (fun _ y _=>bn-(intOf y).toNat)
 case atStart=>exact⟨0,0,Nat.zero_le _,rfl,rfl,by omega,by simp,rfl,Below.refl _ _,by unfold Hid;simp⟩
 case round=>
  obtain⟨k,E,hk,rfl,rfl,hE0,hE1,HE,HB,HA⟩:=hrel;have HBZ:=Zh (show Below z w wr from BW.o.trans (HB.o.mono ZO));have hzs:z≤wr.heap.size:=by have:=HBZ.o.size;have:=HZ.o;omega
  have HXR:=Zh (Qc HX.o HB.o (Qb HX.o));by_cases hlt:k<bn
  ·have hkd:k<dn:=by rw[HEQ.o.1];exact hlt
   have hkt:k<tn:=by rw[HEQ.o.2];exact hlt
   obtain⟨l,hl⟩:∃l,s.deps[k]? = some l:=⟨_,List.getElem?_eq_getElem (by rw[HDN.o,HEQ.o.1];exact hlt)⟩;obtain⟨t,htk⟩:∃t,s.trans[k]? = some t:=⟨_,List.getElem?_eq_getElem (by rw[HTN.o,HEQ.o.2];exact hlt)⟩;obtain⟨b,hbk⟩:∃b,s.bnds[k]? = some b:=⟨_,List.getElem?_eq_getElem (by rw[HBN.o];exact hlt)⟩;obtain⟨d1b,d1o,cs1,rfl,hd1b,⟨lu,rfl,hlu⟩,hcs1⟩:=HDC.o k l hl;obtain⟨d2b,d2o,cs2,rfl,hd2b,⟨gu,ku,cu,rfl,htu⟩,hcs2⟩:=HTC.o k t htk;obtain⟨d3b,d3o,cs3,rfl,hd3b,⟨bu,rfl,hbu⟩,hcs3⟩:=HBC.o k b hbk;obtain⟨ua,uc,rfl,hum,-⟩:=hlu.cell;obtain⟨un,hun⟩:=Ze l.length;obtain⟨ga,gc,rfl,-⟩:=htu.gen.cell;obtain⟨ka,kc,rfl,-⟩:=htu.kill.cell;obtain⟨ca,cc,rfl,-⟩:=htu.cops.cell;obtain⟨wa,wc,rfl,-⟩:=hbu.cell;obtain⟨gn,hgn⟩:=Ze t.gen.words.length;obtain⟨kn,hkn⟩:=Ze t.kill.words.length;obtain⟨cn,hcn⟩:=Ze t.cops.length;obtain⟨wn,hwn⟩:=Ze b.words.length;obtain⟨gw,hgw⟩:=Ze t.gen.width;obtain⟨kw,hkw⟩:=Ze t.kill.width;obtain⟨bw,hbw⟩:=Ze b.width;simp only[Qqc] at hcs1;simp only[trEl] at hcs2;simp only[Qsa] at hcs3;rw[hun] at hcs1 hum hlu;rw[hgn,hkn,hcn] at hcs2 htu;rw[hgw,hkw] at hcs2;rw[hwn] at hcs3 hbu;rw[hbw] at hcs3;have c1:=hcs1 0 ZD;have a0:=hcs2 0 ZD;have a1:=hcs2 1 ZD;have a2:=hcs2 2 ZD;have a3:=hcs2 3 ZD;have a4:=hcs2 4 ZD;have e0:=hcs3 0 ZD;have e1:=hcs3 1 ZD;simp only[Nat.add_zero,Nat.mul_one,List.getElem?_cons_zero,List.getElem?_cons_succ] at c1 a0 a1 a2 a3 a4 e0 e1;have HCELL:=Zh (show ∀wx,Below z w wx→wx.heap[z]? = some (.cells #[iv sw,.slice (some ⟨d1b,d1o,none⟩) dn dc,.slice (some ⟨d2b,d2o,none⟩) tn tc,.slice (some ⟨d3b,d3o,none⟩) bn bc] SYT (0,0))→(wx.cell? ⟨z,0,none⟩=some (iv sw)∧wx.cell? ⟨z,1,none⟩=some (.slice (some ⟨d1b,d1o,none⟩) dn dc)∧wx.cell? ⟨z,2,none⟩=some (.slice (some ⟨d2b,d2o,none⟩) tn tc)∧wx.cell? ⟨z,3,none⟩=some (.slice (some ⟨d3b,d3o,none⟩) bn bc)∧wx.cell? ⟨d1b,d1o+k,none⟩=some (.slice ua un uc)∧wx.cell? ⟨d2b,d2o+k*5,none⟩=some (iv gw)∧wx.cell? ⟨d2b,d2o+k*5+1,none⟩=some (.slice ga gn gc)∧wx.cell? ⟨d2b,d2o+k*5+2,none⟩=some (iv kw)∧wx.cell? ⟨d2b,d2o+k*5+3,none⟩=some (.slice ka kn kc)∧wx.cell? ⟨d2b,d2o+k*5+4,none⟩=some (.slice ca cn cc)∧wx.cell? ⟨d3b,d3o+k*2,none⟩=some (iv bw)∧wx.cell? ⟨d3b,d3o+k*2+1,none⟩=some (.slice wa wn wc)) from fun wx b hx=>by
    obtain⟨x0,x1,x2,x3⟩:=Qt hx;exact⟨x0,x1,x2,x3,(b.cell (p:=⟨d1b,d1o+k,none⟩) (by show d1b<z;rw[←HZ.o];exact hd1b)).trans c1,(b.cell (p:=⟨d2b,d2o+k*5,none⟩) (by show d2b<z;rw[←HZ.o];exact hd2b)).trans a0,(b.cell (p:=⟨d2b,d2o+k*5+1,none⟩) (by show d2b<z;rw[←HZ.o];exact hd2b)).trans a1,(b.cell (p:=⟨d2b,d2o+k*5+2,none⟩) (by show d2b<z;rw[←HZ.o];exact hd2b)).trans a2,(b.cell (p:=⟨d2b,d2o+k*5+3,none⟩) (by show d2b<z;rw[←HZ.o];exact hd2b)).trans a3,(b.cell (p:=⟨d2b,d2o+k*5+4,none⟩) (by show d2b<z;rw[←HZ.o];exact hd2b)).trans a4,(b.cell (p:=⟨d3b,d3o+k*2,none⟩) (by show d3b<z;rw[←HZ.o];exact hd3b)).trans e0,(b.cell (p:=⟨d3b,d3o+k*2+1,none⟩) (by show d3b<z;rw[←HZ.o];exact hd3b)).trans e1⟩)
   have HSS:=Zh (show ∀wx,Below wr.heap.size wr wx→(wx.cell? ⟨z,0,none⟩=some (iv sw)∧wx.cell? ⟨z,1,none⟩=some (.slice (some ⟨d1b,d1o,none⟩) dn dc)∧wx.cell? ⟨z,2,none⟩=some (.slice (some ⟨d2b,d2o,none⟩) tn tc)∧wx.cell? ⟨z,3,none⟩=some (.slice (some ⟨d3b,d3o,none⟩) bn bc)∧wx.cell? ⟨d1b,d1o+k,none⟩=some (.slice ua un uc)∧wx.cell? ⟨d2b,d2o+k*5,none⟩=some (iv gw)∧wx.cell? ⟨d2b,d2o+k*5+1,none⟩=some (.slice ga gn gc)∧wx.cell? ⟨d2b,d2o+k*5+2,none⟩=some (iv kw)∧wx.cell? ⟨d2b,d2o+k*5+3,none⟩=some (.slice ka kn kc)∧wx.cell? ⟨d2b,d2o+k*5+4,none⟩=some (.slice ca cn cc)∧wx.cell? ⟨d3b,d3o+k*2,none⟩=some (iv bw)∧wx.cell? ⟨d3b,d3o+k*2+1,none⟩=some (.slice wa wn wc)) from fun wx b=>HCELL.o wx (HBZ.o.trans (b.mono hzs)) (Qc HXR.o b (Qb HXR.o)));obtain⟨p1,hp1⟩:=Ze (ascB bn l);obtain⟨p2,hp2⟩:=Ze (Qtd t);obtain⟨p3,hp3⟩:=Ze (setB b);have KR:=Zh (show ∀wx,Below wr.heap.size wr wx→Calls Tryz.prog 142 #[.slice ua un uc,.int .i64 (bn:Int)] wx (Qia p1 wx) from fun wx b=>by
    rw[←hp1];exact Qyv l (.slice ua un uc) bn wx (Qg.same hlu (Qf.below (HZ.o▸HBZ.o.trans (b.mono hzs)))))
   have KT:=Zh (show ∀wx,Below wr.heap.size wr wx→Calls Tryz.prog 81 #[.agg #[iv gw,.slice ga gn gc,iv kw,.slice ka kn kc,.slice ca cn cc]] wx (Qia p2 wx) from fun wx b=>by
    have:=Qgv t (.slice ga gn gc) (.slice ka kn kc) (.slice ca cn cc) wx (htu.below (HZ.o▸HBZ.o.trans (b.mono hzs)));rw[hp2] at this;simp only[trV,hgw,hkw] at this;exact this)
   have KB:=Zh (show ∀wx,Below wr.heap.size wr wx→Calls Tryz.prog 80 #[.agg #[iv bw,.slice wa wn wc]] wx (Qia p3 wx) from fun wx b=>by
    have:=Qpf hp3 (.slice wa wn wc) wx (hbu.below (HZ.o▸HBZ.o.trans (b.mono hzs)));simp only[setV,hbw] at this;exact this)
   have HF1:=Zh (show p1=false→sysB s=false from fun e=>by rw[HSB2.o,Qfv hl (hp1.trans e)];rfl);have HF2:=Zh (show p2=false∨gw≠sw→sysB s=false from fun e=>by
    rw[HSB2.o,Qfv (p:=Qrc sw) htk (by unfold Qrc;rw[hp2,hgw];rcases e with e|e <;> simp[e])];simp)
   have HF3:=Zh (show p3=false∨bw≠sw→sysB s=false from fun e=>by
    rw[HSB2.o,Qfv (p:=QPc sw) hbk (by unfold QPc;rw[hp3,hbw];rcases e with e|e <;> simp[e])];simp)
   have HT:=Zh (Qgk hl);have HOK:=Zh (show p1=true→p2=true→p3=true→gw=sw→bw=sw→((s.deps.take (k+1)).all (ascB bn)=true∧(s.bnds.take (k+1)).all (QPc sw)=true∧(s.trans.take (k+1)).all (Qrc sw)=true) from fun q1 q2 q3 q4 q5=>by
    obtain⟨i1,i2,i3⟩:=HA.o;refine⟨by rw[QTu hl,i1,hp1,q1];rfl,by rw[QTu hbk,i2];unfold QPc;rw[hp3,q3,hbw,q5];simp,by rw[QTu htk,i3];unfold Qrc;rw[hp2,q2,hgw,q4];simp⟩)
   have HUN:=Zh (show p1=true→un≤bn from fun e=>by rw[←hun];exact QYp (hp1.trans e));rw[hun] at HT;clear hl htk hbk hcs1 hcs2 hcs3 hlu htu hbu hun hgn hkn hcn hwn hgw hkw hbw hp1 hp2 hp3 c1 a0 a1 a2 a3 a4 e0 e1 HS HCELL;have F0:=Zh (show Below wr.heap.size wr wr.drew from(Below.refl _ _).drew);obtain rfl:p1=true:=by
    cases p1 with
   |true=>rfl
   |false=>exact absurd (HV.o.symm.trans (HF1.o rfl)) ZD
   obtain rfl:p2=true:=by
    cases p2 with
   |true=>rfl
   |false=>exact absurd (HV.o.symm.trans (HF2.o (.inl rfl))) ZD
   obtain rfl:p3=true:=by
    cases p3 with
   |true=>rfl
   |false=>exact absurd (HV.o.symm.trans (HF3.o (.inl rfl))) ZD
   have q1:gw=sw:=Classical.byContradiction fun e=>absurd (HV.o.symm.trans (HF2.o (.inr e))) ZD
   have q2:bw=sw:=Classical.byContradiction fun e=>absurd (HV.o.symm.trans (HF3.o (.inr e))) ZD
   subst q1;subst q2;have t1:(bw != bw)=false:=by simp
   have HA2:=Zh (HOK.o rfl rfl rfl rfl rfl);have hun:un≤bn:=HUN.o rfl;have hEk:(bn:Int)*((k+1:Nat):Int)=bn*(k:Int)+bn:=by push_cast;rw[Int.mul_add,Int.mul_one]
   have hbk:(bn:Int)*(k:Int)≤256*256:=Int.mul_le_mul ZO ZO ZO ZO;have hw:IntKind.i64.wrap (E+(un:Int))=E+(un:Int):=IntWalk.i64_in _ ZO;have HE2:=Zh (show totI (s.deps.take (k+1))=E+(un:Int) by rw[HT.o,HE.o]);have hE3:E+(un:Int)≤bn*((k+1:Nat):Int):=by rw[hEk];omega
   have hE4:0≤E+(un:Int):=by omega
   clear hEk hbk;go_wp2_with fail;go_region_held3 (fun wx=>wx.cell? ⟨z,0,none⟩=some (iv bw)∧wx.cell? ⟨z,1,none⟩=some (.slice (some ⟨d1b,d1o,none⟩) dn dc)∧wx.cell? ⟨z,2,none⟩=some (.slice (some ⟨d2b,d2o,none⟩) tn tc)∧wx.cell? ⟨z,3,none⟩=some (.slice (some ⟨d3b,d3o,none⟩) bn bc)∧wx.cell? ⟨d1b,d1o+k,none⟩=some (.slice ua un uc)∧wx.cell? ⟨d2b,d2o+k*5,none⟩=some (iv bw)∧wx.cell? ⟨d2b,d2o+k*5+1,none⟩=some (.slice ga gn gc)∧wx.cell? ⟨d2b,d2o+k*5+2,none⟩=some (iv kw)∧wx.cell? ⟨d2b,d2o+k*5+3,none⟩=some (.slice ka kn kc)∧wx.cell? ⟨d2b,d2o+k*5+4,none⟩=some (.slice ca cn cc)∧wx.cell? ⟨d3b,d3o+k*2,none⟩=some (iv bw)∧wx.cell? ⟨d3b,d3o+k*2+1,none⟩=some (.slice wa wn wc)) (first|exact HSS.o _ F3.o|exact HSS.o _ F2.o|exact HSS.o _ F1.o|exact HSS.o _ F0.o|exact HSS.o _ (Below.refl _ _)|go_keep) (first|(go_at_call 142;((with_reducible refine(KR.o wr.drew F0.o).mono ?_));go_must (rintro e z1 ⟨rfl,b⟩;have F1:=Zh (F0.o.trans (b.mono F0.o.size));clear b))|(go_at_call 81;((with_reducible refine(KT.o z1 F1.o).mono ?_));go_must (rintro e z2 ⟨rfl,b⟩;have F2:=Zh (F1.o.trans (b.mono F1.o.size));clear b))|(go_at_call 80;((with_reducible refine(KB.o z2 F2.o).mono ?_));go_must (rintro e z3 ⟨rfl,b⟩;have F3:=Zh (F2.o.trans (b.mono F2.o.size));clear b)));have HB3:=Zh (HB.o.trans (F3.o.mono HB.o.size));have HS3:=HSS.o _ F3.o;obtain⟨x0,x1,x2,x3,y0,-⟩:=HS3;go_wp2;go_roundw
   case rel=>exact⟨k+1,E+(un:Int),by omega,by go_num,by go_num,hE4,hE3,HE2,HB3,HA2⟩
   case measure=>simp[intOf];omega
  ·obtain rfl:k=bn:=by omega
   have HF:=Zh (show true=decide (E≤1024) by
    rw[←HV.o];obtain⟨i1,i2,i3⟩:=HA.o;have i4:=HE.o;rw[List.take_of_length_le (by rw[HDN.o,HEQ.o.1];exact Nat.le_refl _)] at i1 i4;rw[List.take_of_length_le (by rw[HBN.o];exact Nat.le_refl _)] at i2;rw[List.take_of_length_le (by rw[HTN.o,HEQ.o.2];exact Nat.le_refl _)] at i3;rw[HSB2.o,i1,i2,i3,i4];simp)
   go_wp2;go_ret;exact⟨by rw[HF.o];rfl,by rw[HZ.o];exact HBZ.o⟩
end
section
open Go.RowKit
variable [Base]
abbrev ART:TypeId:=70
abbrev ARS:TypeId:=67
abbrev WBT:TypeId:=63
def QKu:Qlg (Int×Qw) where
 T:=ART
 sz:=6
 pos:=by omega
 C:=fun w cs a=>∃gu ku cu,cs=[iv a.1,iv a.2.gen.width,gu,iv a.2.kill.width,ku,cu]∧Qja w gu ku cu a.2
 inner:=[139,CT]
 len:=fun {w cs x} h=>by obtain⟨gu,ku,cu,rfl,-⟩:=h;rfl
 keep:=fun {w w' cs x} hs h=>by
  obtain⟨gu,ku,cu,rfl,h⟩:=h
  exact⟨gu,ku,cu,rfl,h.keep (hs _ ZS) (hs _ ZS)⟩
def QWu:Qlg (List (Int×Qw)) where
 T:=ARS
 sz:=1
 pos:=by omega
 C:=fun w cs l=>∃u,cs=[u]∧Qoa QKu w u l
 inner:=[ART,139,CT]
 len:=fun {w cs x} h=>by obtain⟨u,rfl,-⟩:=h;rfl
 keep:=fun {w w' cs x} hs h=>by
  obtain⟨u,rfl,h⟩:=h
  exact⟨u,rfl,h.keep fun U hU=>hs U (by simpa [QKu] using hU)⟩
structure QUu (w:World)(bv av:Value)(s:WebS):Prop where
 bnds:Qoa Qsa w bv s.bnds
 arcs:Qoa QWu w av s.arcs
theorem QUu.below {w w':World}{bv av:Value}{s:WebS}(h:QUu w bv av s)(b:Below w.heap.size w w'):QUu w' bv av s:=⟨h.bnds.below b,h.arcs.below b⟩
abbrev webV (s:WebS)(bv av:Value):Value:=.agg #[iv s.width,bv,av]
abbrev arcV (a:Int×Qw)(gu ku cu:Value):Value:=.agg #[iv a.1,iv a.2.gen.width,gu,iv a.2.kill.width,ku,cu]
theorem Qqv {b:Nat}{w:World}{v0 v1 v2 v3 v4 v5:Value}{t:TypeId}(h:w.heap[b]? = some (.cells #[v0,v1,v2,v3,v4,v5] t (0,0))):
  w.cell? ⟨b,0,none⟩=some v0∧w.cell? ⟨b,1,none⟩=some v1∧w.cell? ⟨b,2,none⟩=some v2∧w.cell? ⟨b,3,none⟩=some v3∧w.cell? ⟨b,4,none⟩=some v4∧w.cell? ⟨b,5,none⟩=some v5:=by
 simp[World.cell?,h]
end
section
open Go.RowKit
variable [Base]
def Qdt (B bt:Nat)(m:Nat)(w:World)(e:Ending)(w':World):Prop:=
 ∃s u,e=.returned (setV s u)∧QUb s∧s.width=(m:Int)∧setB s=true∧Qi w' u s.words∧QZ B w' bt∧But bt w w'
structure QJf (B bt r c m:Nat)(w wr:World)(s:QSet)(u:Value):Prop where
 tape:QZ B wr bt
 but:But bt w wr
 res:wr.heap[r]? = some (.cells #[.int .i64 0,.slice none 0 0] 52 (0,0))
 cur:wr.heap[c]? = some (.cells #[.int .i64 (m:Int),u] 52 (0,0))
 form:QUb s
 width:s.width=(m:Int)
 words:Qi wr u s.words
 ok:setB s=true
 old:w.heap.size≤r∧w.heap.size≤c∧r≠c∧bt<w.heap.size
theorem QJf.next {B bt r c m:Nat}{w wr w2:World}{s:QSet}{u:Value}(h:QJf B bt r c m w wr s u)(ht:QZ B w2 bt)(hb:But bt wr w2):QJf B bt r c m w w2 s u:=by
 obtain⟨o1,o2,o3,o4⟩:=h.old;exact⟨ht,h.but.trans hb,(hb.block r (Qb h.res) ZO).trans h.res,(hb.block c (Qb h.cur) ZO).trans h.cur,h.form,h.width,h.words.keep (hb.sameT h.tape ZD),h.ok,h.old⟩
theorem QJf.put {B bt r c m b:Nat}{w wr w3:World}{s:QSet}{u u2:Value}(h:QJf B bt r c m w wr s u)(ho:OwnS wr.heap.size w3 u2 (putS s b))(hb:Below wr.heap.size wr w3)(hbm:b<m):
  QJf B bt r c m w ((w3.setCell ⟨c,0,none⟩ (.int .i64 (m:Int))).setCell ⟨c,1,none⟩ u2) (putS s b) u2:=by
 obtain⟨o1,o2,o3,o4⟩:=h.old;have hc:=(hb.block c (Qb h.cur)).trans h.cur;have hr:=(hb.block r (Qb h.res)).trans h.res;have hbs:=h.tape.bs;have hty:tyAt w3 c=some 52:=Qv hc;have hbt:=h.tape.below hb;refine⟨(hbt.setCell (by show c≠bt;omega) (by show B≤c;have:=h.tape.ge;omega) _).setCell (by show c≠bt;omega) (by show B≤c;have:=h.tape.ge;omega) _,
  ((h.but.below hb).setCell ⟨c,0,none⟩ (.inr o2) _).setCell ⟨c,1,none⟩ (.inr o2) _,?_,?_,Qnd h.form b,h.width,?_,QPr h.ok h.words.2 (by rw[h.width];omega),h.old⟩
 ·rw[Below.heap_setCell _ _ _ _ (by show r≠c;omega),Below.heap_setCell _ _ _ _ (by show r≠c;omega)];exact hr
 ·simp[World.setCell,Array.getElem?_modify,hc]
 ·exact ho.words.keep (Qf.trans (Qf.setCell (U:=52) hty ZD) (Qf.setCell (U:=52) ((QS c).trans hty) ZD))
theorem Qfb {B bt:Nat}(m:Nat)(hm:m≤256)(w:World)(ht:QZ B w bt):Calls Tryz.prog 34 #[.pointer (some ⟨bt,0,none⟩),.int .i64 m] w (Qdt B bt m w):=by
 have hlt:=ht.lt;have HT:=Zh ht;clear ht;go_enter Tryz.func34,Tryz.ntmps34;go_wp2_with fail;refine(Qjc m hm _).mono ?_;rintro e v ⟨u,rfl,ho,b1⟩;obtain⟨ua,un,uc,rfl⟩:=ho.words.shape;have I0:Hid (QJf B bt w.heap.size v.heap.size m w (v.alloc (.cells #[.int .i64 (m:Int),.slice ua un uc] 52)) (Qy m) (.slice ua un uc)):=by
  have h1:=(Qc (heap_alloc_new w (.cells #[.int .i64 0,.slice none 0 0] 52)) b1 ZS);have hs:=b1.size;simp only[World.size_alloc] at hs;exact⟨((HT.o.alloc _).below b1).alloc _,(((But.refl bt w).alloc _).below b1).alloc _,Qz _ h1,heap_alloc_new _ _,QZb hm,rfl,ho.words.keep Qf.alloc,QUm hm,by omega,by omega,by omega,hlt⟩
 obtain⟨V,hV⟩:=Ze (v.alloc (.cells #[.int .i64 (m:Int),.slice ua un uc] 52));rw[hV] at I0;have HV:=Zh hV;rw[show setV (Qy m) (.slice ua un uc)=.agg #[.int .i64 (m:Int),.slice ua un uc] from rfl];clear ho b1 hV;go_wp2_with fail;rw[show v.alloc (.cells #[.int .i64 (m:Int),.slice ua un uc] 52)=V from HV.o];go_loopw [6] (fun y wr=>∃i:Nat,i≤m∧y=.int .i64 i∧Hid (∃s u,QJf B bt w.heap.size v.heap.size m w wr s u)) (fun y _=>m-(intOf y).toNat)
 case atStart=>exact⟨0,Nat.zero_le _,rfl,_,_,I0.o⟩
 case round=>
  clear I0;obtain⟨i,hi,rfl,I⟩:=hrel;obtain⟨s,u',I⟩:=I;obtain⟨va,vn,vc,rfl⟩:=I.words.shape;have HI:=Zh I;clear I;by_cases hi2:i<m
  ·go_wp2_with fail;refine(QMc HI.o.tape 3 ZO).mono ?_;rintro e w2 ⟨z,z1,z2,rfl,ht2,hb2⟩;have J:=Zh (HI.o.next ht2 hb2);have L0:=(Qa J.o.cur).1 0;have L1:=(Qa J.o.cur).1 1;have L2:=(Qa J.o.cur).2 0;have L3:=(Qa J.o.cur).2 1;simp only[Zx,Zy,Zz] at L0 L1;clear ht2 hb2;by_cases hz:z=1
   ·subst hz;go_wp2_with fail;refine(Qfl J.o.width i (.slice va vn vc) _ J.o.form hi2 J.o.words).mono ?_;rintro e w3 ⟨u3,rfl,ho,b3⟩;obtain⟨ta,tn,tc,rfl⟩:=ho.words.shape;have J3:=Zh (J.o.put ho b3 hi2);have L0:=(b3.cell (p:=⟨v.heap.size,0,none⟩) (Qb J.o.cur)).trans L0;have L1:=(b3.cell (p:=⟨v.heap.size,1,none⟩) (Qb J.o.cur)).trans L1;have L2:=(b3.frozen (p:=⟨v.heap.size,0,none⟩) (Qb J.o.cur)).trans L2;have L3:=(b3.frozen (p:=⟨v.heap.size,1,none⟩) (Qb J.o.cur)).trans L3;rw[show setV (putS s i) (.slice ta tn tc)=.agg #[.int .i64 (m:Int),.slice ta tn tc] by unfold setV;rw[show(putS s i).width=s.width from rfl,J.o.width]];clear ho b3;go_wp2;go_roundw
    case rel=>exact⟨i+1,by omega,by go_num,_,_,J3.o⟩
    case measure=>simp[intOf];omega
   ·have hzb:(z==1)=false:=by simpa using hz
    clear hz;go_wp2;go_roundw
    case rel=>exact⟨i+1,by omega,by go_num,_,_,J.o⟩
    case measure=>simp[intOf];omega
  ·have K0:=(Qa HI.o.cur).1 0;have K1:=(Qa HI.o.cur).1 1;have R0:=(Qa HI.o.res).1 0;have R1:=(Qa HI.o.res).1 1;have R2:=(Qa HI.o.res).2 0;have R3:=(Qa HI.o.res).2 1;simp only[Zx,Zy,Zz] at K0 K1 R0 R1;have hrc:=HI.o.old.2.2.1;go_wp2;refine bodyPost_ret (v:=setV s (.slice va vn vc)) (by rw[show setV s (.slice va vn vc)=.agg #[.int .i64 (m:Int),.slice va vn vc] by unfold setV;rw[HI.o.width]];simp[results,Tryz.results34,go_sem,R0,R1]) rfl ⟨s,_,rfl,HI.o.form,HI.o.width,HI.o.ok,?_,?_,?_⟩
   ·exact HI.o.words.keep (Qf.trans (Qf.setCell (U:=52) (Qv HI.o.res (by have:=HI.o.tape.bs;show Base.b≤w.heap.size;omega)) ZD) (Qf.setCell (U:=52) ((QS _).trans (Qv HI.o.res (by have:=HI.o.tape.bs;show Base.b≤w.heap.size;omega))) ZD))
   ·exact(HI.o.tape.setCell (by show w.heap.size≠bt;omega) (by show B≤w.heap.size;have:=HI.o.tape.ge;omega) _).setCell (by show w.heap.size≠bt;omega) (by show B≤w.heap.size;have:=HI.o.tape.ge;omega) _
   ·exact(HI.o.but.setCell ⟨w.heap.size,0,none⟩ (.inr (Nat.le_refl _)) _).setCell ⟨w.heap.size,1,none⟩ (.inr (Nat.le_refl _)) _
end
end Go.Proofs.YtijekimobahgpaaGreatDoor
