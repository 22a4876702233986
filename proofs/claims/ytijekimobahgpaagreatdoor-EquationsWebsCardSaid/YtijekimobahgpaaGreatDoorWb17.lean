/- 'flqlaw10.EquationsWebs' returns true at every input: the program and the reference accept the same webs. The variables that the program's text lays (keywords, the table of effects, the table of trailing zeros) hold what the text lays (the given tie). No condition beyond the statement's own. (nobase) -/
import Derived.Test.YtijekimobahgpaaGreatDoorWb16
import Derived.ProofKit
import Derived.Deep.Slices
import Derived.Deep.Fields
import Derived.ChangeSame
import Derived.ChangeMaps5
import Derived.LaidMore
import Derived.OpenShut
import Derived.Test.YtijekimobahgpaaGreatDoorCards
import Derived.Test.YtijekimobahgpaaGreatDoorTie
import Derived.Carry
import Derived.Deep.Strs
import Derived.ChangeOld
import Derived.Stop.Joined
import Derived.SevenTiedAt
set_option linter.unusedVariables false
set_option linter.unusedSimpArgs false
set_option linter.unusedSectionVars false
set_option maxRecDepth 100000
set_option maxHeartbeats 16000000
namespace Go.Proofs.YtijekimobahgpaaGreatDoor
section
open Go.RowKit
variable [Base]
theorem Qew {B bt:Nat}{w0 w1 w:World}(h:Below B w0 w1)(hb:But bt w1 w)(hB:B≤bt)(hs:B≤w1.heap.size):Below B w0 w:=h.trans (hb.toBelow hB hs)
section
variable {bt z q n m k:Nat} {w1 wr:World} {bs:List QSet} {R:List Arcs} {bv av:Value} {vs:List Value}
theorem LwIn.shape (h:LwIn bt z q n m w1 wr bs R bv av vs):∃gb bc g cap,bv=.slice (some ⟨gb,0,none⟩) n bc∧av=.slice (some ⟨g,0,none⟩) n cap∧n≤cap∧z≤gb∧z≤g:=by
 have hbs:=h.base;obtain⟨o1,o2,o3,o4⟩:=h.old;obtain⟨g,cap,c,rfl,h1,h2,h3,h4,h5⟩:=Qvv h.own o4;obtain⟨a,bc,rfl⟩:=h.bd.slice;obtain⟨xss,ho,hx⟩:=h.bd;rw[h.bl] at ho ⊢;obtain⟨g',rfl,hgz,-⟩:=QWd ho o4 hbs;exact⟨g',bc,g,cap,rfl,rfl,h3,hgz,h1⟩
theorem LwIn.rowAt {g cap:Nat}{v:Value}{r:Arcs}(h:LwIn bt z q n m w1 wr bs R bv (.slice (some ⟨g,0,none⟩) n cap) vs)(hv:vs[k]? = some v)(hr:R[k]? = some r):
  wr.cell? ⟨g,k,none⟩=some v∧(∃c,wr.heap[g]? = some (.cells c ARS (0,0)))∧g<wr.heap.size∧r.length≤1024∧∃xss,wr.ownsRow z ART 6 v r.length xss.flatten∧All2 (QKu.C wr) xss r:=by
 obtain⟨g',cap',c,e,k1,k2,k3,k4,k5,k6⟩:=h.vals;injection e with e1 _ e2
 injection e1 with e1
 injection e1 with e1
 subst e1 e2;exact⟨((Qa k2).1 k).trans (k5 k v hv),⟨c,k2⟩,Qb k2,h.rl r (List.mem_of_getElem? hr),h.ar.own k v r hv hr⟩
theorem LwIn.bndAt {gb bc:Nat}(h:LwIn bt z q n m w1 wr bs R (.slice (some ⟨gb,0,none⟩) n bc) av vs)(hk:k<n):
  ∃s u,Ok m s∧Qi wr u s.words∧gb<wr.heap.size∧wr.cell? ⟨gb,k*2,none⟩=some (iv m)∧wr.cell? ⟨gb,k*2+1,none⟩=some u∧wr.frozen? ⟨gb,k*2,none⟩=false∧wr.frozen? ⟨gb,k*2+1,none⟩=false:=by
 have hbs:=h.base;obtain⟨o1,o2,o3,o4⟩:=h.old;have hbl:=h.bl;obtain⟨s,hs⟩:∃s,bs[k]? = some s:=⟨_,List.getElem?_eq_getElem ZO⟩;have hok:=h.okB s (List.mem_of_getElem? hs);obtain⟨a,c,e,-,-,-,hcell⟩:=h.bd.rows.cell;obtain⟨b,off,cs,rfl,hb,⟨u,rfl,hu⟩,hc⟩:=hcell k s hs;injection e with e1 _ e2
 injection e1 with e1
 injection e1 with e1 e3
 subst e1 e3;have c0:=hc 0 (show 0<2 by omega);have c1:=hc 1 (show 1<2 by omega);obtain⟨xss,ho,hx⟩:=h.bd;rw[h.bl] at ho;obtain⟨g',e,hgz,hgs,hT,-,hf⟩:=QWd ho o4 hbs;injection e with e
 injection e with e
 subst e;refine⟨s,u,hok,hu,hb,?_,?_,hf _,hf _⟩
 ·have h1:=c0;rw[show(0:Nat)+k*Qsa.sz+0=k*2 by show 0+k*2+0=_;omega] at h1;rw[h1,hok.width];rfl
 ·have h1:=c1;rw[show(0:Nat)+k*Qsa.sz+1=k*2+1 by show 0+k*2+1=_;omega] at h1;rw[h1];rfl
end
theorem LwIn.start {bt z q n m:Nat}{w1 w2 w3 W:World}{s:SysS}{bv av:Value}{vs:List Value}(hok:QSd n m s)(ht:QZ bt w2 bt)(hb:But bt w1 w2)(h1:bt<w1.heap.size)(hz:w2.heap.size=z)(hq:w3.heap.size=q)(hW:w3.alloc (.cells #[iv m,bv,av] WBT)=W)(hbd:QG Qsa w2.heap.size w3 bv (QQu s).bnds)(how:w3.ownsRow w2.heap.size ARS 1 av vs.length vs)(har:QPu w2.heap.size w3 vs (QQu s).arcs)(hb3:Below w2.heap.size w2 w3):LwIn bt z q n m w1 W s.bnds (QQu s).arcs bv av vs:=by
 subst hz hq hW;have hal:(QQu s).arcs.length=n:=by rw[Qbv,List.length_map];exact hok.deps
 have hvl:vs.length=n:=har.len.trans hal;rw[hvl] at how;have ba:Below w3.heap.size w3 (w3.alloc (.cells #[iv m,bv,av] WBT)):=Zb;refine⟨(ht.below hb3).alloc _,(hb.below hb3).alloc _,heap_alloc_new _ _,hbd.below ba,how.alloc _,har.below ba,hok.bnds,hal,hok.okB,fun l hl=>?_,⟨hb.size,hb3.size,h1,hok.n1⟩⟩;rw[Qbv] at hl;obtain⟨d,hd,rfl⟩:=List.mem_map.1 hl;have h2:=QYp (hok.asc d hd);have:=hok.nle;unfold QSu;rw[List.length_map];omega
theorem Qaw {w:World}{xss:List (List Value)}{r:Arcs}(h:All2 (QKu.C w) xss r):xss.flatten.all Value.oneCell'=true:=by
 rw[List.all_eq_true];intro x hx;obtain⟨cs,hcs,hxc⟩:=List.mem_flatten.1 hx;have key:∀cs∈xss,∀x∈cs,Value.oneCell' x=true:=h.eachR fun cs a hc x hx=>by
  obtain⟨gu,ku,cu,rfl,ht⟩:=hc;obtain⟨_,_,_,rfl⟩:=ht.gen.shape;obtain⟨_,_,_,rfl⟩:=ht.kill.shape;obtain⟨_,_,rfl,-⟩:=ht.cops.cell;simp at hx;rcases hx with rfl|rfl|rfl|rfl|rfl|rfl <;> rfl
 exact key cs hcs x hxc
theorem QPv {w:World}{xss:List (List Value)}{r:Arcs}(h:All2 (QKu.C w) xss r):xss.flatten.length=r.length*6:=by
 rw[Qed 6 _ (h.eachR fun _ _ hc=>QKu.len hc),h.length]
theorem QHv {w:World}{k:Nat}(hk:k≤w.heap.size)(a b c d e f:Value)(h:[a,b,c,d,e,f].all Value.oneCell'=true):(w.alloc (.cells #[a,b,c,d,e,f] ART)).ownsRow k ART 6 (.slice (some ⟨w.heap.size,0,none⟩) 1 1) 1 [a,b,c,d,e,f]:=
 ⟨by simp,.inr ⟨w.heap.size,1,#[a,b,c,d,e,f],rfl,hk,heap_alloc_new _ _,Nat.le_refl _,by decide,by simp,by simp⟩⟩
theorem Qsv (w0:World)(a:Option Addr)(an ac:Nat)(hn:an≤maxLen)(h:∀j:Nat,j<an→∃b off z,a=some ⟨b,off,none⟩∧b<w0.heap.size∧w0.cell? ⟨b,off+j,none⟩=some (.int .i64 z))(s0:WebS)(bv0 av0:Value)(hweb:QUu w0 bv0 av0 s0)(hlen:∀l∈s0.arcs,l.length≤2199023255552)(kw:KwIn w0.heap.size w0)(ef:Qmg w0.heap.size w0)(tz:TzIn w0.heap.size w0)(hbs:Base.b≤w0.heap.size):
  Calls Tryz.prog 5 #[.slice a an ac,webV s0 bv0 av0] w0 (Qia true w0):=by
 obtain⟨pa,pc,rfl,-⟩:=hweb.bnds.cell;obtain⟨qa,qc,rfl,-⟩:=hweb.arcs.cell;obtain⟨nb,hnb⟩:=Ze s0.bnds.length;obtain⟨na,hna⟩:=Ze s0.arcs.length;rw[hnb,hna] at hweb ⊢;have hud:∀b:Bool,(undef=Value.bool b)=False:=fun b=>by simp[undef]
 obtain⟨bw,hbw⟩:=Ze w0.heap.size;rw[hbw] at kw ef tz;obtain⟨V0,hV0⟩:=Ze (w0.alloc (.cells #[iv s0.width,.slice pa nb pc,.slice qa na qc] WBT));have HV0:=Zh hV0;have BV0:=Zh (show Below bw w0 V0 by rw[←hV0,←hbw];exact Zb);have HWP:=Zh (show V0.heap[bw]? = some (.cells #[iv s0.width,.slice pa nb pc,.slice qa na qc] WBT (0,0)) by rw[←hV0,←hbw];exact heap_alloc_new _ _);have H:=Zh (show ∀j:Nat,j<an→∃b off z,a=some ⟨b,off,none⟩∧b<V0.heap.size∧V0.cell? ⟨b,off+j,none⟩=some (.int .i64 z) from fun j hj=>by
  obtain⟨b,off,z,e1,e2,e3⟩:=h j hj;have:=BV0.o.size;exact⟨b,off,z,e1,by omega,(World.cell?_of_block (BV0.o.block b ZO)).trans e3⟩)
 obtain⟨bt,hbt⟩:=Ze V0.heap.size;have HBT:=Zh hbt;have HWB:=Zh hweb;have HLN:=Zh hlen;have HNB:=Zh hnb;have HNA:=Zh hna;have HBW:=Zh hbw;have KW:=Zh kw;have EF:=Zh ef;have TZ:=Zh tz;have hbs2:Base.b≤bt:=by have:=BV0.o.size;omega
 have hlt:=Qb HWP.o;rw[hbt] at H hlt;rw[hbw] at hbs;clear h kw ef tz hV0 hweb hlen hnb hna hbw;go_enter Tryz.func5,Tryz.ntmps5;go_upto_region 1 with(fail)
 rw[show w0.alloc (.cells #[iv s0.width,.slice pa nb pc,.slice qa na qc] WBT)=V0 from HV0.o]
 try rw[HBW.o]
 go_wp2_with fail;refine(QDt HBT.o.symm a an ac hn H.o).mono ?_;rintro e w1 ⟨rfl,ht1,hb1⟩;have T1:=Zh ht1;have B1:=Zh (show Below bw w0 w1 from BV0.o.trans (hb1.mono (by have:=BV0.o.size;omega)));have HW1:=Zh ((hb1.block bw hlt).trans HWP.o);have hs1:=ht1.lt;clear ht1 hb1 hbt;go_wp2_with fail;go_loopw [6] (fun y wr=>∃i:Nat,i≤5∧y=.int .i64 i∧Hid (QZ bt wr bt)∧Hid (But bt w1 wr)) (fun y _=>5-(intOf y).toNat)
 case atStart=>exact⟨0,by omega,rfl,T1.o,But.refl _ _⟩
 case round=>
  obtain⟨i,hi,rfl,HT,HB⟩:=hrel;by_cases hi5:i=5
  ·subst hi5;have HBX:=Zh (show Below bw w0 wr from Qew B1.o HB.o ZO ZO);have HWR:=Zh ((HB.o.block bw ZO ZO).trans HW1.o);obtain⟨x0,x1,x2⟩:=QVa HWR.o;have HWX:=Zh (HWB.o.below (show Below w0.heap.size w0 wr by rw[HBW.o];exact HBX.o));have hbq:Base.b≤wr.heap.size:=by have:=HT.o.lt;omega
   have KP:=Zh (show ∀x,Below wr.heap.size wr x→Calls Tryz.prog 28 #[webV s0 (.slice pa nb pc) (.slice qa na qc)] x (Qia (webB s0) x) from fun x b=>QOu s0 _ _ x (HWX.o.below b) HLN.o (by have:=b.size;omega));have KR:=Zh (show ∀x,Below wr.heap.size wr x→Calls Tryz.prog 29 #[webV s0 (.slice pa nb pc) (.slice qa na qc)] x (Qia (webB s0) x) from fun x b=>QMu s0 _ _ x (HWX.o.below b));have KSN:=Zh (show ∀x,Below wr.heap.size wr x→Calls Tryz.prog 15 #[] x (Qia true x) from fun x b=>by
    have e:=HBW.o;have hb:Below bw w0 x:=HBX.o.trans (b.mono (by have:=HBX.o.size;omega));exact QKr (B:=bw) (KW.o.keep fun k hk=>hb.block k ZO) (EF.o.below (hb.mono ZO)) (TZ.o.below (hb.mono ZO)) (by have:=hb.size;omega))
   by_cases h8:8<nb
   ·have g1:(8:Int)<(nb:Int):=by omega
    clear KP KR KSN;go_upto_region 20 with(fail)
    go_quiet (fail);go_wp2;go_ret;exact⟨rfl,by rw[HBW.o];exact Qp HBX.o _⟩
   have g1:¬(8:Int)<(nb:Int):=by omega
   by_cases h9:8<na
   ·have g2:(8:Int)<(na:Int):=by omega
    clear KP KR KSN;go_upto_region 20 with(fail)
    go_quiet (fail);go_wp2;go_ret;exact⟨rfl,by rw[HBW.o];exact Qp HBX.o _⟩
   have g2:¬(8:Int)<(na:Int):=by omega
   have t1:decide ((nb:Int) > 8)=false:=by simp;omega
   have t2:decide ((na:Int) > 8)=false:=by simp;omega
   obtain⟨cb,hcb⟩:=Ze (webB s0);rw[hcb] at KP KR;clear hcb;go_upto_region 20 with(fail)
   refine Zr (fun w'=>w'.cell? ⟨bw,0,none⟩=some (iv s0.width)∧w'.cell? ⟨bw,1,none⟩=some (.slice pa nb pc)∧w'.cell? ⟨bw,2,none⟩=some (.slice qa na qc)) 20 (⟨x0,x1,x2⟩) fun hS0=>?_
   refine Yd 0 98 ?_;refine Yd 1 99 ?_;refine Yd 2 100 ?_;refine Yd 3 101 ?_;refine Yd 4 102 ?_;refine Yd 5 103 ?_;refine Yd 6 104 ?_;refine Yd 7 105 ?_;refine Yd 8 106 ?_;refine Yd 9 107 ?_;refine Yd 10 108 ?_;refine Yd 11 109 ?_;refine Yd 13 111 ?_;refine QP 12 (some 110) 28 #[webV s0 (.slice pa nb pc) (.slice qa na qc)] rfl ZK ZK ZK rfl ?_;refine(KP.o _ (Qp (Below.refl wr.heap.size wr) 1)).mono ?_;rintro e w8 ⟨rfl,b_w8⟩;have S_w8:=Zh (show Below wr.heap.size wr w8 from(Qp (Below.refl wr.heap.size wr) 1).trans (b_w8.mono (Qp (Below.refl wr.heap.size wr) 1).size));clear hS0 b_w8;refine⟨_,rfl,Zi (QVa (Qc HWR.o S_w8.o (Qb HWR.o))) fun hS0=>?_⟩;refine QP 14 (some 112) 29 #[webV s0 (.slice pa nb pc) (.slice qa na qc)] rfl ZK ZK ZK rfl ?_;refine(KR.o _ (S_w8.o)).mono ?_;rintro e w9 ⟨rfl,b_w9⟩;have S_w9:=Zh (show Below wr.heap.size wr w9 from(S_w8.o).trans (b_w9.mono (S_w8.o).size));clear hS0 b_w9;refine⟨_,rfl,Zi (QVa (Qc HWR.o S_w9.o (Qb HWR.o))) fun hS0=>?_⟩;refine Yd 15 113 ?_;refine Yd 16 114 ?_;refine QP 17 (some 115) 15 #[] rfl ZK ZK ZK rfl ?_;refine(KSN.o _ (S_w9.o)).mono ?_;rintro e w10 ⟨rfl,b_w10⟩;have S_w10:=Zh (show Below wr.heap.size wr w10 from(S_w9.o).trans (b_w10.mono (S_w9.o).size));clear hS0 b_w10;refine⟨_,rfl,Zi (QVa (Qc HWR.o S_w10.o (Qb HWR.o))) fun hS0=>?_⟩;refine Yd 18 116 ?_;refine Yd 19 117 ?_;refine QW 20 (some 4) (.bool true) w10 rfl ZK ZK (by go_simp) rfl (fun h=>absurd rfl h) ?_;refine Qu ZK ?_ _;generalize hA:Act.put _ _ _=A0;simp only[Qba,Qaa,Zu,Zv,Zw] at hA;subst hA;clear hS0 x0 x1 x2;go_wp2;go_ret;exact⟨rfl,by rw[HBW.o];exact HBX.o.trans (S_w10.o.mono (by have:=HBX.o.size;have:=HBW.o;omega))⟩
  ·have hi4:(i:Int)<5:=by omega
   go_wp2_with fail;refine(QXm 5 ZO ZO _ HT.o).mono ?_;rintro e w2 ⟨s,n,m,dv,tv,sv,rfl,hok,hn16,hm4,hsa,ht2,hb2⟩;have OK:=Zh hok;have HSA:=Zh hsa;have T2:=Zh ht2;have B2:=Zh (HB.o.trans hb2);have hbz:Base.b≤w2.heap.size:=by have:=ht2.lt;omega
   have hww:s.width=(m:Int):=hok.width;have hn1:=hok.n1;have WQ:=Zh (QTv s OK.o dv tv sv w2 HSA.o hbz);rw[show webT s=(QQu s,0) by unfold webT;rw[if_pos hok.b]] at WQ;clear hok hsa ht2 hb2;go_wp2_with fail;refine WQ.o.mono ?_;rintro e w3 ⟨bv,av,vs,rfl,hbd,how,har,hb3⟩;obtain⟨z,hz⟩:=Ze w2.heap.size;obtain⟨q,hq⟩:=Ze w3.heap.size;obtain⟨W,hW⟩:=Ze (w3.alloc (.cells #[iv m,bv,av] WBT));have HW:=Zh hW;have HQ:=Zh hq;have HL0:=Zh (show LwIn bt z q n m w1 W s.bnds (QQu s).arcs bv av vs from LwIn.start OK.o T2.o B2.o hs1 hz hq hW hbd how har hb3);clear hbd how har hb3 hz hq hW WQ;obtain⟨gb,bc,g,cap,rfl,rfl,hcap,hzb,hzg⟩:=HL0.o.shape;go_upto_region 6 with(fail)
   rw[show(QQu s).width=(m:Int) from hww];rw[show w3.alloc (.cells #[iv m,.slice (some ⟨gb,0,none⟩) n bc,.slice (some ⟨g,0,none⟩) n cap] WBT)=W from HW.o]
   try rw[HQ.o]
   clear hww;obtain⟨x0,x1,x2⟩:=QVa HL0.o.cur;go_wp2_with fail;refine(QLu HL0.o.tape n ZO ZO).mono ?_;rintro e w4 ⟨kk,k1,k2,rfl,t4,b4⟩;obtain⟨k,rfl⟩:=Int.eq_ofNat_of_zero_le k1;have HL1:=Zh (HL0.o.next t4 b4);have hk:k<n:=by omega
   have hki:(k:Int)<(n:Int):=by omega
   have hk0:(0:Int)≤(k:Int):=by omega
   clear t4 b4 k1 k2 x0 x1 x2;go_wp2_with fail;refine(QLu HL1.o.tape 6 ZO ZO).mono ?_;rintro e w5 ⟨c,c1,c2,rfl,t5,b5⟩;have HL:=Zh (HL1.o.next t5 b5);clear t5 b5;obtain⟨v,hv⟩:∃v,vs[k]? = some v:=⟨_,List.getElem?_eq_getElem (by have:=HL.o.vl;omega)⟩;obtain⟨r,hr⟩:∃r,(QQu s).arcs[k]? = some r:=⟨_,List.getElem?_eq_getElem (by have:=HL.o.al;omega)⟩;obtain⟨va,vc,rfl⟩:=(HL.o.ar.own k v r hv hr).slice;have HV:=Zh hv;have HR:=Zh hr;have HSB:=Zh (show bw<w1.heap.size∧bt<w5.heap.size from⟨by omega,HL.o.tape.lt⟩);have hbq:Base.b≤w5.heap.size:=by have:=HSB.o.2;omega
   clear hv hr;obtain⟨x0,x1,x2⟩:=QVa HL.o.cur;have f0:=(Qa HL.o.cur).2 0;have f2:=(Qa HL.o.cur).2 2;by_cases e0:c=0
   ·subst e0;have wm:IntKind.i64.wrap ((m:Int)+1)=(m:Int)+1:=IntWalk.i64_in _ ZO;go_upto_region 18 with(fail)
    have HQX:=Zh (HL.o.width ((m:Int)+1));obtain⟨wx,hwx⟩:=Ze (w5.setCell ⟨q,0,none⟩ (iv ((m:Int)+1)));rw[hwx] at HQX ⊢;clear hwx;clear x0 x1 x2 f0 f2 wm;obtain⟨sx,bx,ax,hq,hwa,hlx,htx,hbx⟩:=HQX.o;obtain⟨ba,bc2,rfl,-⟩:=hwa.bnds.cell;obtain⟨ca,cc2,rfl,-⟩:=hwa.arcs.cell;have HTX:=Zh htx;have HBX:=Zh hbx;have HQC:=Zh hq;have hbsx:Base.b≤wx.heap.size:=by have:=htx.lt;omega
    have KP:=Zh (show ∀x,Below wx.heap.size wx x→Calls Tryz.prog 28 #[webV sx (.slice ba sx.bnds.length bc2) (.slice ca sx.arcs.length cc2)] x (Qia (webB sx) x) from fun x b=>QOu sx _ _ x (hwa.below b) hlx (by have:=b.size;omega));have KR:=Zh (show ∀x,Below wx.heap.size wx x→Calls Tryz.prog 29 #[webV sx (.slice ba sx.bnds.length bc2) (.slice ca sx.arcs.length cc2)] x (Qia (webB sx) x) from fun x b=>QMu sx _ _ x (hwa.below b));obtain⟨y0,y1,y2⟩:=QVa hq;obtain⟨cb,hcb⟩:=Ze (webB sx);rw[hcb] at KP KR;clear hq hwa hlx htx hbx hcb HQX;refine Zr (fun w'=>w'.cell? ⟨q,0,none⟩=some (iv sx.width)∧w'.cell? ⟨q,1,none⟩=some (.slice ba sx.bnds.length bc2)∧w'.cell? ⟨q,2,none⟩=some (.slice ca sx.arcs.length cc2)) 4 (⟨y0,y1,y2⟩) fun hS0=>?_
    refine Yc 0 93 [1] ?_;refine Yc 2 95 [3] ?_;refine QP 1 (some 94) 28 #[webV sx (.slice ba sx.bnds.length bc2) (.slice ca sx.arcs.length cc2)] rfl ZK ZK ZK rfl ?_;refine(KP.o _ (Qp (Below.refl wx.heap.size wx) 1)).mono ?_;rintro e w8 ⟨rfl,b_w8⟩;have S_w8:=Zh (show Below wx.heap.size wx w8 from(Qp (Below.refl wx.heap.size wx) 1).trans (b_w8.mono (Qp (Below.refl wx.heap.size wx) 1).size));clear hS0 b_w8;refine⟨_,rfl,Zi (QVa (Qc HQC.o S_w8.o (Qb HQC.o))) fun hS0=>?_⟩;refine QP 3 (some 96) 29 #[webV sx (.slice ba sx.bnds.length bc2) (.slice ca sx.arcs.length cc2)] rfl ZK ZK ZK rfl ?_;refine(KR.o _ (S_w8.o)).mono ?_;rintro e w9 ⟨rfl,b_w9⟩;have S_w9:=Zh (show Below wx.heap.size wx w9 from(S_w8.o).trans (b_w9.mono (S_w8.o).size));clear hS0 b_w9;refine⟨_,rfl,Zi (QVa (Qc HQC.o S_w9.o (Qb HQC.o))) fun hS0=>?_⟩;refine QW 4 (some 97) (.bool false) w9 rfl ZK ZK (by cases cb <;> go_simp) rfl (fun h=>absurd rfl h) ?_;refine Qu ZK ?_ _;generalize hA:Act.put _ _ _=A0;simp only[Qba,Qaa,Zu,Zv,Zw] at hA;subst hA;clear hS0 y0 y1 y2;go_wp2;go_roundw
    case rel=>exact⟨i+1,by omega,by go_num,HTX.o.below S_w9.o,HBX.o.below S_w9.o⟩
    case measure=>simp[intOf];omega
   by_cases e1:c=1
   ·subst e1;clear f0 f2 x1;go_upto_region 11 with(fail)
    clear x0 x2;refine QK (S:=fun w'=>w'.cell? ⟨q,0,none⟩=some (iv m)∧w'.cell? ⟨q,2,none⟩=some (.slice (some ⟨g,0,none⟩) n cap)∧w'.cell? ⟨g,k,none⟩=some (.slice va r.length vc)) (st:=17) ZK ?_;obtain⟨wd,hwd⟩:=Ze (w5.drewN 1);rw[hwd];have HD:=Zh (show LwIn bt z q n m w1 wd s.bnds (QQu s).arcs (.slice (some ⟨gb,0,none⟩) n bc) (.slice (some ⟨g,0,none⟩) n cap) vs by rw[←hwd];exact HL.o.next (HL.o.tape.drewN 1) ((But.refl _ _).drewN 1));have hS0:(fun w':World=>w'.cell? ⟨q,0,none⟩=some (iv m)∧w'.cell? ⟨q,2,none⟩=some (.slice (some ⟨g,0,none⟩) n cap)∧w'.cell? ⟨g,k,none⟩=some (.slice va r.length vc)) wd:=⟨(QVa HD.o.cur).1,(QVa HD.o.cur).2.2,(HD.o.rowAt HV.o HR.o).1⟩;refine Yd 0 37 ?_;refine Yd 1 38 ?_;refine Yd 2 39 ?_;refine Yd 3 40 ?_;refine Yd 4 41 ?_;refine Yd 5 42 ?_;refine Yd 6 43 ?_;refine Yd 7 44 ?_;refine Yd 8 45 ?_;refine Yd 10 47 ?_;refine Yd 11 48 ?_;refine QP 9 (some 46) 16 #[.pointer (some ⟨bt,0,none⟩),iv 6] rfl ZK ZK ZK rfl ?_;refine(QLu HD.o.tape 6 ZO ZO).mono ?_;rintro e w6 ⟨p,p1,p2,rfl,t6,b6⟩;have HL6:=Zh (HD.o.next t6 b6);clear t6 b6;clear hS0;refine⟨_,rfl,Zi ⟨(QVa HL6.o.cur).1,(QVa HL6.o.cur).2.2,(HL6.o.rowAt HV.o HR.o).1⟩ fun hS0=>?_⟩;refine QP 12 (some 49) 24 #[iv m] rfl ZK ZK ZK rfl ?_;refine(QXn m ZO w6 (by have:=HL6.o.tape.lt;omega)).mono ?_;rintro e w7 ⟨gu,ku,cu,rfl,hta,b7⟩;obtain⟨ga,gn,gc,rfl⟩:=hta.gen.shape;obtain⟨ka,kn,kc,rfl⟩:=hta.kill.shape;obtain⟨ca,cc,rfl,-⟩:=hta.cops.cell;have HTA:=Zh hta;have HL7:=Zh (HL6.o.below b7);clear hta b7;clear hS0;have hS0:(fun w':World=>w'.cell? ⟨q,0,none⟩=some (iv m)∧w'.cell? ⟨q,2,none⟩=some (.slice (some ⟨g,0,none⟩) n cap)∧w'.cell? ⟨g,k,none⟩=some (.slice va r.length vc)) w7:=⟨(QVa HL7.o.cur).1,(QVa HL7.o.cur).2.2,(HL7.o.rowAt HV.o HR.o).1⟩;refine⟨.agg #[iv m,.slice ga gn gc,iv m,.slice ka kn kc,.slice ca 0 cc],rfl,fun _=>hS0,?_⟩;refine Yd 13 50 ?_;refine QW 14 (some 51) (.slice (some ⟨w7.heap.size,0,none⟩) 1 1) (w7.alloc (.cells #[iv p,iv m,.slice ga gn gc,iv m,.slice ka kn kc,.slice ca 0 cc] ART)) rfl ZK ZK ?rv1 rfl (fun _=>?sv1) ?_
    case rv1=>go_simp
    case sv1=>
     exact⟨(QVa (Qz _ HL7.o.cur)).1,(QVa (Qz _ HL7.o.cur)).2.2,(World.cell?_of_block (a:=⟨g,k,none⟩) (Below.heap_alloc _ _ _ (HL7.o.rowAt HV.o HR.o).2.2.1)).trans (HL7.o.rowAt HV.o HR.o).1⟩
    obtain⟨_,⟨cg,hcg⟩,hgl,hr24,xss,how,hax⟩:=HL7.o.rowAt HV.o HR.o;have HAX:=Zh hax;have HOW:=Zh how;have HCG:=Zh hcg;clear hax how hcg hS0;refine Qgi 15 (some 52) (w:=w7) [iv p,iv m,.slice ga gn gc,iv m,.slice ka kn kc,.slice ca 0 cc] ART rfl rfl ZK ZK rfl _ _ ARS rfl z _ 6 96 Tryz.underlying67 Qiv rfl ZD (.slice va r.length vc) r.length _ HOW.o ZK ZK rfl rfl (by unfold maxLen;omega) ZO (by have:=HL7.o.old;have:=Qb HL7.o.cur;omega) ?_;intro g4 c4 w9 ho hg _;have HG:=Zh (HL7.o.grow (i:=p) (t:=idT m) HV.o HR.o HOW.o HAX.o HTA.o ho hg);clear ho hg;have v2:=(World.cell?_of_block (a:=⟨g,k,none⟩) HG.o.2.2).trans (HL7.o.rowAt HV.o HR.o).1;have fz:=(Qa (HG.o.2.2.trans HCG.o)).2 k;have HQX:=Zh HG.o.1;refine Zi ⟨(QVa HG.o.2.1).1,(QVa HG.o.2.1).2.2,v2⟩ fun hS0=>?_
    refine Yd 16 53 ?_;refine Qeb 17 none (w9.setCell ⟨g,k,none⟩ (.slice (some ⟨g4,0,none⟩) (r.length+1) c4)) rfl ZK ZK ?rs1 rfl (fun h=>absurd rfl h) ?_
    case rs1=>go_simp
    refine Qu ZK ?_ _;generalize hA:Act.put _ _ _=A0;simp only[Qba,Qaa,Zu,Zv,Zw] at hA;subst hA;obtain⟨wx,hwx⟩:=Ze (w9.setCell ⟨g,k,none⟩ (.slice (some ⟨g4,0,none⟩) (r.length+1) c4));rw[hwx] at HQX ⊢;clear hwx hS0 v2 fz hgl hr24  hwd;go_upto_region 18 with(fail)
    obtain⟨sx,bx,ax,hq,hwa,hlx,htx,hbx⟩:=HQX.o;obtain⟨ba,bc2,rfl,-⟩:=hwa.bnds.cell;obtain⟨ca,cc2,rfl,-⟩:=hwa.arcs.cell;have HTX:=Zh htx;have HBX:=Zh hbx;have HQC:=Zh hq;have hbsx:Base.b≤wx.heap.size:=by have:=htx.lt;omega
    have KP:=Zh (show ∀x,Below wx.heap.size wx x→Calls Tryz.prog 28 #[webV sx (.slice ba sx.bnds.length bc2) (.slice ca sx.arcs.length cc2)] x (Qia (webB sx) x) from fun x b=>QOu sx _ _ x (hwa.below b) hlx (by have:=b.size;omega));have KR:=Zh (show ∀x,Below wx.heap.size wx x→Calls Tryz.prog 29 #[webV sx (.slice ba sx.bnds.length bc2) (.slice ca sx.arcs.length cc2)] x (Qia (webB sx) x) from fun x b=>QMu sx _ _ x (hwa.below b));obtain⟨y0,y1,y2⟩:=QVa hq;obtain⟨cb,hcb⟩:=Ze (webB sx);rw[hcb] at KP KR;clear hq hwa hlx htx hbx hcb HQX;refine Zr (fun w'=>w'.cell? ⟨q,0,none⟩=some (iv sx.width)∧w'.cell? ⟨q,1,none⟩=some (.slice ba sx.bnds.length bc2)∧w'.cell? ⟨q,2,none⟩=some (.slice ca sx.arcs.length cc2)) 4 (⟨y0,y1,y2⟩) fun hS0=>?_
    refine Yc 0 93 [1] ?_;refine Yc 2 95 [3] ?_;refine QP 1 (some 94) 28 #[webV sx (.slice ba sx.bnds.length bc2) (.slice ca sx.arcs.length cc2)] rfl ZK ZK ZK rfl ?_;refine(KP.o _ (Qp (Below.refl wx.heap.size wx) 1)).mono ?_;rintro e w8 ⟨rfl,b_w8⟩;have S_w8:=Zh (show Below wx.heap.size wx w8 from(Qp (Below.refl wx.heap.size wx) 1).trans (b_w8.mono (Qp (Below.refl wx.heap.size wx) 1).size));clear hS0 b_w8;refine⟨_,rfl,Zi (QVa (Qc HQC.o S_w8.o (Qb HQC.o))) fun hS0=>?_⟩;refine QP 3 (some 96) 29 #[webV sx (.slice ba sx.bnds.length bc2) (.slice ca sx.arcs.length cc2)] rfl ZK ZK ZK rfl ?_;refine(KR.o _ (S_w8.o)).mono ?_;rintro e w9 ⟨rfl,b_w9⟩;have S_w9:=Zh (show Below wx.heap.size wx w9 from(S_w8.o).trans (b_w9.mono (S_w8.o).size));clear hS0 b_w9;refine⟨_,rfl,Zi (QVa (Qc HQC.o S_w9.o (Qb HQC.o))) fun hS0=>?_⟩;refine QW 4 (some 97) (.bool false) w9 rfl ZK ZK (by cases cb <;> go_simp) rfl (fun h=>absurd rfl h) ?_;refine Qu ZK ?_ _;generalize hA:Act.put _ _ _=A0;simp only[Qba,Qaa,Zu,Zv,Zw] at hA;subst hA;clear hS0 y0 y1 y2;go_wp2;go_roundw
    case rel=>exact⟨i+1,by omega,by go_num,HTX.o.below S_w9.o,HBX.o.below S_w9.o⟩
    case measure=>simp[intOf];omega
   by_cases e2:c=2
   ·subst e2;obtain⟨sb,u,hokb,hub,hgs,u0,u1,g0,g1⟩:=HL.o.bndAt hk;obtain⟨ua,un,uc,rfl⟩:=hub.shape;have HOB:=Zh hokb;have HUB:=Zh hub;have hbw:=hokb.width;have hbl:sb.words.length≤1000:=by obtain⟨k,h1,h2,h3⟩:=Qka hokb.form;have:=hokb.width;unfold Qj at h3;omega
    have SPS:=Zh (show ∀x,QZ bt x bt→Qi x (.slice ua un uc) sb.words→Calls Tryz.prog 25 #[.pointer (some ⟨bt,0,none⟩),.agg #[iv m,.slice ua un uc]] x (Qav bt bt x) from fun x h1 h2=>by
     have h:=QVu sb (.slice ua un uc) x h1 h2 ZO ZO hbl;unfold setV at h;rw[hbw] at h;exact h)
    have hgt:gb≠bt:=by have:=HL.o.old;omega
    clear hokb hub hbw hbl f0 f2 x0 x2;go_upto_region 13 with(fail)
    refine QK (S:=fun w'=>w'.cell? ⟨q,1,none⟩=some (.slice (some ⟨gb,0,none⟩) n bc)∧w'.cell? ⟨gb,k*2,none⟩=some (iv m)∧w'.cell? ⟨gb,k*2+1,none⟩=some (.slice ua un uc)) (st:=11) ZK ?_;obtain⟨wd,hwd⟩:=Ze (w5.drewN 1);rw[hwd];have HD:=Zh (show LwIn bt z q n m w1 wd s.bnds (QQu s).arcs (.slice (some ⟨gb,0,none⟩) n bc) (.slice (some ⟨g,0,none⟩) n cap) vs by rw[←hwd];exact HL.o.next (HL.o.tape.drewN 1) ((But.refl _ _).drewN 1));have HUD:=Zh (show Qi wd (.slice ua un uc) sb.words by rw[←hwd];exact HUB.o);have y1:=(QVa HD.o.cur).2.1;rw[show w5.cell? ⟨gb,k*2,none⟩=wd.cell? ⟨gb,k*2,none⟩ by rw[←hwd];rfl] at u0;rw[show w5.cell? ⟨gb,k*2+1,none⟩=wd.cell? ⟨gb,k*2+1,none⟩ by rw[←hwd];rfl] at u1;have hS0:(fun w':World=>w'.cell? ⟨q,1,none⟩=some (.slice (some ⟨gb,0,none⟩) n bc)∧w'.cell? ⟨gb,k*2,none⟩=some (iv m)∧w'.cell? ⟨gb,k*2+1,none⟩=some (.slice ua un uc)) wd:=⟨y1,u0,u1⟩;refine Yd 0 56 ?_;refine Yd 1 57 ?_;refine Yd 2 58 ?_;refine Yd 3 59 ?_;refine Yd 4 60 ?_;refine Yd 5 61 ?_;refine Yd 6 62 ?_;refine Yd 7 63 ?_;refine Yd 8 64 ?_;refine QP 9 (some 65) 25 #[.pointer (some ⟨bt,0,none⟩),.agg #[iv m,.slice ua un uc]] rfl ZK ZK ZK rfl ?_;refine(SPS.o _ HD.o.tape HUD.o).mono ?_;rintro e w6 ⟨s2,u2,rfl,hu2,t6,b6⟩;obtain⟨a2,n2,c2,rfl⟩:=hu2.shape;have HL6:=Zh (HD.o.next t6 b6);have HQ6:=Zh (HL6.o.bnd hk hu2);have hgd:gb<wd.heap.size:=by rw[←hwd];exact hgs
    have v0:=(World.cell?_of_block (a:=⟨gb,k*2,none⟩) (b6.block gb hgd hgt)).trans hS0.2.1;have v1:=(World.cell?_of_block (a:=⟨gb,k*2+1,none⟩) (b6.block gb hgd hgt)).trans hS0.2.2;have z1:=(QVa HL6.o.cur).2.1;obtain⟨_,_,_,_,_,_,_,g6,g7⟩:=HL6.o.bndAt hk;clear hS0 hu2 t6 b6;have hS0:(fun w':World=>w'.cell? ⟨q,1,none⟩=some (.slice (some ⟨gb,0,none⟩) n bc)∧w'.cell? ⟨gb,k*2,none⟩=some (iv m)∧w'.cell? ⟨gb,k*2+1,none⟩=some (.slice ua un uc)) w6:=⟨z1,v0,v1⟩;refine⟨.agg #[iv s2.width,.slice a2 n2 c2],rfl,fun _=>hS0,?_⟩;refine Yd 10 66 ?_;refine Qeb 11 none ((w6.setCell ⟨gb,k*2,none⟩ (iv s2.width)).setCell ⟨gb,k*2+1,none⟩ (.slice a2 n2 c2)) rfl ZK ZK ?rs2 rfl (fun h=>absurd rfl h) ?_
    case rs2=>go_simp
    refine Qu ZK ?_ _;generalize hA:Act.put _ _ _=A0;simp only[Qba,Qaa,Zu,Zv,Zw] at hA;subst hA;have HQX:=Zh (HQ6.o);obtain⟨wx,hwx⟩:=Ze ((w6.setCell ⟨gb,k*2,none⟩ (iv s2.width)).setCell ⟨gb,k*2+1,none⟩ (.slice a2 n2 c2));rw[hwx] at HQX ⊢;clear hwx;clear u0 u1 g0 g1 z1 v0 v1 g6 g7 hS0 y1 x1 hwd;go_upto_region 18 with(fail)
    obtain⟨sx,bx,ax,hq,hwa,hlx,htx,hbx⟩:=HQX.o;obtain⟨ba,bc2,rfl,-⟩:=hwa.bnds.cell;obtain⟨ca,cc2,rfl,-⟩:=hwa.arcs.cell;have HTX:=Zh htx;have HBX:=Zh hbx;have HQC:=Zh hq;have hbsx:Base.b≤wx.heap.size:=by have:=htx.lt;omega
    have KP:=Zh (show ∀x,Below wx.heap.size wx x→Calls Tryz.prog 28 #[webV sx (.slice ba sx.bnds.length bc2) (.slice ca sx.arcs.length cc2)] x (Qia (webB sx) x) from fun x b=>QOu sx _ _ x (hwa.below b) hlx (by have:=b.size;omega));have KR:=Zh (show ∀x,Below wx.heap.size wx x→Calls Tryz.prog 29 #[webV sx (.slice ba sx.bnds.length bc2) (.slice ca sx.arcs.length cc2)] x (Qia (webB sx) x) from fun x b=>QMu sx _ _ x (hwa.below b));obtain⟨y0,y1,y2⟩:=QVa hq;obtain⟨cb,hcb⟩:=Ze (webB sx);rw[hcb] at KP KR;clear hq hwa hlx htx hbx hcb HQX;refine Zr (fun w'=>w'.cell? ⟨q,0,none⟩=some (iv sx.width)∧w'.cell? ⟨q,1,none⟩=some (.slice ba sx.bnds.length bc2)∧w'.cell? ⟨q,2,none⟩=some (.slice ca sx.arcs.length cc2)) 4 (⟨y0,y1,y2⟩) fun hS0=>?_
    refine Yc 0 93 [1] ?_;refine Yc 2 95 [3] ?_;refine QP 1 (some 94) 28 #[webV sx (.slice ba sx.bnds.length bc2) (.slice ca sx.arcs.length cc2)] rfl ZK ZK ZK rfl ?_;refine(KP.o _ (Qp (Below.refl wx.heap.size wx) 1)).mono ?_;rintro e w8 ⟨rfl,b_w8⟩;have S_w8:=Zh (show Below wx.heap.size wx w8 from(Qp (Below.refl wx.heap.size wx) 1).trans (b_w8.mono (Qp (Below.refl wx.heap.size wx) 1).size));clear hS0 b_w8;refine⟨_,rfl,Zi (QVa (Qc HQC.o S_w8.o (Qb HQC.o))) fun hS0=>?_⟩;refine QP 3 (some 96) 29 #[webV sx (.slice ba sx.bnds.length bc2) (.slice ca sx.arcs.length cc2)] rfl ZK ZK ZK rfl ?_;refine(KR.o _ (S_w8.o)).mono ?_;rintro e w9 ⟨rfl,b_w9⟩;have S_w9:=Zh (show Below wx.heap.size wx w9 from(S_w8.o).trans (b_w9.mono (S_w8.o).size));clear hS0 b_w9;refine⟨_,rfl,Zi (QVa (Qc HQC.o S_w9.o (Qb HQC.o))) fun hS0=>?_⟩;refine QW 4 (some 97) (.bool false) w9 rfl ZK ZK (by cases cb <;> go_simp) rfl (fun h=>absurd rfl h) ?_;refine Qu ZK ?_ _;generalize hA:Act.put _ _ _=A0;simp only[Qba,Qaa,Zu,Zv,Zw] at hA;subst hA;clear hS0 y0 y1 y2;go_wp2;go_roundw
    case rel=>exact⟨i+1,by omega,by go_num,HTX.o.below S_w9.o,HBX.o.below S_w9.o⟩
    case measure=>simp[intOf];omega
   by_cases e3:c=3
   ·subst e3;have h1n:(1:Int)≤(n:Int):=by omega
    by_cases hc1:cap=1
    ·subst hc1;obtain rfl:n=1:=by omega
     go_upto_region 18 with(fail)
     have HQX:=Zh (HL.o.tail (some ⟨g,0,none⟩) (.inr rfl));obtain⟨wx,hwx⟩:=Ze (w5.setCell ⟨q,2,none⟩ (.slice (some ⟨g,0,none⟩) (1-1) (1-1)));rw[hwx] at HQX ⊢;clear hwx;clear x0 x1 x2 f0 f2;obtain⟨sx,bx,ax,hq,hwa,hlx,htx,hbx⟩:=HQX.o;obtain⟨ba,bc2,rfl,-⟩:=hwa.bnds.cell;obtain⟨ca,cc2,rfl,-⟩:=hwa.arcs.cell;have HTX:=Zh htx;have HBX:=Zh hbx;have HQC:=Zh hq;have hbsx:Base.b≤wx.heap.size:=by have:=htx.lt;omega
     have KP:=Zh (show ∀x,Below wx.heap.size wx x→Calls Tryz.prog 28 #[webV sx (.slice ba sx.bnds.length bc2) (.slice ca sx.arcs.length cc2)] x (Qia (webB sx) x) from fun x b=>QOu sx _ _ x (hwa.below b) hlx (by have:=b.size;omega));have KR:=Zh (show ∀x,Below wx.heap.size wx x→Calls Tryz.prog 29 #[webV sx (.slice ba sx.bnds.length bc2) (.slice ca sx.arcs.length cc2)] x (Qia (webB sx) x) from fun x b=>QMu sx _ _ x (hwa.below b));obtain⟨y0,y1,y2⟩:=QVa hq;obtain⟨cb,hcb⟩:=Ze (webB sx);rw[hcb] at KP KR;clear hq hwa hlx htx hbx hcb HQX;refine Zr (fun w'=>w'.cell? ⟨q,0,none⟩=some (iv sx.width)∧w'.cell? ⟨q,1,none⟩=some (.slice ba sx.bnds.length bc2)∧w'.cell? ⟨q,2,none⟩=some (.slice ca sx.arcs.length cc2)) 4 (⟨y0,y1,y2⟩) fun hS0=>?_
     refine Yc 0 93 [1] ?_;refine Yc 2 95 [3] ?_;refine QP 1 (some 94) 28 #[webV sx (.slice ba sx.bnds.length bc2) (.slice ca sx.arcs.length cc2)] rfl ZK ZK ZK rfl ?_;refine(KP.o _ (Qp (Below.refl wx.heap.size wx) 1)).mono ?_;rintro e w8 ⟨rfl,b_w8⟩;have S_w8:=Zh (show Below wx.heap.size wx w8 from(Qp (Below.refl wx.heap.size wx) 1).trans (b_w8.mono (Qp (Below.refl wx.heap.size wx) 1).size));clear hS0 b_w8;refine⟨_,rfl,Zi (QVa (Qc HQC.o S_w8.o (Qb HQC.o))) fun hS0=>?_⟩;refine QP 3 (some 96) 29 #[webV sx (.slice ba sx.bnds.length bc2) (.slice ca sx.arcs.length cc2)] rfl ZK ZK ZK rfl ?_;refine(KR.o _ (S_w8.o)).mono ?_;rintro e w9 ⟨rfl,b_w9⟩;have S_w9:=Zh (show Below wx.heap.size wx w9 from(S_w8.o).trans (b_w9.mono (S_w8.o).size));clear hS0 b_w9;refine⟨_,rfl,Zi (QVa (Qc HQC.o S_w9.o (Qb HQC.o))) fun hS0=>?_⟩;refine QW 4 (some 97) (.bool false) w9 rfl ZK ZK (by cases cb <;> go_simp) rfl (fun h=>absurd rfl h) ?_;refine Qu ZK ?_ _;generalize hA:Act.put _ _ _=A0;simp only[Qba,Qaa,Zu,Zv,Zw] at hA;subst hA;clear hS0 y0 y1 y2;go_wp2;go_roundw
     case rel=>exact⟨i+1,by omega,by go_num,HTX.o.below S_w9.o,HBX.o.below S_w9.o⟩
     case measure=>simp[intOf];omega
    ·have hc2:¬1=cap:=fun h=>hc1 h.symm
     go_upto_region 18 with(fail)
     have HQX:=Zh (HL.o.tail (some ⟨g,1,none⟩) (.inl rfl));obtain⟨wx,hwx⟩:=Ze (w5.setCell ⟨q,2,none⟩ (.slice (some ⟨g,1,none⟩) (n-1) (cap-1)));rw[hwx] at HQX ⊢;clear hwx;clear x0 x1 x2 f0 f2;obtain⟨sx,bx,ax,hq,hwa,hlx,htx,hbx⟩:=HQX.o;obtain⟨ba,bc2,rfl,-⟩:=hwa.bnds.cell;obtain⟨ca,cc2,rfl,-⟩:=hwa.arcs.cell;have HTX:=Zh htx;have HBX:=Zh hbx;have HQC:=Zh hq;have hbsx:Base.b≤wx.heap.size:=by have:=htx.lt;omega
     have KP:=Zh (show ∀x,Below wx.heap.size wx x→Calls Tryz.prog 28 #[webV sx (.slice ba sx.bnds.length bc2) (.slice ca sx.arcs.length cc2)] x (Qia (webB sx) x) from fun x b=>QOu sx _ _ x (hwa.below b) hlx (by have:=b.size;omega));have KR:=Zh (show ∀x,Below wx.heap.size wx x→Calls Tryz.prog 29 #[webV sx (.slice ba sx.bnds.length bc2) (.slice ca sx.arcs.length cc2)] x (Qia (webB sx) x) from fun x b=>QMu sx _ _ x (hwa.below b));obtain⟨y0,y1,y2⟩:=QVa hq;obtain⟨cb,hcb⟩:=Ze (webB sx);rw[hcb] at KP KR;clear hq hwa hlx htx hbx hcb HQX;refine Zr (fun w'=>w'.cell? ⟨q,0,none⟩=some (iv sx.width)∧w'.cell? ⟨q,1,none⟩=some (.slice ba sx.bnds.length bc2)∧w'.cell? ⟨q,2,none⟩=some (.slice ca sx.arcs.length cc2)) 4 (⟨y0,y1,y2⟩) fun hS0=>?_
     refine Yc 0 93 [1] ?_;refine Yc 2 95 [3] ?_;refine QP 1 (some 94) 28 #[webV sx (.slice ba sx.bnds.length bc2) (.slice ca sx.arcs.length cc2)] rfl ZK ZK ZK rfl ?_;refine(KP.o _ (Qp (Below.refl wx.heap.size wx) 1)).mono ?_;rintro e w8 ⟨rfl,b_w8⟩;have S_w8:=Zh (show Below wx.heap.size wx w8 from(Qp (Below.refl wx.heap.size wx) 1).trans (b_w8.mono (Qp (Below.refl wx.heap.size wx) 1).size));clear hS0 b_w8;refine⟨_,rfl,Zi (QVa (Qc HQC.o S_w8.o (Qb HQC.o))) fun hS0=>?_⟩;refine QP 3 (some 96) 29 #[webV sx (.slice ba sx.bnds.length bc2) (.slice ca sx.arcs.length cc2)] rfl ZK ZK ZK rfl ?_;refine(KR.o _ (S_w8.o)).mono ?_;rintro e w9 ⟨rfl,b_w9⟩;have S_w9:=Zh (show Below wx.heap.size wx w9 from(S_w8.o).trans (b_w9.mono (S_w8.o).size));clear hS0 b_w9;refine⟨_,rfl,Zi (QVa (Qc HQC.o S_w9.o (Qb HQC.o))) fun hS0=>?_⟩;refine QW 4 (some 97) (.bool false) w9 rfl ZK ZK (by cases cb <;> go_simp) rfl (fun h=>absurd rfl h) ?_;refine Qu ZK ?_ _;generalize hA:Act.put _ _ _=A0;simp only[Qba,Qaa,Zu,Zv,Zw] at hA;subst hA;clear hS0 y0 y1 y2;go_wp2;go_roundw
     case rel=>exact⟨i+1,by omega,by go_num,HTX.o.below S_w9.o,HBX.o.below S_w9.o⟩
     case measure=>simp[intOf];omega
   by_cases e4:c=4
   ·subst e4;clear f0 f2 x1;go_upto_region 17 with(fail)
    clear x0 x2;refine QK (S:=fun w'=>w'.cell? ⟨q,0,none⟩=some (iv m)∧w'.cell? ⟨q,2,none⟩=some (.slice (some ⟨g,0,none⟩) n cap)∧w'.cell? ⟨g,k,none⟩=some (.slice va r.length vc)) (st:=18) ZK ?_;obtain⟨wd,hwd⟩:=Ze (w5.drewN 1);rw[hwd];have HD:=Zh (show LwIn bt z q n m w1 wd s.bnds (QQu s).arcs (.slice (some ⟨gb,0,none⟩) n bc) (.slice (some ⟨g,0,none⟩) n cap) vs by rw[←hwd];exact HL.o.next (HL.o.tape.drewN 1) ((But.refl _ _).drewN 1));have hS0:(fun w':World=>w'.cell? ⟨q,0,none⟩=some (iv m)∧w'.cell? ⟨q,2,none⟩=some (.slice (some ⟨g,0,none⟩) n cap)∧w'.cell? ⟨g,k,none⟩=some (.slice va r.length vc)) wd:=⟨(QVa HD.o.cur).1,(QVa HD.o.cur).2.2,(HD.o.rowAt HV.o HR.o).1⟩;refine Yd 0 75 ?_;refine Yd 1 76 ?_;refine Yd 2 77 ?_;refine Yd 3 78 ?_;refine Yd 4 79 ?_;refine Yd 5 80 ?_;refine Yd 6 81 ?_;refine Yd 11 86 ?_;refine Yd 12 87 ?_;refine Yd 13 88 ?_;refine Yd 14 89 ?_;refine Yd 15 90 ?_;refine QP 7 (some 82) 27 #[.pointer (some ⟨bt,0,none⟩),iv m] rfl ZK ZK ZK rfl ?_;refine(QWh m ZO _ HD.o.tape).mono ?_;rintro e w6 ⟨t,gu,ku,cu,rfl,hot,hta,t6,b6⟩;have HL6:=Zh (HD.o.next t6 b6);have HT6:=Zh hta;have HO6:=Zh hot;clear hta hot t6 b6;clear hS0;refine⟨_,rfl,Zi ⟨(QVa HL6.o.cur).1,(QVa HL6.o.cur).2.2,(HL6.o.rowAt HV.o HR.o).1⟩ fun hS0=>?_⟩;refine QP 8 (some 83) 26 #[.pointer (some ⟨bt,0,none⟩),trV t gu ku cu] rfl ZK ZK ZK rfl ?_;refine(Qtv t HO6.o ZO gu ku cu _ HL6.o.tape HT6.o).mono ?_;rintro e w7 ⟨t2,gu2,ku2,cu2,rfl,hta,t7,b7⟩;obtain⟨ga,gn,gc,rfl⟩:=hta.gen.shape;obtain⟨ka,kn,kc,rfl⟩:=hta.kill.shape;obtain⟨ca,cc,rfl,-⟩:=hta.cops.cell;have HTA:=Zh hta;have HL7:=Zh (HL6.o.next t7 b7);clear hta t7 b7;clear hS0;have hS0:(fun w':World=>w'.cell? ⟨q,0,none⟩=some (iv m)∧w'.cell? ⟨q,2,none⟩=some (.slice (some ⟨g,0,none⟩) n cap)∧w'.cell? ⟨g,k,none⟩=some (.slice va r.length vc)) w7:=⟨(QVa HL7.o.cur).1,(QVa HL7.o.cur).2.2,(HL7.o.rowAt HV.o HR.o).1⟩;refine⟨.agg #[iv t2.gen.width,.slice ga gn gc,iv t2.kill.width,.slice ka kn kc,.slice ca t2.cops.length cc],rfl,fun _=>hS0,?_⟩;refine Yd 9 84 ?_;refine QW 10 (some 85) (.slice (some ⟨w7.heap.size,0,none⟩) 1 1) (w7.alloc (.cells #[iv 0,iv t2.gen.width,.slice ga gn gc,iv t2.kill.width,.slice ka kn kc,.slice ca t2.cops.length cc] ART)) rfl ZK ZK ?rv4 rfl (fun _=>?sv4) ?_
    case rv4=>go_simp
    case sv4=>
     exact⟨(QVa (Qz _ HL7.o.cur)).1,(QVa (Qz _ HL7.o.cur)).2.2,(World.cell?_of_block (a:=⟨g,k,none⟩) (Below.heap_alloc _ _ _ (HL7.o.rowAt HV.o HR.o).2.2.1)).trans (HL7.o.rowAt HV.o HR.o).1⟩
    obtain⟨_,⟨cg,hcg⟩,hgl,hr24,xss,how,hax⟩:=HL7.o.rowAt HV.o HR.o;have HAX:=Zh hax;have HOW:=Zh how;have HCG:=Zh hcg;clear hax how hcg hS0;refine QRe 16 (some 91) rfl ZK ZK rfl _ _ ARS rfl w7.heap.size ART _ 6 96 Tryz.underlying67 Qiv rfl ZD (.slice (some ⟨w7.heap.size,0,none⟩) 1 1) 1 _ (QHv (Nat.le_refl _) _ _ _ _ _ _ rfl) ZK (.slice va r.length vc) r.length xss.flatten ZK (Qg.same (Qg.of_owns HOW.o) Qf.alloc) (QPv HAX.o) (Qaw HAX.o) (by unfold maxLen;omega) ZO ZS ?_;intro g4 c4 w9 ho hg;have HB9:=Zh (show Below w7.heap.size w7 w9 from(Zb).trans (Below.of_grown hg (QHv (Nat.le_refl _) _ _ _ _ _ _ rfl) ZS));have HG:=Zh (HL7.o.place (i:=0) (t:=t2) HV.o HR.o HAX.o HTA.o ho HB9.o);clear ho hg;have v2:=(World.cell?_of_block (a:=⟨g,k,none⟩) HG.o.2.2).trans (HL7.o.rowAt HV.o HR.o).1;have fz:=(Qa (HG.o.2.2.trans HCG.o)).2 k;have HQX:=Zh HG.o.1;refine Zi ⟨(QVa HG.o.2.1).1,(QVa HG.o.2.1).2.2,v2⟩ fun hS0=>?_
    refine Yd 17 92 ?_;refine Qeb 18 none (w9.setCell ⟨g,k,none⟩ (.slice g4 (1+r.length) c4)) rfl ZK ZK ?rs4 rfl (fun h=>absurd rfl h) ?_
    case rs4=>go_simp
    refine Qu ZK ?_ _;generalize hA:Act.put _ _ _=A0;simp only[Qba,Qaa,Zu,Zv,Zw] at hA;subst hA;obtain⟨wx,hwx⟩:=Ze (w9.setCell ⟨g,k,none⟩ (.slice g4 (1+r.length) c4));rw[hwx] at HQX ⊢;clear hwx hS0 v2 fz hgl hr24  hwd;go_upto_region 18 with(fail)
    obtain⟨sx,bx,ax,hq,hwa,hlx,htx,hbx⟩:=HQX.o;obtain⟨ba,bc2,rfl,-⟩:=hwa.bnds.cell;obtain⟨ca,cc2,rfl,-⟩:=hwa.arcs.cell;have HTX:=Zh htx;have HBX:=Zh hbx;have HQC:=Zh hq;have hbsx:Base.b≤wx.heap.size:=by have:=htx.lt;omega
    have KP:=Zh (show ∀x,Below wx.heap.size wx x→Calls Tryz.prog 28 #[webV sx (.slice ba sx.bnds.length bc2) (.slice ca sx.arcs.length cc2)] x (Qia (webB sx) x) from fun x b=>QOu sx _ _ x (hwa.below b) hlx (by have:=b.size;omega));have KR:=Zh (show ∀x,Below wx.heap.size wx x→Calls Tryz.prog 29 #[webV sx (.slice ba sx.bnds.length bc2) (.slice ca sx.arcs.length cc2)] x (Qia (webB sx) x) from fun x b=>QMu sx _ _ x (hwa.below b));obtain⟨y0,y1,y2⟩:=QVa hq;obtain⟨cb,hcb⟩:=Ze (webB sx);rw[hcb] at KP KR;clear hq hwa hlx htx hbx hcb HQX;refine Zr (fun w'=>w'.cell? ⟨q,0,none⟩=some (iv sx.width)∧w'.cell? ⟨q,1,none⟩=some (.slice ba sx.bnds.length bc2)∧w'.cell? ⟨q,2,none⟩=some (.slice ca sx.arcs.length cc2)) 4 (⟨y0,y1,y2⟩) fun hS0=>?_
    refine Yc 0 93 [1] ?_;refine Yc 2 95 [3] ?_;refine QP 1 (some 94) 28 #[webV sx (.slice ba sx.bnds.length bc2) (.slice ca sx.arcs.length cc2)] rfl ZK ZK ZK rfl ?_;refine(KP.o _ (Qp (Below.refl wx.heap.size wx) 1)).mono ?_;rintro e w8 ⟨rfl,b_w8⟩;have S_w8:=Zh (show Below wx.heap.size wx w8 from(Qp (Below.refl wx.heap.size wx) 1).trans (b_w8.mono (Qp (Below.refl wx.heap.size wx) 1).size));clear hS0 b_w8;refine⟨_,rfl,Zi (QVa (Qc HQC.o S_w8.o (Qb HQC.o))) fun hS0=>?_⟩;refine QP 3 (some 96) 29 #[webV sx (.slice ba sx.bnds.length bc2) (.slice ca sx.arcs.length cc2)] rfl ZK ZK ZK rfl ?_;refine(KR.o _ (S_w8.o)).mono ?_;rintro e w9 ⟨rfl,b_w9⟩;have S_w9:=Zh (show Below wx.heap.size wx w9 from(S_w8.o).trans (b_w9.mono (S_w8.o).size));clear hS0 b_w9;refine⟨_,rfl,Zi (QVa (Qc HQC.o S_w9.o (Qb HQC.o))) fun hS0=>?_⟩;refine QW 4 (some 97) (.bool false) w9 rfl ZK ZK (by cases cb <;> go_simp) rfl (fun h=>absurd rfl h) ?_;refine Qu ZK ?_ _;generalize hA:Act.put _ _ _=A0;simp only[Qba,Qaa,Zu,Zv,Zw] at hA;subst hA;clear hS0 y0 y1 y2;go_wp2;go_roundw
    case rel=>exact⟨i+1,by omega,by go_num,HTX.o.below S_w9.o,HBX.o.below S_w9.o⟩
    case measure=>simp[intOf];omega
   obtain rfl:c=5:=by omega
   go_upto_region 18 with(fail)
   have HQX:=Zh (HL.o.same);obtain⟨wx,hwx⟩:=Ze w5;rw[hwx] at HQX ⊢;clear hwx;clear x0 x1 x2 f0 f2 e0 e1 e2 e3 e4;obtain⟨sx,bx,ax,hq,hwa,hlx,htx,hbx⟩:=HQX.o;obtain⟨ba,bc2,rfl,-⟩:=hwa.bnds.cell;obtain⟨ca,cc2,rfl,-⟩:=hwa.arcs.cell;have HTX:=Zh htx;have HBX:=Zh hbx;have HQC:=Zh hq;have hbsx:Base.b≤wx.heap.size:=by have:=htx.lt;omega
   have KP:=Zh (show ∀x,Below wx.heap.size wx x→Calls Tryz.prog 28 #[webV sx (.slice ba sx.bnds.length bc2) (.slice ca sx.arcs.length cc2)] x (Qia (webB sx) x) from fun x b=>QOu sx _ _ x (hwa.below b) hlx (by have:=b.size;omega));have KR:=Zh (show ∀x,Below wx.heap.size wx x→Calls Tryz.prog 29 #[webV sx (.slice ba sx.bnds.length bc2) (.slice ca sx.arcs.length cc2)] x (Qia (webB sx) x) from fun x b=>QMu sx _ _ x (hwa.below b));obtain⟨y0,y1,y2⟩:=QVa hq;obtain⟨cb,hcb⟩:=Ze (webB sx);rw[hcb] at KP KR;clear hq hwa hlx htx hbx hcb HQX;refine Zr (fun w'=>w'.cell? ⟨q,0,none⟩=some (iv sx.width)∧w'.cell? ⟨q,1,none⟩=some (.slice ba sx.bnds.length bc2)∧w'.cell? ⟨q,2,none⟩=some (.slice ca sx.arcs.length cc2)) 4 (⟨y0,y1,y2⟩) fun hS0=>?_
   refine Yc 0 93 [1] ?_;refine Yc 2 95 [3] ?_;refine QP 1 (some 94) 28 #[webV sx (.slice ba sx.bnds.length bc2) (.slice ca sx.arcs.length cc2)] rfl ZK ZK ZK rfl ?_;refine(KP.o _ (Qp (Below.refl wx.heap.size wx) 1)).mono ?_;rintro e w8 ⟨rfl,b_w8⟩;have S_w8:=Zh (show Below wx.heap.size wx w8 from(Qp (Below.refl wx.heap.size wx) 1).trans (b_w8.mono (Qp (Below.refl wx.heap.size wx) 1).size));clear hS0 b_w8;refine⟨_,rfl,Zi (QVa (Qc HQC.o S_w8.o (Qb HQC.o))) fun hS0=>?_⟩;refine QP 3 (some 96) 29 #[webV sx (.slice ba sx.bnds.length bc2) (.slice ca sx.arcs.length cc2)] rfl ZK ZK ZK rfl ?_;refine(KR.o _ (S_w8.o)).mono ?_;rintro e w9 ⟨rfl,b_w9⟩;have S_w9:=Zh (show Below wx.heap.size wx w9 from(S_w8.o).trans (b_w9.mono (S_w8.o).size));clear hS0 b_w9;refine⟨_,rfl,Zi (QVa (Qc HQC.o S_w9.o (Qb HQC.o))) fun hS0=>?_⟩;refine QW 4 (some 97) (.bool false) w9 rfl ZK ZK (by cases cb <;> go_simp) rfl (fun h=>absurd rfl h) ?_;refine Qu ZK ?_ _;generalize hA:Act.put _ _ _=A0;simp only[Qba,Qaa,Zu,Zv,Zw] at hA;subst hA;clear hS0 y0 y1 y2;go_wp2;go_roundw
   case rel=>exact⟨i+1,by omega,by go_num,HTX.o.below S_w9.o,HBX.o.below S_w9.o⟩
   case measure=>simp[intOf];omega
end
section
open Go.ChangeShapes Go.WideShapes Go.Deep Go.RowKit
section
variable {H:Type} {enc:TypeId×Value→H} {w:World} {base:Nat} {held:Bool} [Base]
theorem QDv {b o:Nat}{v:Value}(h:w.cell? ⟨b,o,none⟩=some v):b<w.heap.size∧∃c U fr,w.heap[b]? = some (.cells c U fr)∧∀k,w.cell? ⟨b,k,none⟩=c[k]?:=by
 unfold World.cell? at h
 cases hb:w.heap[b]? with
|none=>simp[hb] at h
|some q=>
  refine⟨Qb hb,?_⟩
  cases q <;> first|(refine⟨_,_,_,rfl,fun k=>?_⟩;simp[World.cell?,hb])|(simp[hb] at h)
theorem QFv {a:Addr}{v:Value}(h:w.cell? a=some v):∃b off,a=⟨b,off,none⟩:=by
 obtain⟨b,off,s⟩:=a;have hs:s=none:=by simpa using World.cell?_spot h
 exact⟨b,off,by rw[hs]⟩
theorem QQv (b off j:Nat):(⟨b,off,none⟩:Addr).add j=⟨b,off+j,none⟩:=by
 unfold Addr.add
 split
 ·rename_i h;subst h;rfl
 ·rfl
theorem Qev {T:TypeId}{sz len cap:Nat}{a:Addr}{xs:List Value}(hB:w.heap.size≤Base.b)(hl:len≤cap)(hm:cap≤maxLen)(hx:xs.length=len*sz)(hsz:0<sz)(h0:0<cap→∃v,w.cell? (a.add 0)=some v)(hc:∀i,i<xs.length→w.cell? (a.add i)=xs[i]?):Qg w T sz (.slice (some a) len cap) xs:=by
 by_cases h:cap=0
 ·subst h;obtain rfl:len=0:=by omega
  exact⟨0,0,hx,Nat.le_refl _,Nat.zero_le _,.inl ⟨⟨_,rfl⟩,rfl⟩⟩
 ·obtain⟨v,hv⟩:=h0 ZO;have ha:a.add 0=a:=by unfold Addr.add;simp
  rw[ha] at hv;obtain⟨b,off,rfl⟩:=QFv hv;obtain⟨hlt,c,U,fr,hb,hk⟩:=QDv hv;refine⟨len,cap,hx,hl,hm,.inr ⟨b,off,c,fr,rfl,Qic.old hb ZO,fun i hi=>?_⟩⟩;rw[←hc i hi,QQv,hk]
theorem Qiw {n:Int}(h:(Lit.int .u64 n).wf=true):0≤n∧n<18446744073709551616:=by
 simp[Lit.wf,IntKind.min,IntKind.max,IntKind.signed,IntKind.bits] at h;omega
theorem Qzv {fuel:Nat}{v:Value}{x:DataW H×List MemPlace}(hB:w.heap.size≤Base.b)(h:DataW.trod enc Tryz.prog w base (fun _=>true) held fuel 50 [v]=some x):∃ws,Qi w v ws:=by
 rcases open_slice1 Tryz.underlying50 ZK h with⟨hcs,_⟩|⟨a,len,cap,m,n,V,D,Pl,hcs,_,hl,hm,hmm,_,hx⟩
 ·injection hcs with hcs _
  subst hcs;exact⟨[],Qi.nil⟩
 ·injection hcs with hcs _
  subst hcs;simp only[if_true] at hmm;subst hmm;have hV:∀i,i<m→∃z:Int,V i=.int .u64 z∧0≤z∧z<18446744073709551616:=fun i hi=>by
   obtain⟨z,h1,_,h2⟩:=DataW.trod_int Tryz.underlying139 (hx i hi).2;injection h1 with h1 _
   exact⟨z,h1,Qiw h2⟩
  let f:Nat→Nat:=fun i=>match V i with|.int _ z=>z.toNat|_=>0
  have hf:∀i,i<m→V i=uv (f i)∧f i<18446744073709551616:=fun i hi=>by
   obtain⟨z,h1,h2,h3⟩:=hV i hi;show V i=.int .u64 ((f i:Nat):Int)∧_;have:f i=z.toNat:=by show(match V i with|.int _ z=>z.toNat|_=>0)=_;rw[h1]
   rw[this,h1];exact⟨by rw[Int.toNat_of_nonneg h2],by omega⟩
  refine⟨(List.range len).map f,Qev hB hl hm ZS ZO (fun h=>⟨_,(hx 0 h).1⟩) (fun i hi=>?_),fun y hy=>?_⟩
  ·simp at hi;rw[(hx i ZO).1,(hf i ZO).1];simp[hi]
  ·simp only[List.mem_map,List.mem_range] at hy;obtain⟨i,hi,rfl⟩:=hy;exact(hf i ZO).2
theorem Qhv {fuel:Nat}{cs:List Value}{x:DataW H×List MemPlace}(hB:w.heap.size≤Base.b)(h:DataW.trod enc Tryz.prog w base (fun _=>true) held fuel 52 cs=some x):
  ∃(s:QSet) (u:Value),cs=[.int .i64 s.width,u]∧Qi w u s.words:=by
 obtain⟨xs,n,_,_,hlen,hxl,hf⟩:=DataW.trod_struct Tryz.underlying52 h;have hlen2:cs.length=2:=hlen.trans ZK
 match cs,hlen2 with
|[c0,c1],_=>
  have h0:DataW.trod enc Tryz.prog w base (fun _=>true) held n 3 (List.take (Tryz.prog.cellsOf 3) (List.drop 0 [c0,c1]))=xs[0]?:=hf 0 _ rfl;have h1:DataW.trod enc Tryz.prog w base (fun _=>true) held n 50 (List.take (Tryz.prog.cellsOf 50) (List.drop 1 [c0,c1]))=xs[1]?:=hf 1 _ rfl;have k0:Tryz.prog.cellsOf 3=1:=by kernel_rfl
  have k1:Tryz.prog.cellsOf 50=1:=by kernel_rfl
  rw[k0] at h0;rw[k1] at h1;simp only[List.drop_zero,List.drop_succ_cons,List.take_succ_cons,List.take_zero] at h0 h1;have xl:xs.length=2:=hxl;rw[List.getElem?_eq_getElem ZO] at h0 h1;obtain⟨z,e0,_,_⟩:=DataW.trod_int Tryz.underlying3 h0;injection e0 with e0 _
  subst e0;obtain⟨ws,hw⟩:=Qzv hB h1;exact⟨⟨z,ws⟩,c1,rfl,hw⟩
theorem Qdv {c d:Value}(h:[c]=[d]):c=d:=by injection h
end
end
section
open Go.ChangeShapes Go.WideShapes Go.Deep Go.RowKit
section
variable {H:Type} {enc:TypeId×Value→H} {w:World} {base:Nat} {held:Bool} [Base] {α:Type} {E:Qlg α}
theorem QZu {T:TypeId}{fuel:Nat}{v:Value}{x:DataW H×List MemPlace}{Q:DataW H→α→Prop}(hB:w.heap.size≤Base.b)(hT:Tryz.prog.underlying T=some (.slice E.T))(hC:Tryz.prog.cellsOf E.T=E.sz)(op:∀(n:Nat) (cs:List Value) (y:DataW H×List MemPlace),DataW.trod enc Tryz.prog w base (fun _=>true) held n E.T cs=some y→∃a,E.C w cs a∧Q y.1 a)(h:DataW.trod enc Tryz.prog w base (fun _=>true) held fuel T [v]=some x):
  ∃l,Qoa E w v l∧((x.1=.nil∧l=[])∨∃Ds sp,x.1=.slice Ds sp∧Ds.length=l.length∧∀(i:Nat) (a:α),l[i]? = some a→∃d,Ds[i]? = some d∧Q d a):=by
 have hpos:=E.pos;rcases open_slice hT h with⟨hcs,hx⟩|⟨a,len,cap,m,n,D,Pl,hcs,_,hl,hm,hmm,hxx,hx⟩
 ·injection hcs with hcs _
  subst hcs;exact⟨[],Qoa.nil,.inl ⟨by rw[hx],rfl⟩⟩
 ·injection hcs with hcs _
  subst hcs;simp only[if_true] at hmm;subst hmm;rw[hC] at hx;have hy:∀i,i<m→∃(p:List Value×α),(E.C w p.1 p.2∧Q (D i) p.2)∧∀j,j<E.sz→w.cell? (a.add (i*E.sz+j))=p.1[j]?:=fun i hi=>by
   obtain⟨cs',h1,h2⟩:=hx i hi;obtain⟨r,hr⟩:=op _ _ _ h2;obtain⟨_,_,hat⟩:=World.cells?_some h1;exact⟨(cs',r),hr,fun j hj=>by rw[←Go.Deep.add_add];exact hat j hj⟩
  by_cases h0:len=0
  ·subst h0;refine⟨[],⟨[],Qev hB hl hm ZS hpos (fun h=>?_) (fun i hi=>by simp at hi),trivial⟩,.inr ⟨[],_,by rw[hxx];rfl,rfl,fun i a h=>by simp at h⟩⟩;obtain⟨p,⟨hp,_⟩,hc⟩:=hy 0 h;have:=hc 0 hpos;rw[Nat.zero_mul,Nat.zero_add] at this;have hlen:=E.len hp;rw[List.getElem?_eq_getElem ZO] at this;exact⟨_,this⟩
  obtain⟨p0,hp0,_⟩:=hy 0 ZO;obtain⟨f,hf⟩:∃f:Nat→List Value×α,∀i,i<m→(E.C w (f i).1 (f i).2∧Q (D i) (f i).2)∧∀j,j<E.sz→w.cell? (a.add (i*E.sz+j))=(f i).1[j]?:=by
   classical
   exact⟨fun i=>if hi:i<m then Classical.choose (hy i hi) else p0,fun i hi=>by simp only[dif_pos hi];exact Classical.choose_spec (hy i hi)⟩
  have hall:∀k,k≤len→All2 (E.C w) ((List.range k).map fun i=>(f i).1) ((List.range k).map fun i=>(f i).2):=by
   intro k
   induction k with
  |zero=>intro _;exact trivial
  |succ k ih=>
    intro hk;rw[List.range_succ,List.map_append,List.map_append];exact(ih ZO).append ⟨(hf k ZO).1.1,trivial⟩
  have hl8:∀y∈(List.range len).map (fun i=>(f i).1),y.length=E.sz:=(hall len (Nat.le_refl _)).eachR fun _ _ h=>E.len h
  have hfl:=Qed E.sz _ hl8;rw[List.length_map,List.length_range] at hfl;refine⟨(List.range len).map fun i=>(f i).2,⟨(List.range len).map fun i=>(f i).1,Qev hB hl hm hfl hpos (fun h=>?_) (fun i hi=>?_),hall len (Nat.le_refl _)⟩,.inr ⟨_,_,by rw[hxx],by simp,fun i a hi=>?_⟩⟩
  ·have h1:=(hf 0 h).2 0 hpos;have h2:=E.len (hf 0 h).1.1;rw[Nat.zero_mul,Nat.zero_add,List.getElem?_eq_getElem ZO] at h1;exact⟨_,h1⟩
  ·rw[hfl] at hi;have hd:i / E.sz<len:=Nat.div_lt_of_lt_mul (by rw[Nat.mul_comm];exact hi);have hmod:i % E.sz<E.sz:=Nat.mod_lt _ hpos;have hdm:i / E.sz*E.sz+i % E.sz=i:=by rw[Nat.mul_comm];exact Nat.div_add_mod _ _
   have h1:=(hf (i / E.sz) ZO).2 (i % E.sz) hmod;rw[hdm] at h1;rw[h1];have h2:=QNe E.sz _ hl8 (i / E.sz) (i % E.sz) (by rw[List.length_map,List.length_range];exact hd) hmod;rw[hdm] at h2;rw[h2];simp
  ·rw[List.getElem?_map] at hi;have hlt:i<len:=by
    rcases Nat.lt_or_ge i len with h|h
    ·exact h
    ·rw[List.getElem?_eq_none (by simpa using h)] at hi;cases hi
   rw[List.getElem?_range hlt] at hi;simp only[Option.map_some,Option.some.injEq] at hi;refine⟨D i,by rw[List.getElem?_map,List.getElem?_range hlt];rfl,?_⟩;rw[←hi];exact(hf i ZO).1.2
theorem QXv:Tryz.prog.cellsOf 3=1:=by kernel_rfl
theorem Qgw:Tryz.prog.cellsOf ST=2:=by kernel_rfl
theorem QYv:Tryz.prog.cellsOf CT=2:=by kernel_rfl
theorem k_tr:Tryz.prog.cellsOf FNA=5:=by kernel_rfl
theorem Qhw:Tryz.prog.cellsOf ART=6:=by kernel_rfl
theorem Qlw:Tryz.prog.cellsOf ARS=1:=by kernel_rfl
theorem Qjw:Tryz.prog.cellsOf 34=1:=by kernel_rfl
theorem QZv:Tryz.prog.cellsOf 53=1:=by kernel_rfl
theorem Qkw:Tryz.prog.cellsOf 61=1:=by kernel_rfl
theorem QKv {fuel:Nat}{cs:List Value}{x:DataW H×List MemPlace}(h:DataW.trod enc Tryz.prog w base (fun _=>true) held fuel CT cs=some x):∃c:Cp,cs=copV c:=by
 obtain⟨xs,n,_,_,hlen,hxl,hf⟩:=DataW.trod_struct Tryz.underlying119 h;have hlen2:cs.length=2:=hlen.trans QYv
 match cs,hlen2 with
|[c0,c1],_=>
  have h0:DataW.trod enc Tryz.prog w base (fun _=>true) held n 3 (List.take (Tryz.prog.cellsOf 3) (List.drop 0 [c0,c1]))=xs[0]?:=hf 0 _ rfl;have h1:DataW.trod enc Tryz.prog w base (fun _=>true) held n 3 (List.take (Tryz.prog.cellsOf 3) (List.drop 1 [c0,c1]))=xs[1]?:=hf 1 _ rfl;rw[QXv] at h0 h1;simp only[List.drop_zero,List.drop_succ_cons,List.take_succ_cons,List.take_zero] at h0 h1;have xl:xs.length=2:=hxl;rw[List.getElem?_eq_getElem ZO] at h0 h1;obtain⟨z,e0,_,_⟩:=DataW.trod_int Tryz.underlying3 h0;obtain⟨y,e1,_,_⟩:=DataW.trod_int Tryz.underlying3 h1;obtain rfl:=Qdv e0;obtain rfl:=Qdv e1;exact⟨(z,y),rfl⟩
def cpEl:Qlg Cp where
 T:=CT
 sz:=2
 pos:=by omega
 C:=fun _ cs c=>cs=copV c
 inner:=[]
 len:=fun {w cs x} h=>by subst h;rfl
 keep:=fun {w w' cs x} _ h=>h
theorem Qpv {v:Value}{l:List Cp}(h:Qoa cpEl w v l):QKc w v l:=by
 obtain⟨xss,h1,h2⟩:=h;have:∀(xss:List (List Value)) (l:List Cp),All2 (cpEl.C w) xss l→xss=l.map copV:=fun xss=>by
  induction xss with
 |nil=>intro l h;cases l with|nil=>rfl|cons a r=>cases h
 |cons a r ih=>intro l h;cases l with|nil=>cases h|cons b t=>rw[List.map_cons,←ih t h.2];congr 1;exact h.1
 rw[this xss l h2] at h1;exact h1
theorem QLv {fuel:Nat}{v:Value}{x:DataW H×List MemPlace}(hB:w.heap.size≤Base.b)(h:DataW.trod enc Tryz.prog w base (fun _=>true) held fuel 53 [v]=some x):∃l,QKc w v l:=by
 obtain⟨l,hl,-⟩:=QZu (E:=cpEl) (Q:=fun _ _=>True) hB Tryz.underlying53 QYv (fun n cs y h=>by obtain⟨c,hc⟩:=QKv h;exact⟨c,hc,trivial⟩) h;exact⟨l,Qpv hl⟩
theorem Qdw {fuel:Nat}{cs:List Value}{x:DataW H×List MemPlace}(hB:w.heap.size≤Base.b)(h:DataW.trod enc Tryz.prog w base (fun _=>true) held fuel FNA cs=some x):∃t,trEl.C w cs t:=by
 obtain⟨xs,n,_,_,hlen,hxl,hf⟩:=DataW.trod_struct Tryz.underlying55 h;have hlen2:cs.length=5:=hlen.trans k_tr
 match cs,hlen2 with
|[c0,c1,c2,c3,c4],_=>
  have h0:DataW.trod enc Tryz.prog w base (fun _=>true) held n ST (List.take (Tryz.prog.cellsOf ST) (List.drop 0 [c0,c1,c2,c3,c4]))=xs[0]?:=hf 0 _ rfl;have h1:DataW.trod enc Tryz.prog w base (fun _=>true) held n ST (List.take (Tryz.prog.cellsOf ST) (List.drop 2 [c0,c1,c2,c3,c4]))=xs[1]?:=hf 1 _ rfl;have h2:DataW.trod enc Tryz.prog w base (fun _=>true) held n 53 (List.take (Tryz.prog.cellsOf 53) (List.drop 4 [c0,c1,c2,c3,c4]))=xs[2]?:=hf 2 _ rfl;rw[Qgw] at h0 h1;rw[QZv] at h2;simp only[List.drop_zero,List.drop_succ_cons,List.take_succ_cons,List.take_zero] at h0 h1 h2;have xl:xs.length=3:=hxl;rw[List.getElem?_eq_getElem ZO] at h0 h1 h2;obtain⟨g,gu,e0,hg⟩:=Qhv hB h0;obtain⟨k,ku,e1,hk⟩:=Qhv hB h1;obtain⟨l,hl⟩:=QLv hB h2;injection e0 with e0 e0'
  injection e0' with e0' _
  injection e1 with e1 e1'
  injection e1' with e1' _
  subst e0 e0' e1 e1';exact⟨⟨g,k,l⟩,c1,c3,c4,rfl,hg,hk,hl⟩
theorem QVv {fuel:Nat}{cs:List Value}{x:DataW H×List MemPlace}(hB:w.heap.size≤Base.b)(h:DataW.trod enc Tryz.prog w base (fun _=>true) held fuel ART cs=some x):∃a,QKu.C w cs a:=by
 obtain⟨xs,n,_,_,hlen,hxl,hf⟩:=DataW.trod_struct Tryz.underlying70 h;have hlen2:cs.length=6:=hlen.trans Qhw
 match cs,hlen2 with
|[c0,c1,c2,c3,c4,c5],_=>
  have h0:DataW.trod enc Tryz.prog w base (fun _=>true) held n 3 (List.take (Tryz.prog.cellsOf 3) (List.drop 0 [c0,c1,c2,c3,c4,c5]))=xs[0]?:=hf 0 _ rfl;have h1:DataW.trod enc Tryz.prog w base (fun _=>true) held n FNA (List.take (Tryz.prog.cellsOf FNA) (List.drop 1 [c0,c1,c2,c3,c4,c5]))=xs[1]?:=hf 1 _ rfl;rw[QXv] at h0;rw[k_tr] at h1;simp only[List.drop_zero,List.drop_succ_cons,List.take_succ_cons,List.take_zero] at h0 h1;have xl:xs.length=2:=hxl;rw[List.getElem?_eq_getElem ZO] at h0 h1;obtain⟨z,e0,_,_⟩:=DataW.trod_int Tryz.underlying3 h0;obtain rfl:=Qdv e0;obtain⟨t,gu,ku,cu,e,ht⟩:=Qdw hB h1;injection e with q0 e
  injection e with q1 e
  injection e with q2 e
  injection e with q3 e
  injection e with q4 _
  subst q0 q1 q2 q3 q4;exact⟨(z,t),_,_,_,rfl,ht⟩
abbrev QIv (t:TypeId)(d:DataW H):Prop:=∀k∈d.weights Tryz.prog t,k≤reachBytes
theorem Qlv {t:TypeId}:∀{l:List (DataW H)} {i:Nat} {d:DataW H},(∀k∈DataW.weightsAll Tryz.prog t l,k≤reachBytes)→l[i]? = some d→QIv t d
|[],i,d,_,h=>by simp at h
|x::r,0,d,hk,h=>by
  obtain rfl:x=d:=by simpa using h
  exact fun k hm=>hk k (by unfold DataW.weightsAll;exact List.mem_append_left _ hm)
|x::r,i+1,d,hk,h=>Qlv (l:=r) (i:=i) (fun k hm=>hk k (by unfold DataW.weightsAll;exact List.mem_append_right _ hm)) (by simpa using h)
theorem b_arc:Tryz.prog.bytesOf ART=96:=by kernel_rfl
theorem QMv {fuel:Nat}{v:Value}{x:DataW H×List MemPlace}(hB:w.heap.size≤Base.b)(h:DataW.trod enc Tryz.prog w base (fun _=>true) held fuel ARS [v]=some x):∃l,Qoa QKu w v l∧(QIv ARS x.1→l.length*96≤reachBytes):=by
 obtain⟨l,hl,hx⟩:=QZu (E:=QKu) (Q:=fun _ _=>True) hB Tryz.underlying67 Qhw (fun n cs y h=>by obtain⟨c,hc⟩:=QVv hB h;exact⟨c,hc,trivial⟩) h;refine⟨l,hl,fun hL=>?_⟩;rcases hx with⟨_,rfl⟩|⟨Ds,sp,e,hlen,_⟩
 ·simp
 ·rw[e] at hL;have:=hL ((Ds.length+sp.length)*Tryz.prog.bytesOf ART) (by unfold DataW.weights;rw[Tryz.underlying67];exact List.mem_cons_self);rw[b_arc,hlen] at this;omega
theorem QUv {fuel:Nat}{cs:List Value}{x:DataW H×List MemPlace}(hB:w.heap.size≤Base.b)(h:DataW.trod enc Tryz.prog w base (fun _=>true) held fuel WBT cs=some x):
  ∃(s:WebS) (bv av:Value),cs=[iv s.width,bv,av]∧QUu w bv av s∧(QIv WBT x.1→∀l∈s.arcs,l.length*96≤reachBytes):=by
 obtain⟨xs,n,_,hx1,hlen,hxl,hf⟩:=DataW.trod_struct Tryz.underlying63 h;have hlen2:cs.length=3:=hlen.trans ZK
 match cs,hlen2 with
|[c0,c1,c2],_=>
  have h0:DataW.trod enc Tryz.prog w base (fun _=>true) held n 3 (List.take (Tryz.prog.cellsOf 3) (List.drop 0 [c0,c1,c2]))=xs[0]?:=hf 0 _ rfl;have h1:DataW.trod enc Tryz.prog w base (fun _=>true) held n 34 (List.take (Tryz.prog.cellsOf 34) (List.drop 1 [c0,c1,c2]))=xs[1]?:=hf 1 _ rfl;have h2:DataW.trod enc Tryz.prog w base (fun _=>true) held n 61 (List.take (Tryz.prog.cellsOf 61) (List.drop 2 [c0,c1,c2]))=xs[2]?:=hf 2 _ rfl;rw[QXv] at h0;rw[Qjw] at h1;rw[Qkw] at h2;simp only[List.drop_zero,List.drop_succ_cons,List.take_succ_cons,List.take_zero] at h0 h1 h2;obtain⟨a0,a1,a2,rfl⟩:∃a0 a1 a2,xs=[a0,a1,a2]:=by
   have xl:xs.length=3:=hxl
   match xs,xl with
  |[a0,a1,a2],_=>exact⟨_,_,_,rfl⟩
  simp only[List.getElem?_cons_zero,List.getElem?_cons_succ] at h0 h1 h2;obtain⟨z,e0,_,_⟩:=DataW.trod_int Tryz.underlying3 h0;obtain rfl:=Qdv e0;obtain⟨bs,hb,-⟩:=QZu (E:=Qsa) (Q:=fun _ _=>True) hB Tryz.underlying34 Qgw (fun n cs y h=>by obtain⟨s,u,e,hu⟩:=Qhv hB h;exact⟨s,⟨u,e,hu⟩,trivial⟩) h1;obtain⟨R,hR,hq⟩:=QZu (E:=QWu) (Q:=fun d (l:List (Int×Qw))=>QIv ARS d→l.length*96≤reachBytes) hB Tryz.underlying61 Qlw (fun n cs y h=>by
   obtain⟨c,rfl⟩:∃c,cs=[c]:=by
    rcases open_slice Tryz.underlying67 h with⟨e,_⟩|⟨_,_,_,_,_,_,_,e,_⟩ <;> exact⟨_,e⟩
   obtain⟨l,hl,hw⟩:=QMv hB h;exact⟨l,⟨c,rfl,hl⟩,hw⟩) h2
  refine⟨⟨z,bs,R⟩,c1,c2,rfl,⟨hb,hR⟩,fun hL l hl=>?_⟩;rcases hq with⟨_,hnil⟩|⟨Ds,sp,e,hlen,hq⟩
  ·rw[show R=[] from hnil] at hl;cases hl
  ·obtain⟨i,hi⟩:=List.mem_iff_getElem?.1 hl;obtain⟨d,hd,hw⟩:=hq i l hi;refine hw (Qlv (l:=Ds) (i:=i) (fun k hk=>hL k ?_) hd);have e1:k∈DataW.weights Tryz.prog 61 a2.1:=by
    rw[e];unfold DataW.weights;rw[Tryz.underlying61];exact List.mem_cons_of_mem _ (List.mem_append_left _ hk)
   rw[hx1];show k∈DataW.weights Tryz.prog WBT (.agg [a0.1,a1.1,a2.1]);rw[DataW.weights,Tryz.underlying63];show k∈DataW.weightsEach Tryz.prog [3,34,61] [a0.1,a1.1,a2.1];simp only[DataW.weightsEach,List.mem_append];exact .inr (.inr (.inl e1))
end
end
section
open Go
theorem Qwl {H:Type}{enc:TypeId×Value→H}{P:Program}{w:World}{base:Nat}{sp:Nat→Bool}{held:Bool}{fuel:Nat}{t e u:TypeId}{n m:Nat}{k:IntKind}{zss:List (List Int)}{cs:List Value}{p:List MemPlace}(ht:P.underlying t=some (.array n e))(he:P.underlying e=some (.array m u))(hu:P.underlying u=some (.int k))(hcu:P.cellsOf u=1)(hce:P.cellsOf e=m)(hct:P.cellsOf t=n*m)(h:DataW.trod enc P w base sp held fuel t cs=some (.agg (zss.map (Lib.tabData k)),p))(i:Nat)(zs:List Int)(hi:zss[i]? = some zs):(cs.drop (i*m)).take m=zs.map fun z=>Value.int k z:=by
 cases fuel with
|zero=>simp[DataW.trod] at h
|succ fuel=>
  simp only[DataW.trod,ht,hce,hct] at h
  split at h
  ·rename_i hl;obtain⟨xs,hm,hx⟩:=Option.map_eq_some_iff.1 h;have hxs:xs.map (·.1)=zss.map (Lib.tabData k):=by
    have:=congrArg Prod.fst hx
    simpa using this
   have hxl:xs.length=n:=by simpa using Lib.mapM_length hm
   have hin:i<n:=by
    have h1:=(List.getElem?_eq_some_iff.1 hi).1;have h2:=congrArg List.length hxs;simp at h2;omega
   obtain⟨b,hb,hf⟩:=Lib.mapM_at hm i i (by simp[hin]);have h3:=congrArg (·[i]?) hxs;simp only[List.getElem?_map,hb,hi,Option.map_some,Option.some.injEq] at h3;obtain⟨b1,b2⟩:=b;subst h3;exact Lib.cells_of_tab he hu hcu hce hf
  ·cases h
end
section
open Go.ChangeShapes Go.WideShapes Go.ChangeAt Go.WideMaps Go.WideElems Go.ChangeMaps Go.Deep Go.RowKit
theorem own:ownKnob Tryz.prog.godebug=none:=by kernel_rfl
theorem gTz:Tryz.prog.globalNamed "math/bits.deBruijn64tab" = some 1:=by kernel_rfl
theorem tTz:(Tryz.prog.globals[1]?).map (·.type)=some 263:=by kernel_rfl
theorem gKw:Tryz.prog.globalNamed "flowquery/lexer.keywords" = some 2:=by kernel_rfl
theorem tKw:(Tryz.prog.globals[2]?).map (·.type)=some 86:=by kernel_rfl
theorem gEf:Tryz.prog.globalNamed "flowquery/equations.effects" = some 0:=by kernel_rfl
theorem tEf:(Tryz.prog.globals[0]?).map (·.type)=some 170:=by kernel_rfl
theorem cU8:Tryz.prog.cellsOf 5=1:=by kernel_rfl
theorem cTz:Tryz.prog.cellsOf 263=64:=by kernel_rfl
theorem cStr:Tryz.prog.cellsOf 9=1:=by kernel_rfl
theorem cInt:Tryz.prog.cellsOf 3=1:=by kernel_rfl
theorem c5:Tryz.prog.cellsOf 169=5:=by kernel_rfl
theorem cEf:Tryz.prog.cellsOf 170=10*5:=by kernel_rfl
def QAm:List (String×DataW Unit):=[("math/bits.deBruijn64tab",Rows.laid_math_bits_deBruijn64tab),("flowquery/lexer.keywords",Rows.laid_flowquery_lexer_keywords),("flowquery/equations.effects",Rows.laid_flowquery_equations_effects)]
def tz64:List Int:=Lib.deBruijn64tab.map Int.ofNat
theorem d64:(Rows.laid_math_bits_deBruijn64tab:DataW Unit)=Lib.tabData .u8 tz64:=rfl
def effL:List (List Int):=(List.range 10).map fun o=>(List.range 5).map fun k=>(effN o k:Int)
theorem dEf:(Rows.laid_flowquery_equations_effects:DataW Unit)=.agg (effL.map (Lib.tabData .i64)):=rfl
theorem Qwh {w:World}{b o:Nat}{v:Value}(h:w.cell? ⟨b,o,none⟩=some v):b<w.heap.size:=by
 rcases Nat.lt_or_ge b w.heap.size with h'|h'
 ·exact h'
 ·simp[World.cell?,Array.getElem?_eq_none h'] at h
theorem QHs (os:Os)(args:Array Value):laidMetH Tryz.prog QAm ((World.doorLaid Tryz.prog 400 os).forCall (fun _ _=>0) ⟨#[],args,[]⟩).memory:=
 laidMetH_of_parts3 (fuel:=8) (laidMet_of_run' 8 ZK ZK) ZK ZK
theorem Qzt [Base]{W:World}(h:laidMetH Tryz.prog QAm W)(hbs:Base.b≤W.heap.size):KwIn W.heap.size W∧Qmg W.heap.size W∧TzIn W.heap.size W:=by
 rw[MakeChecks.laidMetH_plain _ _ _ ZK] at h;obtain⟨ps,h,_⟩:=h;obtain⟨g0,t0,cs0,f0,p0,q0,hg0,ht0,hv0,hd0,h,-⟩:=h;obtain⟨g1,t1,cs1,f1,p1,q1,hg1,ht1,hv1,hd1,h,-⟩:=h;obtain⟨g2,t2,cs2,f2,p2,q2,hg2,ht2,hv2,hd2,h,-⟩:=h;obtain rfl:=Option.some.inj (gTz.symm.trans hg0);obtain rfl:=Option.some.inj (gKw.symm.trans hg1);obtain rfl:=Option.some.inj (gEf.symm.trans hg2);obtain rfl:=Option.some.inj (tTz.symm.trans ht0);obtain rfl:=Option.some.inj (tKw.symm.trans ht1);obtain rfl:=Option.some.inj (tEf.symm.trans ht2);rw[d64] at hd0;rw[dEf] at hd2;have e0:=Lib.cells_of_tab Tryz.underlying263 Tryz.underlying5 cU8 cTz hd0;have k0:Lib.TabIs Tryz.prog W "math/bits.deBruijn64tab" .u8 tz64:=by unfold Lib.TabIs;rw[hv0,←e0]
 have ke:∀o k,o<10→k<5→W.cell? ⟨0,o*5+k,none⟩=some (iv (effN o k)):=fun o k ho hk=>by
  have h1:=Qwl Tryz.underlying170 Tryz.underlying169 Tryz.underlying3 cInt c5 cEf hd2 o ((List.range 5).map fun k=>(effN o k:Int)) (by unfold effL;simp[ho]);have h2:=congrArg (·[k]?) h1;simp only[List.getElem?_take,List.getElem?_drop,hk,if_true,List.getElem?_map,List.getElem?_range hk,Option.map_some] at h2;have h3:=World.var?_cell hg2 hv2 (o*5+k);rw[h3]
  simpa using h2
 refine⟨?_,⟨by have:=Qwh (ke 0 0 ZO ZO);omega,hbs,ke⟩,⟨by have:=Qwh (k0.cell gTz 0 ZD);omega,hbs,fun j hj=>?_⟩⟩;rotate_left
 ·rw[k0.cell gTz j (by unfold tz64;rw[List.length_map];exact hj)]
  congr 2
  unfold tz64;simp[List.getD,hj]
 rcases open_strs Tryz.underlying86 Tryz.underlying9 cStr hd1 with⟨_,hx⟩|⟨a,len,cap,m,Sx,hcs,_,hl1,hl2,hm,hx,hcell⟩
 ·simp[Rows.laid_flowquery_lexer_keywords] at hx
 simp only[Prod.mk.injEq] at hx;have hK:kws.map (fun l=>(DataW.lit (.string l):DataW Unit))=(List.range len).map fun i=>.lit (.string (Sx i).data.toList):=by
  have h1:=hx.1;have h2:(Rows.laid_flowquery_lexer_keywords:DataW Unit)=.slice (kws.map fun l=>.lit (.string l)) []:=rfl;rw[h2] at h1;injection h1 with h1 _
 have hlen:len=11:=by
  have:=congrArg List.length hK;simp at this;rw[←this];rfl
 have hm2:len≤m:=by rw[hm];split <;> omega
 have hc0:W.cell? ⟨2,0,none⟩=some (.slice (some a) len cap):=by
  have:=World.var?_cell hg1 hv1 0;rw[Array.eq_one_of_toList hcs] at this
  simpa using this
 obtain⟨b,off,spot⟩:=a;have h00:=(hcell 0 ZO).1;have hspot:spot=none:=by simpa [Addr.add] using World.cell?_spot h00
 subst hspot;subst hlen;refine⟨⟨by have:=Qwh hc0;omega,hbs⟩,b,off,cap,?_,hc0,fun k s hk=>⟨b,off,rfl,?_⟩⟩
 ·rw[add_plain] at h00;exact Qwh h00
 ·have hk2:k<11:=by
   have:=(List.getElem?_eq_some_iff.1 hk).1;exact this
  have h1:=congrArg (·[k]?) hK;simp only[List.getElem?_map,hk,List.getElem?_range hk2,Option.map_some,Option.some.injEq,DataW.lit.injEq,Lit.string.injEq] at h1;have h2:=(hcell k ZO).1;rw[add_plain] at h2;rw[h2,h1]
end
end Go.Proofs.YtijekimobahgpaaGreatDoor
namespace Go.Proofs.YtijekimobahgpaaGreatDoor
open Go.ChangeShapes Go.WideShapes Go.ChangeAt Go.WideMaps Go.WideElems Go.ChangeMaps Go.Deep Go.RowKit
theorem Qov {H:Type}{enc:TypeId×Value→H}{a:Assume}{C:Checked}{os:Os}{f:FuncId}{fn:Func}{s:ChangeSpec}{conds:List PathCond}{apart fresh handsOn again:Bool}{X:World→Array Value→Prop}(hX:∀(w w':World) (args:Array Value),w.heap=w'.heap→X w args→X w' args)(own:ownKnob C.prog.godebug=none)(started:os.Started)(noInit:C.prog.inits.idxOf? f=none)(hfn:C.prog.funcs[f]? = some fn)(witness:∃(w:World) (tape:Go.Tape) (i:Input),w.os=os∧(w.forCall tape i).Shaped C.prog∧i.vars=[]∧Input.okWide C.prog (w.forCall tape i) .any w.heap.size f i ∧
   ((s.pre enc C.prog fn conds apart (w.forCall tape i).memory i.args∧X (w.forCall tape i).memory i.args)∧sizedMet enc C.prog fn (OpenSpec.ofChange s) apart (w.forCall tape i).memory i.args)∧a.holds C.prog (lone (Frame.enter C.prog f i.args .normal) [] (w.forCall tape i)))(contract:∀(W:World) (base:Nat) (args:Array Value) (ds gs:List (DataW H)) (before:List MemPlace),
   (∀(j:Nat) t v,fn.params[j]? = some t→args[j]? = some v→Value.okWide C.prog W .any base t v) →
   DataW.Whole enc C.prog fn.params.toList s.vars apart W args.toList ds gs before→X W args→W.ShapedOpen C.prog→(DataW.weightsEach C.prog (fn.params.toList++s.plain.varTypes C.prog) (ds++gs)).all (·≤reachBytes)=true →
   Calls C.prog f args W fun e W'=>∃v,e=.returned v∧s.post enc C.prog fn apart fresh handsOn again W args v W'):
  ReturnsInHanded a C os f .any (fun w args=>(s.pre enc C.prog fn conds apart w args∧X w args)∧sizedMet enc C.prog fn (OpenSpec.ofChange s) apart w args) (s.post enc C.prog fn apart fresh handsOn again):=by
 refine returnsInHanded_of_calls own started noInit witness ?_;intro w tape i _ hsh _ hok hpre _;obtain⟨_,_,_,fn',hfn',_,_,_,_,hval⟩:=hok;obtain rfl:fn'=fn:=Option.some.inj (hfn'.symm.trans hfn);obtain⟨⟨⟨ds,gs,before,hw,_⟩,hx⟩,hz⟩:=hpre;refine(contract (w.forCall tape i) w.heap.size i.args ds gs before hval (DataW.Whole.of_heap (w':=w.forCall tape i) (by rfl) hw) (hX _ _ _ (by rfl) hx) hsh (hz.weights hw)).mono fun e W' ⟨v,he,hp⟩=>?_
 subst he;exact ChangeSpec.post_blind hp
theorem Qmw {c:Array Value}{l:List Value}(h:(Value.agg c).cells.toList=l):Value.agg c=.agg l.toArray:=by
 have h:c.toList=l:=h;rw[←h]
end Go.Proofs.YtijekimobahgpaaGreatDoor
namespace Go.Proofs.YtijekimobahgpaaGreatDoor.equationsWebs
open Go.ChangeShapes Go.WideShapes Go.ChangeAt Go.WideMaps Go.WideElems Go.ChangeMaps Go.Deep Go.RowKit
theorem Qsu (os:Os)(started:os.Started)(H:Type)(enc:TypeId×Value→H):
  ReturnsInHanded {} Tryz.checked os 5 .any (fun w args=>(Rows.equationsWebsSpec.pre enc Tryz.prog Tryz.f5 [] false w args∧laidMetH Tryz.prog QAm w)∧sizedMet enc Tryz.prog Tryz.f5 (OpenSpec.ofChange Rows.equationsWebsSpec) false w args)
   (Rows.equationsWebsSpec.post enc Tryz.prog Tryz.f5 false true false false):=by
 refine Qov (C:=Tryz.checked) (X:=fun w _=>laidMetH Tryz.prog QAm w) (fun _ _ _ hh h=>h.of_heap hh) own started ZK Tryz.func5
  (ChangeSpec.witness_shaped (enc:=enc) (C:=Tryz.checked) (os:=os) (X:=fun w _=>laidMetH Tryz.prog QAm w) false (World.doorLaid Tryz.prog 400 os) #[.slice none 0 0,.agg #[.int .i64 0,.slice none 0 0,.slice none 0 0]] 8 rfl (World.shaped_of_RefB ZK ZK) ZK ZK ZK (QHs os _)) ?_
 intro W base args ds gs before hval0 hW hL _ hsw;have hval:∀(j:Nat) t v,Tryz.f5.params[j]? = some t→args[j]? = some v→Value.okWide Tryz.prog W .any base t v:=hval0;have hW':=hW;have hlt:=hW.lt;obtain⟨p,q,hA0,hV,rfl,hfz,hnd⟩:=hW;have hA:DataW.TrodAll enc Tryz.prog W 0 (fun _=>true) true Tryz.f5.params.toList args.toList ds p:=hA0;rw[Tryz.params5] at hA hval hsw;obtain⟨v0,v1,d0,d1,p0,p1,rfl,rfl,rfl,h0,h1⟩:=trodAll_two hA;obtain⟨rfl,rfl⟩:=trodVars_none hV
 letI:Base:=⟨W.heap.size⟩
 have hB:W.heap.size≤Base.b:=Nat.le_refl _;have K:=Qzt hL (Nat.le_refl _);obtain⟨a0,len0,cap0,rfl⟩:=okWide_slice Tryz.underlying22 (hval 0 22 v0 rfl rfl);obtain⟨c1,rfl,_⟩:=okWide_struct Tryz.underlying63 (hval 1 63 v1 rfl rfl);obtain⟨s1,bv1,av1,ex1,hw1,hl1⟩:∃(s:WebS) (bv av:Value),Value.agg c1=webV s bv av∧QUu W bv av s∧∀l∈s.arcs,l.length≤2199023255552:=by
  obtain⟨fuel,hf⟩:=h1;obtain⟨s,bv,av,e,h2,h3⟩:=QUv hB hf;refine⟨s,bv,av,Qmw e,h2,fun l hl=>?_⟩;have h4:=h3 (fun k hk=>by
   have h5:=List.all_eq_true.1 hsw k (by
    simp only[DataW.weightsEach,List.cons_append,List.mem_append];exact .inr (.inl hk))
   simpa using h5) l hl
  unfold reachBytes at h4;omega
 have keep:∀W':World,Below W.heap.size W W'→Rows.equationsWebsSpec.post enc Tryz.prog Tryz.f5 false true false false W #[.slice a0 len0 cap0,.agg c1] (.bool true) W':=by
  intro W' bel;have h0':=Below.trod (P:=Tryz.prog) ZK ZK (by decide +kernel) h0 bel (fun x hx=>hlt x (by simp[hx]));have h1':=Below.trod (P:=Tryz.prog) ZK ZK (by decide +kernel) h1 bel (fun x hx=>hlt x (by simp[hx]));exact⟨_,_,_,[],_,[],hW',trodAll_mk1 (shut_bool Tryz.underlying4 _),trodAll_mk2 h0' h1',rfl,bel.frame _,fun h=>by cases h⟩
 have call:∀(ta:Option Addr) (tn tc:Nat),tn≤maxLen→(∀j:Nat,j<tn→∃b off z,ta=some ⟨b,off,none⟩∧b<W.heap.size∧W.cell? ⟨b,off+j,none⟩=some (.int .i64 z)) →
   Calls Tryz.prog 5 #[.slice ta tn tc,.agg c1] W (Qia true W):=by
  intro ta tn tc h1 h2;rw[ex1];exact Qsv W ta tn tc h1 h2 s1 bv1 av1 hw1 hl1 K.1 K.2.1 K.2.2 (Nat.le_refl _)
 obtain⟨fuel,hf⟩:=h0;rcases open_ints Tryz.underlying22 Tryz.underlying3 cInt hf with⟨hcs,_⟩|⟨a,len,cap,zs,hcs,_,hl1,hl2,hz,_,hcell,_⟩
 ·have hcs':[Value.slice a0 len0 cap0]=_:=hcs;injection hcs' with hcs' _
  injection hcs' with e1 e2 e3
  subst e1 e2 e3;refine(call none 0 0 (Nat.zero_le _) (fun j hj=>by omega)).mono fun e W' ⟨he,bel⟩=>?_
  subst he;exact⟨_,rfl,keep W' bel⟩
 ·have hcs':[Value.slice a0 len0 cap0]=_:=hcs;injection hcs' with hcs' _
  injection hcs' with e1 e2 e3
  subst e1 e2 e3;refine(call (some a) len0 cap0 ZO (fun j hj=>?_)).mono fun e W' ⟨he,bel⟩=>?_
  ·have hlz:len0≤zs.length:=by rw[hz];split <;> omega
   obtain⟨b,off,rfl,hc⟩:=ints_at hcell ZO;exact⟨b,off,_,rfl,Qwh (hc j ZO),hc j ZO⟩
  ·subst he;exact⟨_,rfl,keep W' bel⟩
theorem over:Rows.EquationsWebsSaid:=
 OpenClaim.holds_of_wide 5 Tryz.f5 rfl rfl rfl rfl rfl rfl rfl ⟨rfl,rfl,rfl,rfl,rfl⟩ rfl rfl rfl rfl rfl ZK Tryz.func5 ZK
  (of_decide_eq_true ZK) (by unfold Func.isWrapper;first|(rw[if_pos (by decide +kernel)];kernel_rfl)|(rw[if_neg (by decide +kernel)];exact⟨rfl,rfl⟩))
  (fun os started H enc _=>Qsu os started H enc)
end Go.Proofs.YtijekimobahgpaaGreatDoor.equationsWebs
namespace Go.Proofs.YtijekimobahgpaaGreatDoor
open Go
theorem equationsWebs_card_holds:Rows.EquationsWebsCardSaid:=
 Claim7.holds_tied_plain_at .later [] [.data,.widerDeep,.data] true Rows.equationsWebsCard.stood.harness false
  equationsWebs.over (fun _ h=>by cases h) ZK (fun _ h=>by cases h) equationsWebs_row_tie rfl ⟨rfl,rfl⟩ ZK rfl
  (fun f fn hf hfn=>by
   obtain rfl:f=5:=Option.some.inj ((show Tryz.prog.funcNamed "flowquery/flqlaw10.EquationsWebs" = some 5 by kernel_rfl).symm.trans hf) |>.symm
   obtain rfl:fn=Tryz.f5:=(Option.some.inj (Tryz.func5.symm.trans hfn)).symm
   exact⟨by kernel_rfl,fun j t ht=>by
    rw[Tryz.params5] at ht
    rcases j with _|_|j
    ·obtain rfl:t=22:=by simpa using ht.symm
     exact(show Tryz.prog.wantsStandIn 22=false by kernel_rfl)
    ·obtain rfl:t=63:=by simpa using ht.symm
     exact(show Tryz.prog.wantsStandIn 63=false by kernel_rfl)
    ·simp at ht⟩)
  ZK
#print axioms equationsWebs_card_holds
end Go.Proofs.YtijekimobahgpaaGreatDoor
