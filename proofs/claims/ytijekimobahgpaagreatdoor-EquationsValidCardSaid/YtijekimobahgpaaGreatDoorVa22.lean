/- A part of the proof. -/
import Derived.Test.YtijekimobahgpaaGreatDoorVa20
import Derived.Test.YtijekimobahgpaaGreatDoorVa21
set_option linter.unusedVariables false
set_option linter.unusedSimpArgs false
set_option linter.unusedSectionVars false
set_option maxRecDepth 100000
set_option maxHeartbeats 16000000
namespace Go.Proofs.YtijekimobahgpaaGreatDoor
section
open Go.RowKit
variable [Base]
structure Qux (w:World)(p:List Qo)(f:Qo)(b:QI)(s:QD)(i k j fb fo bb bo bc sb so sc:Nat)(ua:Option Addr)(uc:Nat)(ta:Option Addr)(tc:Nat):Prop where
 lt:fb<w.heap.size∧bb<w.heap.size∧sb<w.heap.size
 f0:w.cell? ⟨fb,fo+i*2,none⟩=some (sv f.name)
 f1:w.cell? ⟨fb,fo+i*2+1,none⟩=some (.slice (some ⟨bb,bo,none⟩) f.blocks.length bc)
 b1:w.cell? ⟨bb,bo+k*2+1,none⟩=some (.slice (some ⟨sb,so,none⟩) b.stmts.length sc)
 s0:w.cell? ⟨sb,so+j*4,none⟩=some (iv s.op)
 s1:w.cell? ⟨sb,so+j*4+1,none⟩=some (sv s.dfn)
 s2:w.cell? ⟨sb,so+j*4+2,none⟩=some (.slice ua s.uses.length uc)
 s3:w.cell? ⟨sb,so+j*4+3,none⟩=some (.slice ta s.targets.length tc)
 tg:Qea w (.slice ta s.targets.length tc) s.targets
 bl:QOc w (.slice (some ⟨bb,bo,none⟩) f.blocks.length bc) f.blocks
theorem QTx {w:World}{a:Option Addr}{n c:Nat}{p:List Qo}{i k j:Nat}{f:Qo}{b:QI}{s:QD}(h:QAa w (.slice a n c) p)(hat:At p i k j f b s):
  ∃fb fo bb bo bc sb so sc ua uc ta tc,a=some ⟨fb,fo,none⟩∧Qux w p f b s i k j fb fo bb bo bc sb so sc ua uc ta tc:=by
 obtain⟨a',c',e,-,hc⟩:=h.cell;injection e with e1 e2 e3
 subst e1 e2 e3;obtain⟨fb,fo,bv,rfl,h1,f0,f1,hbl⟩:=hc i f hat.hf;obtain⟨ba,bc,rfl,-,hbc⟩:=hbl.cell;obtain⟨bb,bo,sv1,rfl,h2,-,b1,hsl⟩:=hbc k b hat.hb;obtain⟨sa,sc,rfl,-,hsc⟩:=hsl.cell;obtain⟨sb,so,u,t,rfl,h3,s0,s1,s2,s3,hu,ht⟩:=hsc j s hat.hs;obtain⟨ua,uc,rfl,-⟩:=hu.cell;obtain⟨ta,tc,rfl,-⟩:=ht.cell;exact⟨fb,fo,bb,bo,bc,sb,so,sc,ua,uc,ta,tc,rfl,⟨h1,h2,h3⟩,f0,f1,b1,s0,s1,s2,s3,ht,hbl⟩
theorem Qux.below {w w':World}{p:List Qo}{f:Qo}{b:QI}{s:QD}{i k j fb fo bb bo bc sb so sc:Nat}{ua:Option Addr}{uc:Nat}{ta:Option Addr}{tc:Nat}(h:Qux w p f b s i k j fb fo bb bo bc sb so sc ua uc ta tc)(q:Below w.heap.size w w'):Qux w' p f b s i k j fb fo bb bo bc sb so sc ua uc ta tc:=by
 obtain⟨h1,h2,h3⟩:=h.lt;have hz:=q.size;exact⟨⟨by omega,by omega,by omega⟩,(q.cell (p:=⟨fb,_,none⟩) h1).trans h.f0,(q.cell (p:=⟨fb,_,none⟩) h1).trans h.f1,(q.cell (p:=⟨bb,_,none⟩) h2).trans h.b1,(q.cell (p:=⟨sb,_,none⟩) h3).trans h.s0,(q.cell (p:=⟨sb,_,none⟩) h3).trans h.s1,(q.cell (p:=⟨sb,_,none⟩) h3).trans h.s2,(q.cell (p:=⟨sb,_,none⟩) h3).trans h.s3,Qg.same h.tg (Qf.below q),h.bl.keep (Qf.below q) (Qf.below q) (Qf.below q)⟩
theorem QSw (w:World)(x:Int):QJa (w.alloc (.cells #[iv x] 3)) (.slice (some ⟨w.heap.size,0,none⟩) 1 1) [x]:=by
 have h:(w.alloc (.cells #[iv x] 3)).ownsRow w.heap.size 3 1 (.slice (some ⟨w.heap.size,0,none⟩) 1 1) 1 ([x].map iv):=
  ⟨by simp,.inr ⟨w.heap.size,1,#[iv x],rfl,Nat.le_refl _,heap_alloc_new _ _,Nat.le_refl _,by decide,by simp,by simp⟩⟩
 exact Qg.of_owns h
theorem QNw {s:QD}(h:stmtB s=true):s.targets.length≤2:=by
 unfold stmtB Qjl at h;simp only[Bool.and_eq_true,decide_eq_true_eq] at h;omega
def Qrw (p:List Qo)(x:Str)(k:Qx):Bool:=k.kind==4&&tgt (Qec p k)==x
theorem Qby {w:World}(p:List Qo)(v lv:Value)(h:QAa w v p)(he:QFa p=0)(hN:QJi w lv (QB p 0))(i:Nat)(n:Qx)(hn:(QB p 0)[i]? = some n)(hbs:Base.b≤w.heap.size):
  Calls Tryz.prog 64 #[.agg #[v],lv,iv i] w (QWk ((Qmd p (QB p 0) n).map (idxI (QB p 0))) w):=by
 obtain⟨z,hz⟩:=Ze w.heap.size;have ck:=Qzb he;have hfew:=QUc ck.valid;have hLe:(QB p 0).length≤256:=by rw[←Qne he];exact Qme
 have hnd:(QB p 0).Nodup:=QIe p 0;have hin:IsN p n:=QLb.1 (List.mem_of_getElem? hn);obtain⟨X,hX⟩:=Ze (QB p 0);have HXX:=Zh hX;rw[hX] at hN hn hLe hnd ⊢;have KSN:=Zh (show ∀(f b s:Int) (x:World),Below z w x→Calls Tryz.prog 132 #[lv,iv f,iv b,iv s] x (IntQ (idxI X ⟨3,f,b,s⟩) x) from fun f b s x q=>Qix X lv f b s x (hN.below (hz▸q)));have KEN:=Zh (show ∀(f:Int) (x:World),Below z w x→Calls Tryz.prog 133 #[lv,iv f] x (QAy (idxI X ⟨1,f,-1,-1⟩) (idxI X ⟨2,f,-1,-1⟩) x) from fun f x q=>Qdy X lv f x (hN.below (hz▸q)));have KFN:=Zh (show ∀(y:Str) (x:World),Below z w x→Calls Tryz.prog 134 #[.agg #[v],sv y] x (IntQ (fnI p y) x) from fun y x q=>Qjx p v y (h.below (hz▸q)));have KBN:=Zh (show ∀(f:Qo) (bv:Value) (x:World),f∈p→QOc w bv f.blocks→Below z w x→Calls Tryz.prog 129 #[.agg #[sv f.name,bv]] x (QDw (QPb f) x) from fun f bv x hf hb b=>
  QGw f bv (hb.keep (Qf.below (hz▸b)) (Qf.below (hz▸b)) (Qf.below (hz▸b))) (by have:=b.size;omega) (by have:=(hfew.2 f hf).1;omega))
 have HPA:=Zh h;have CK:=Zh ck;have HFEW:=Zh hfew;have HND:=Zh hnd;obtain⟨la,lc,rfl,-,-,-,hlc⟩:=hN.cell;have HLC:=Zh hlc;obtain⟨lb,lo,rfl,hlb,q0,q1,q2,q3⟩:=hlc i n hn;obtain⟨ln,hln⟩:=Ze X.length;have hil:i<ln:=by rw[←hln];exact(List.getElem?_eq_some_iff.1 hn).1
 have HLN:=Zh hln;rw[hln] at hLe KSN KEN ⊢;obtain⟨a,c,rfl,-,hc⟩:=h.cell;have HC:=Zh hc;obtain⟨pn,hl⟩:=Ze p.length;have hn8:pn≤8:=by have:=hfew.1;omega
 rw[hl] at HPA KFN ⊢;have HL:=Zh hl;obtain⟨W,hW⟩:=Ze ((w.alloc (.cells #[.slice a pn c] 25)).alloc (.cells #[iv n.kind,iv n.fn,iv n.bl,iv n.st] NT));have HPB:=Zh (show W.heap[z]? = some (.cells #[.slice a pn c] 25 (0,0)) by rw[←hW,←hz];exact Qz _ (heap_alloc_new _ _));have HNB:=Zh (show W.heap[z+1]? = some (.cells #[iv n.kind,iv n.fn,iv n.bl,iv n.st] NT (0,0)) by rw[←hW,←hz];exact Qda _ _);have BW:=Zh (show Below z w W by rw[←hW,←hz];exact(Zb).alloc ZS _);have HWW:=Zh hW;have HZ:=Zh hz;have hzW:z+2=W.heap.size:=by rw[←hW,←hz];simp
 rw[hz] at hbs hlb;have Q:∀o,(w.alloc (.cells #[.slice a pn c] 25)).cell? ⟨lb,o,none⟩=w.cell? ⟨lb,o,none⟩:=fun o=>World.cell?_of_block (Below.heap_alloc _ _ _ (by rw[hz];exact hlb))
 rw[←Q] at q0 q1 q2 q3;have HIN:=Zh hin;have HNX:=Zh hn;clear h hc hl hW ck hfew he hlc hN hn hln hX hnd hin Q;go_enter Tryz.func64,Tryz.ntmps64;go_upto_region 2 with(fail)
 rw[show(w.alloc (.cells #[.slice a pn c] 25)).alloc (.cells #[iv n.kind,iv n.fn,iv n.bl,iv n.st] NT)=W from HWW.o]
 try rw[hz]
 clear q0 q1 q2 q3;obtain⟨m0,m1,m2,m3⟩:=Qt HNB.o;have x0:=(Qd HPB.o).1 0;simp at x0;obtain⟨fi,f,hf,hcase⟩:=HIN.o;rcases hcase with rfl|rfl|⟨bk,b,sj,s,hb,hs,hcase⟩
 ·have HNQ:=Zh (show Qmd p X ⟨1,(fi:Nat),-1,-1⟩=[⟨3,(fi:Nat),0,0⟩] by unfold Qmd;rw[if_pos rfl]);go_wp2_with fail;refine(KSN.o fi 0 0 W BW.o).mono ?_;rintro e w1 ⟨rfl,b1⟩;have B1:=Zh (show Below z w w1 from BW.o.trans (b1.mono ZO));clear b1;go_wp2;go_ret;exact⟨_,rfl,by rw[HNQ.o];exact QSw w1 _,by rw[HZ.o];exact B1.o.alloc (by have:=B1.o.size;have:=HZ.o;omega) _⟩
 ·have HNQ:=Zh (show Qmd p X ⟨2,(fi:Nat),-1,-1⟩=X.filter (Qrw p f.name) by
   unfold Qmd;rw[if_neg (show ¬(2:Int)=1 by decide),if_pos rfl];unfold Qrw fnOf;simp[hf])
  obtain⟨fb,fo,bv,ea,hfb,g0,-,-⟩:=HC.o fi f hf;subst ea;have hfp:fi<pn:=by rw[←HL.o];exact(List.getElem?_eq_some_iff.1 hf).1
  have G0:=Zh g0;have hzf:fb<z:=by rw[←HZ.o];exact hfb
  clear g0 hf hfb;go_upto_region 6 with(fail)
  go_wp2;clear m0 m1 m2 m3 x0;go_loopw [8,9] (fun V y wr=>∃(k:Nat) (Y:Value),k≤ln∧Y=V∧y=.int .i64 k∧Hid (Below (z+2) W wr)∧Hid (OwnI (z+2) wr Y (((X.take k).filter (Qrw p f.name)).map (idxI X)))) (fun _ y _=>ln-(intOf y).toNat)
  case atStart=>exact⟨0,_,Nat.zero_le _,rfl,rfl,hzW▸Below.refl _ _,by unfold Hid OwnI;simp[World.ownsRow]⟩
  case round=>
   obtain⟨k,V,hk,rfl,rfl,HB,HO⟩:=hrel;by_cases hlt:k<ln;rotate_left
   ·have HF:=Zh (show QJa wr V ((X.filter (Qrw p f.name)).map (idxI X)) by
     have h:=HO.o;rw[List.take_of_length_le (by rw[HLN.o];omega)] at h;exact Qg.of_owns h)
    go_wp2;go_ret;exact⟨_,rfl,by rw[HNQ.o];exact HF.o,by rw[HZ.o];exact BW.o.trans (HB.o.mono ZO)⟩
   ·obtain⟨y,hy⟩:∃y,X[k]? = some y:=⟨_,List.getElem?_eq_getElem (by rw[HLN.o];exact hlt)⟩;obtain⟨lb',lo',e,hyb,c0,c1,c2,c3⟩:=HLC.o k y hy;injection e with e
    injection e with e e2
    subst e e2;have CC:∀(b o:Nat),b<z→wr.cell? ⟨b,o,none⟩=w.cell? ⟨b,o,none⟩:=fun b o hb=>(HB.o.cell (p:=⟨b,o,none⟩) (by show b<z+2;omega)).trans (BW.o.cell (p:=⟨b,o,none⟩) hb)
    have HTK:=Zh (show(X.take (k+1)).filter (Qrw p f.name)=(X.take k).filter (Qrw p f.name)++(if Qrw p f.name y then [y] else []) by
     rw[List.take_add_one,hy,List.filter_append]
     congr 1
     by_cases hq:Qrw p f.name y=true
     ·rw[if_pos hq];simp[hq]
     ·rw[if_neg hq];simp[hq])
    have HIX:=Zh (QBg HND.o hy);have hylen:((X.take k).filter (Qrw p f.name)).length≤300:=Nat.le_trans (List.length_filter_le _ _) (by rw[List.length_take];omega);have c0:=(CC lb _ hlb).trans c0;by_cases h4:y.kind=4;rotate_left
    ·have t4:(y.kind==4)=false:=by simpa using h4
     have HBF:=Zh (show Qrw p f.name y=false by unfold Qrw;rw[t4];rfl);have HF2:=Zh (show OwnI (z+2) wr V (((X.take (k+1)).filter (Qrw p f.name)).map (idxI X)) by rw[HTK.o,HBF.o];simpa using HO.o);clear h4 hy CC c1 c2 c3;go_upto_region 9 with(fail)
     go_quiet (fail);go_wp2;go_roundw
     case rel=>exact⟨k+1,_,by omega,rfl,by go_num,Qp HB.o _,HF2.o⟩
     case measure=>simp[intOf];omega
    ·have hyin:IsN p y:=QLb.1 (HXX.o▸List.mem_of_getElem? hy);obtain⟨gi,g,hg,hcs⟩:=hyin;obtain⟨gk,gb,gj,gs,hgb,hgs,hop,rfl⟩:∃gk gb gj gs,g.blocks[gk]? = some gb∧gb.stmts[gj]? = some gs∧gs.op=3∧y=⟨4,(gi:Nat),(gk:Nat),(gj:Nat)⟩:=by
      rcases hcs with rfl|rfl|⟨gk,gb,gj,gs,hgb,hgs,rfl|⟨hop,rfl⟩⟩
      ·exact absurd h4 (show ¬(1:Int)=4 by decide)
      ·exact absurd h4 (show ¬(2:Int)=4 by decide)
      ·exact absurd h4 (show ¬(3:Int)=4 by decide)
      ·exact⟨gk,gb,gj,gs,hgb,hgs,hop,rfl⟩
     have hat:At p gi gk gj g gb gs:=⟨hg,hgb,hgs⟩;obtain⟨fb',fo',bb,bo,bc,sb,so,sc,ua,uc,ta,tc,e,PA⟩:=QTx HPA.o hat;injection e with e
     injection e with e e2
     subst e e2;have PB:=Zh (PA.below (HZ.o▸BW.o.trans (HB.o.mono ZO):Below w.heap.size w wr));obtain⟨tg,htg⟩:=QZi (CK.o.at_ hat).1 hop;have htl:gs.targets.length=1:=by rw[htg];rfl
     have hst:(Qec p ⟨4,(gi:Nat),(gk:Nat),(gj:Nat)⟩)=gs:=hat.d 4;have HBF:=Zh (show Qrw p f.name ⟨4,(gi:Nat),(gk:Nat),(gj:Nat)⟩=(tg==f.name) by unfold Qrw;rw[hst];unfold tgt;rw[htg];simp);obtain⟨tb,to_,t0⟩:∃tb to_,ta=some ⟨tb,to_,none⟩∧wr.cell? ⟨tb,to_,none⟩=some (sv tg):=by
      obtain⟨a',c',e,-,hc'⟩:=PB.o.tg.cell;injection e with e
      subst e;obtain⟨tb,to_,e,-,h5⟩:=hc' 0 tg (by rw[htg];rfl);exact⟨tb,to_,e,h5⟩
     obtain⟨rfl,t0⟩:=t0;have i1:gi<pn:=by rw[←HL.o];exact(List.getElem?_eq_some_iff.1 hg).1
     have i2:=(List.getElem?_eq_some_iff.1 hgb).1;have i3:=(List.getElem?_eq_some_iff.1 hgs).1;obtain⟨gbn,hgbn⟩:=Ze g.blocks.length;obtain⟨gsn,hgsn⟩:=Ze gb.stmts.length;have p1:=PB.o.f1;have p2:=PB.o.b1;have p3:=PB.o.s3;rw[hgbn] at p1 i2;rw[hgsn] at p2 i3;rw[htl] at p3;have e1:=(CC lb _ hlb).trans c1;have e2:=(CC lb _ hlb).trans c2;have e3:=(CC lb _ hlb).trans c3;simp only at c0 e1 e2 e3;have g0:=(CC fb _ hzf).trans G0.o;have HB1:=HB.o;have x0:=(Qd (Qc HPB.o HB.o ZO)).1 0;simp at x0;obtain⟨m0,m1,m2,m3⟩:=Qt (Qc HNB.o HB.o ZO);have j1:(gi:Int)<(pn:Int):=by omega
     have j2:(gk:Int)<(gbn:Int):=by omega
     have j3:(gj:Int)<(gsn:Int):=by omega
     have j4:(fi:Int)<(pn:Int):=by omega
     have k1:(0:Int)≤(gi:Int):=by omega
     have k2:(0:Int)≤(gk:Int):=by omega
     have k3:(0:Int)≤(gj:Int):=by omega
     have k4:(0:Int)≤(fi:Int):=by omega
     by_cases htf:tg=f.name
     ·have t5:(tg==f.name)=true:=by simpa using htf
      rw[t5] at HBF;have HTK2:=Zh (show((X.take (k+1)).filter (Qrw p f.name)).map (idxI X)=((X.take k).filter (Qrw p f.name)).map (idxI X)++[(k:Int)] by rw[HTK.o,HBF.o];simp[HIX.o]);clear h4 hy CC c1 c2 c3 hat hg hgb hgs hop hcs PA htg htl hst hgbn hgsn htf HB1;go_upto_region 9 with(fail)
      go_quiet (fail);clear m0 m1 m2 m3 x0 c0 e1 e2 e3 g0 p1 p2 p3 t0;have hol:=HO.o;have hll:(((X.take k).filter (Qrw p f.name)).map (idxI X)).length≤300:=by rw[List.length_map];exact hylen
      obtain⟨L1,hL1⟩:=Ze (((X.take k).filter (Qrw p f.name)).map (idxI X));rw[hL1] at HO HTK2 hll;have hzr:z+2≤wr.heap.size:=by have:=HB.o.size;omega
      clear hol hL1;go_wp2_with (at_builtin;refine QL [iv (k:Int)] rfl _ _ _ rfl (z+2) 3 _ 1 8 Tryz.underlying22 QRa rfl ZO _ _ _ HO.o rfl rfl rfl rfl (by unfold maxLen;omega) ZO hzr ?_;intro g5 cap w5 ho hg5 _ _;have HB5:=Zh ((Qp HB.o _).trans (Below.of_grown hg5 HO.o hzr));have HO5:=Zh (show OwnI (z+2) w5 _ (L1++[(k:Int)]) from OwnI.push rfl ho);clear ho hg5);go_roundw
      case rel=>exact⟨k+1,_,by omega,rfl,by go_num,HB5.o,by rw[HTK2.o];exact HO5.o⟩
      case measure=>simp[intOf];omega
     ·have t5:(tg==f.name)=false:=by simpa using htf
      rw[t5] at HBF;have HF2:=Zh (show OwnI (z+2) wr V (((X.take (k+1)).filter (Qrw p f.name)).map (idxI X)) by rw[HTK.o,HBF.o];simpa using HO.o);clear h4 hy CC c1 c2 c3 hat hg hgb hgs hop hcs PA htg htl hst hgbn hgsn htf HB1;go_upto_region 9 with(fail)
      go_quiet (fail);clear m0 m1 m2 m3 x0 c0 e1 e2 e3 g0 p1 p2 p3 t0;go_wp2;go_roundw
      case rel=>exact⟨k+1,_,by omega,rfl,by go_num,Qp HB.o _,HF2.o⟩
      case measure=>simp[intOf];omega
 ·obtain⟨kd,hkd,rfl⟩:∃kd:Int,(kd=3∨(kd=4∧s.op=3))∧n=⟨kd,(fi:Nat),(bk:Nat),(sj:Nat)⟩:=by
   rcases hcase with rfl|⟨h3,rfl⟩
   ·exact⟨3,.inl rfl,rfl⟩
   ·exact⟨4,.inr ⟨rfl,h3⟩,rfl⟩
  have hat:At p fi bk sj f b s:=⟨hf,hb,hs⟩;have hk1:¬kd=1:=by omega
  have hk2:¬kd=2:=by omega
  have t1:(kd==1)=false:=by simpa using hk1
  have t2:(kd==2)=false:=by simpa using hk2
  obtain⟨fb,fo,bb,bo,bc,sb,so,sc,ua,uc,ta,tc,e,PA⟩:=QTx HPA.o hat;subst e;have i1:fi<pn:=by rw[←HL.o];exact(List.getElem?_eq_some_iff.1 hf).1
  have i2:=(List.getElem?_eq_some_iff.1 hb).1;have i3:=(List.getElem?_eq_some_iff.1 hs).1;obtain⟨bn,hbn⟩:=Ze f.blocks.length;obtain⟨sn,hsn⟩:=Ze b.stmts.length;obtain⟨un,hun⟩:=Ze s.uses.length;obtain⟨tn,htn⟩:=Ze s.targets.length;obtain⟨op,hop⟩:=Ze s.op;have HSD:=Zh (show(Qec p ⟨kd,(fi:Nat),(bk:Nat),(sj:Nat)⟩).op=op by rw[hat.d kd,hop]);have HSE:=Zh (hat.d kd);have HSB:=Zh (CK.o.at_ hat).1;have HOP:=Zh hop;have HBN:=Zh hbn;have HTN:=Zh htn;have HAT:=Zh hat;have hsn3:sn≤32:=by rw[←hsn];exact(HFEW.o.2 f hat.fm).2 b hat.bm
  have PW:=Zh PA;have HTA:=Zh ((htn▸PA.tg:Qea w (.slice ta tn tc) s.targets));have HSX:=Zh (show ∀x,Below W.heap.size W x→x.cell? ⟨z,0,none⟩=some (.slice (some ⟨fb,fo,none⟩) pn c)∧x.cell? ⟨z+1,1,none⟩=some (iv (fi:Nat))∧x.cell? ⟨z+1,2,none⟩=some (iv (bk:Nat))∧x.cell? ⟨z+1,3,none⟩=some (iv (sj:Nat))∧x.cell? ⟨fb,fo+fi*2+1,none⟩=some (.slice (some ⟨bb,bo,none⟩) bn bc)∧x.cell? ⟨bb,bo+bk*2+1,none⟩=some (.slice (some ⟨sb,so,none⟩) sn sc)∧x.cell? ⟨sb,so+sj*4,none⟩=some (iv op)∧x.cell? ⟨sb,so+sj*4+1,none⟩=some (sv s.dfn)∧x.cell? ⟨sb,so+sj*4+2,none⟩=some (.slice ua un uc)∧x.cell? ⟨sb,so+sj*4+3,none⟩=some (.slice ta tn tc) from fun x q=>by
   have PB:=PW.o.below (HZ.o▸BW.o.trans (q.mono ZO):Below w.heap.size w x);have p0:=(Qd (Qc HPB.o q ZO)).1 0;simp at p0;obtain⟨-,y1,y2,y3⟩:=Qt (Qc HNB.o q ZO);have b1:=PB.f1;have b2:=PB.b1;have b3:=PB.s0;have b4:=PB.s2;have b5:=PB.s3;rw[hbn] at b1;rw[hsn] at b2;rw[hop] at b3;rw[hun] at b4;rw[htn] at b5;exact⟨p0,y1,y2,y3,b1,b2,b3,PB.s1,b4,b5⟩)
  have j1:(fi:Int)<(pn:Int):=by omega
  have j2:(bk:Int)<(bn:Int):=by omega
  have j3:(sj:Int)<(sn:Int):=by omega
  have k1:(0:Int)≤(fi:Int):=by omega
  have k2:(0:Int)≤(bk:Int):=by omega
  have k3:(0:Int)≤(sj:Int):=by omega
  clear hf hb hs hat PA hbn hsn hun htn hcase;go_upto_region 12 with(fail)
  clear m0 m1 m2 m3 x0;refine Zr (fun w'=>w'.cell? ⟨z,0,none⟩=some (.slice (some ⟨fb,fo,none⟩) pn c)∧w'.cell? ⟨z+1,1,none⟩=some (iv (fi:Nat))∧w'.cell? ⟨z+1,2,none⟩=some (iv (bk:Nat))∧w'.cell? ⟨z+1,3,none⟩=some (iv (sj:Nat))∧w'.cell? ⟨fb,fo+fi*2+1,none⟩=some (.slice (some ⟨bb,bo,none⟩) bn bc)∧w'.cell? ⟨bb,bo+bk*2+1,none⟩=some (.slice (some ⟨sb,so,none⟩) sn sc)∧w'.cell? ⟨sb,so+sj*4,none⟩=some (iv op)∧w'.cell? ⟨sb,so+sj*4+1,none⟩=some (sv s.dfn)∧w'.cell? ⟨sb,so+sj*4+2,none⟩=some (.slice ua un uc)∧w'.cell? ⟨sb,so+sj*4+3,none⟩=some (.slice ta tn tc)) 17 (HSX.o _ (Qp (Below.refl W.heap.size W) 1)) fun hS0=>?_
  refine Yd 0 87 ?_;refine Yd 1 88 ?_;refine Yd 2 89 ?_;refine Yd 3 90 ?_;refine Yd 4 91 ?_;refine Yd 5 92 ?_;refine Yd 6 93 ?_;refine Yd 7 94 ?_;refine Yd 8 95 ?_;refine Yd 9 96 ?_;refine Yd 10 97 ?_;refine Yd 11 98 ?_;refine Yd 12 99 ?_;refine Yd 13 100 ?_;refine Yd 14 101 ?_;refine Yd 15 102 ?_;refine QW 16 (some 10) (.pointer (some ⟨W.heap.size,0,none⟩)) ((W.drewN 1).alloc (.cells #[iv 0,.string ⟨#[]⟩,.slice none 0 0,.slice none 0 0] 94)) rfl ZK ZK ?rv12 rfl (fun _=>?sv12) ?_
  case rv12=>go_simp
  case sv12=>exact HSX.o _ ((Qp (Below.refl W.heap.size W) 1).alloc (Nat.le_refl _) _)
  clear hS0;have hS0:(fun w':World=>w'.cell? ⟨z,0,none⟩=some (.slice (some ⟨fb,fo,none⟩) pn c)∧w'.cell? ⟨z+1,1,none⟩=some (iv (fi:Nat))∧w'.cell? ⟨z+1,2,none⟩=some (iv (bk:Nat))∧w'.cell? ⟨z+1,3,none⟩=some (iv (sj:Nat))∧w'.cell? ⟨fb,fo+fi*2+1,none⟩=some (.slice (some ⟨bb,bo,none⟩) bn bc)∧w'.cell? ⟨bb,bo+bk*2+1,none⟩=some (.slice (some ⟨sb,so,none⟩) sn sc)∧w'.cell? ⟨sb,so+sj*4,none⟩=some (iv op)∧w'.cell? ⟨sb,so+sj*4+1,none⟩=some (sv s.dfn)∧w'.cell? ⟨sb,so+sj*4+2,none⟩=some (.slice ua un uc)∧w'.cell? ⟨sb,so+sj*4+3,none⟩=some (.slice ta tn tc)) ((W.drewN 1).alloc (.cells #[iv 0,.string ⟨#[]⟩,.slice none 0 0,.slice none 0 0] 94)):=HSX.o _ ((Qp (Below.refl W.heap.size W) 1).alloc (Nat.le_refl _) _);have hnew:((W.drewN 1).alloc (.cells #[iv 0,.string ⟨#[]⟩,.slice none 0 0,.slice none 0 0] 94)).heap[W.heap.size]? = some (.cells #[iv 0,.string ⟨#[]⟩,.slice none 0 0,.slice none 0 0] 94 (0,0)):=heap_alloc_new (W.drewN 1) _;obtain⟨d0,d1,d2,d3⟩:=Qt hnew;have e0:=(Qa hnew).2 0;have e1:=(Qa hnew).2 1;have e2:=(Qa hnew).2 2;have e3:=(Qa hnew).2 3;refine Qeb 17 none ((((((W.drewN 1).alloc (.cells #[iv 0,.string ⟨#[]⟩,.slice none 0 0,.slice none 0 0] 94)).setCell ⟨W.heap.size,0,none⟩ (iv op)).setCell ⟨W.heap.size,1,none⟩ (sv s.dfn)).setCell ⟨W.heap.size,2,none⟩ (.slice ua un uc)).setCell ⟨W.heap.size,3,none⟩ (.slice ta tn tc)) rfl ZK ZK ?rs12 rfl (fun h=>absurd rfl h) ?_
  case rs12=>go_simp
  refine Qu ZK ?_ _;generalize hA:Act.put _ _ _=A0;simp only[Qba,Qaa,Zu,Zv,Zw] at hA;subst hA;obtain⟨U,hU⟩:=Ze ((((((W.drewN 1).alloc (.cells #[iv 0,.string ⟨#[]⟩,.slice none 0 0,.slice none 0 0] 94)).setCell ⟨W.heap.size,0,none⟩ (iv op)).setCell ⟨W.heap.size,1,none⟩ (sv s.dfn)).setCell ⟨W.heap.size,2,none⟩ (.slice ua un uc)).setCell ⟨W.heap.size,3,none⟩ (.slice ta tn tc));obtain⟨xs,hxs⟩:=Ze W.heap.size;have HUB:=Zh (show U.heap[xs]? = some (.cells #[iv op,sv s.dfn,.slice ua un uc,.slice ta tn tc] 94 (0,0)) by rw[←hU,←hxs];exact set4 hnew _ _ _ _);have BU:=Zh (show Below (z+2) W U by
   rw[←hU,hxs];have hx:z+2≤xs:=by omega
   exact(((((Qp (Below.refl (z+2) W) 1).alloc (by show z+2≤W.heap.size;omega) _).setCell (p:=⟨xs,0,none⟩) hx _).setCell (p:=⟨xs,1,none⟩) hx _).setCell (p:=⟨xs,2,none⟩) hx _).setCell (p:=⟨xs,3,none⟩) hx _)
  have hxz:z+2≤xs:=by omega
  rw[hU,hxs];clear hS0 hnew d0 d1 d2 d3 e0 e1 e2 e3 hU hxs;have HSU:=Zh (show ∀x,Below (xs+1) U x→x.cell? ⟨z,0,none⟩=some (.slice (some ⟨fb,fo,none⟩) pn c)∧(x.cell? ⟨z+1,0,none⟩=some (iv kd)∧x.cell? ⟨z+1,1,none⟩=some (iv (fi:Nat))∧x.cell? ⟨z+1,2,none⟩=some (iv (bk:Nat))∧x.cell? ⟨z+1,3,none⟩=some (iv (sj:Nat)))∧(x.cell? ⟨xs,0,none⟩=some (iv op)∧x.cell? ⟨xs,1,none⟩=some (sv s.dfn)∧x.cell? ⟨xs,2,none⟩=some (.slice ua un uc)∧x.cell? ⟨xs,3,none⟩=some (.slice ta tn tc)) from fun x q=>by
   have p0:=(Qd (Qc (Qc HPB.o BU.o ZO) q ZO)).1 0;simp at p0;exact⟨p0,Qt (Qc (Qc HNB.o BU.o ZO) q ZO),Qt (Qc HUB.o q ZO)⟩)
  have hxU:xs+1≤U.heap.size:=Qb HUB.o;obtain⟨x0,⟨m0,m1,m2,m3⟩,-⟩:=HSU.o U (Below.refl _ _);go_wp2_with fail;refine(KEN.o (fi:Nat) U (BW.o.trans (BU.o.mono ZO))).mono ?_;rintro e w1 ⟨rfl,b1⟩;have B1:=Zh (show Below (xs+1) U w1 from b1.mono hxU);clear b1 x0 m0 m1 m2 m3;obtain⟨x0,⟨m0,m1,m2,m3⟩,s0,s1,s2,s3⟩:=HSU.o w1 B1.o;have HBX:=Zh (show ∀x,Below (xs+1) U x→Below z w x from fun x q=>BW.o.trans ((BU.o.trans (q.mono ZO)).mono ZO));have hw1:xs+1≤w1.heap.size:=by have:=B1.o.size;omega
  by_cases h9:op=9
  ·have HNQ:=Zh (show Qmd p X ⟨kd,(fi:Nat),(bk:Nat),(sj:Nat)⟩=[⟨2,(fi:Nat),-1,-1⟩] by unfold Qmd;rw[if_neg hk1,if_neg hk2,HSD.o,if_pos h9]);subst h9;go_wp2;go_ret;exact⟨_,rfl,by rw[HNQ.o];exact QSw w1 _,by rw[HZ.o];exact(HBX.o w1 B1.o).alloc ZO _⟩
  have t9:(op==9)=false:=by simpa using h9
  by_cases h33:op=3∧kd=3
  ·obtain⟨h3,hk3⟩:=h33;have HNQ:=Zh (show Qmd p X ⟨kd,(fi:Nat),(bk:Nat),(sj:Nat)⟩=[⟨1,fnI p (tgt s),-1,-1⟩] by unfold Qmd;dsimp only;rw[if_neg hk1,if_neg hk2,HSD.o,if_neg h9,if_pos ⟨h3,hk3⟩,HSE.o]);obtain⟨tg,htg⟩:=QZi HSB.o (HOP.o.trans h3);have htn:tn=1:=by rw[←HTN.o,htg];rfl
   have HTG:=Zh (show tgt s=tg by unfold tgt;rw[htg];rfl);obtain⟨tb,to_,rfl,htb,t0⟩:∃tb to_,ta=some ⟨tb,to_,none⟩∧tb<z∧w.cell? ⟨tb,to_,none⟩=some (sv tg):=by
    obtain⟨a',c',e,-,hc'⟩:=HTA.o.cell;injection e with e
    subst e;obtain⟨tb,to_,e,h6,h5⟩:=hc' 0 tg (by rw[htg];rfl);exact⟨tb,to_,e,by rw[←HZ.o];exact h6,h5⟩
   subst h3 hk3 htn;have T0:=Zh (show ∀x,Below (xs+1) U x→x.cell? ⟨tb,to_,none⟩=some (sv tg) from fun x q=>((HBX.o x q).cell (p:=⟨tb,to_,none⟩) htb).trans t0);have t0:=T0.o w1 B1.o;clear htg h9 t9;go_upto_region 17 with(fail)
   refine Zr (fun w'=>w'.cell? ⟨z,0,none⟩=some (.slice (some ⟨fb,fo,none⟩) pn c)∧w'.cell? ⟨xs,3,none⟩=some (.slice (some ⟨tb,to_,none⟩) 1 tc)∧w'.cell? ⟨tb,to_,none⟩=some (sv tg)) 12 (⟨x0,s3,t0⟩) fun hS0=>?_
   refine Yd 0 126 ?_;refine Yd 1 127 ?_;refine Yd 2 128 ?_;refine Yd 3 129 ?_;refine Yd 4 130 ?_;refine Yd 5 131 ?_;refine QP 6 (some 132) 134 #[.agg #[.slice (some ⟨fb,fo,none⟩) pn c],sv tg] rfl ZK ZK ZK rfl ?_;refine(KFN.o tg _ (HBX.o _ (Qp B1.o 1))).mono ?_;rintro e w2 ⟨rfl,b2⟩;have B2:=Zh (show Below (xs+1) U w2 from(Qp B1.o 1).trans (b2.mono hw1));clear b2 hS0;refine⟨_,rfl,Zi ⟨(HSU.o _ B2.o).1,(HSU.o _ B2.o).2.2.2.2.2,T0.o _ B2.o⟩ fun hS0=>?_⟩;refine QP 7 (some 133) 133 #[.slice (some ⟨lb,lo,none⟩) ln lc,iv (fnI p tg)] rfl ZK ZK ZK rfl ?_;refine(KEN.o (fnI p tg) _ (HBX.o _ B2.o)).mono ?_;rintro e w3 ⟨rfl,b3⟩;have B3:=Zh (show Below (xs+1) U w3 from B2.o.trans (b3.mono (by have:=B2.o.size;omega)));clear b3 hS0;refine⟨_,rfl,Zi ⟨(HSU.o _ B3.o).1,(HSU.o _ B3.o).2.2.2.2.2,T0.o _ B3.o⟩ fun hS0=>?_⟩;refine Yd 8 125 ?_;refine Yd 9 134 ?_;refine Yd 10 135 ?_;refine Yd 11 13 ?_;refine QW 12 (some 14) (iv (idxI X ⟨2,fnI p tg,-1,-1⟩)) w3 rfl ZK ZK (by go_simp) rfl (fun h=>absurd rfl h) ?_;refine Qu ZK ?_ _;generalize hA:Act.put _ _ _=A0;simp only[Qba,Qaa,Zu,Zv,Zw] at hA;subst hA;clear hS0 x0 m0 m1 m2 m3 s0 s1 s2 s3 t0;go_wp2;go_ret;exact⟨_,rfl,by rw[HNQ.o,HTG.o];exact QSw w3 _,by rw[HZ.o];exact(HBX.o w3 B3.o).alloc (by have:=(HBX.o w3 B3.o).size;have:=HZ.o;omega) _⟩
  have w31:IntKind.i64.wrap ((sj:Int)+1)=(sj:Int)+1:=IntWalk.i64_in _ ZO;by_cases h3:op=3
  ·have hk4:kd=4:=by
    rcases hkd with h|h
    ·exact absurd ⟨h3,h⟩ h33
    ·exact h.1
   have HNQ:=Zh (show Qmd p X ⟨kd,(fi:Nat),(bk:Nat),(sj:Nat)⟩=[⟨3,(fi:Nat),(bk:Nat),(sj:Int)+1⟩] by unfold Qmd;dsimp only;rw[if_neg hk1,if_neg hk2,HSD.o,if_neg h9,if_neg h33,if_neg ZO]);clear h33 hkd;subst h3 hk4;go_wp2_with fail;refine(KSN.o (fi:Nat) (bk:Nat) ((sj:Int)+1) w1 (HBX.o w1 B1.o)).mono ?_;rintro e w2 ⟨rfl,b2⟩;have B2:=Zh (show Below (xs+1) U w2 from B1.o.trans (b2.mono hw1));clear b2 x0 m0 m1 m2 m3 s0 s1 s2 s3;go_wp2;go_ret;exact⟨_,rfl,by rw[HNQ.o];exact QSw w2 _,by rw[HZ.o];exact(HBX.o w2 B2.o).alloc (by have:=(HBX.o w2 B2.o).size;have:=HZ.o;omega) _⟩
  have t3:(op==3)=false:=by simpa using h3
  by_cases h78:op=7∨op=8;rotate_left
  ·have t7:(op==7)=false:=by simpa using fun h=>h78 (.inl h)
   have t8:(op==8)=false:=by simpa using fun h=>h78 (.inr h)
   have HNQ:=Zh (show Qmd p X ⟨kd,(fi:Nat),(bk:Nat),(sj:Nat)⟩=[⟨3,(fi:Nat),(bk:Nat),(sj:Int)+1⟩] by unfold Qmd;dsimp only;rw[if_neg hk1,if_neg hk2,HSD.o,if_neg h9,if_neg h33,if_neg h78]);clear h33 h78 h9 h3;go_wp2_with fail;refine(KSN.o (fi:Nat) (bk:Nat) ((sj:Int)+1) w1 (HBX.o w1 B1.o)).mono ?_;rintro e w2 ⟨rfl,b2⟩;have B2:=Zh (show Below (xs+1) U w2 from B1.o.trans (b2.mono hw1));clear b2 x0 m0 m1 m2 m3 s0 s1 s2 s3;go_wp2;go_ret;exact⟨_,rfl,by rw[HNQ.o];exact QSw w2 _,by rw[HZ.o];exact(HBX.o w2 B2.o).alloc (by have:=(HBX.o w2 B2.o).size;have:=HZ.o;omega) _⟩
  have HNQ:=Zh (show Qmd p X ⟨kd,(fi:Nat),(bk:Nat),(sj:Nat)⟩=s.targets.map fun t=>⟨3,(fi:Nat),blkI f t,0⟩ by
   unfold Qmd;dsimp only;rw[if_neg hk1,if_neg hk2,HSD.o,if_neg h9,if_neg h33,if_pos h78,HSE.o];unfold fnOf;simp[HAT.o.hf])
  have htn2:tn≤2:=by rw[←HTN.o];exact QNw HSB.o
  clear h33 h3 h9;rcases h78 with h78|h78
  ·subst h78;go_upto_region 20 with(fail)
   go_wp2;clear x0 m0 m1 m2 m3 s0 s1 s2 s3;go_loopw [15,16] (fun V y wr=>∃(q:Nat) (Y:Value),q≤tn∧Y=V∧y=.int .i64 q∧Hid (Below (xs+1) U wr)∧Hid (OwnI (xs+1) wr Y (((s.targets.take q).map fun t=>(⟨3,(fi:Nat),blkI f t,0⟩:Qx)).map (idxI X)))) (fun _ y _=>tn-(intOf y).toNat)
   case atStart=>exact⟨0,_,Nat.zero_le _,rfl,rfl,B1.o,by unfold Hid OwnI;simp[World.ownsRow]⟩
   case round=>
    obtain⟨q,V,hq,rfl,rfl,HB,HO⟩:=hrel;obtain⟨-,-,-,-,-,s3⟩:=HSU.o wr HB.o;by_cases hlt:q<tn;rotate_left
    ·have HF:=Zh (show QJa wr V ((s.targets.map fun t=>(⟨3,(fi:Nat),blkI f t,0⟩:Qx)).map (idxI X)) by
      have h:=HO.o;rw[List.take_of_length_le (by rw[HTN.o];omega)] at h;exact Qg.of_owns h)
     go_wp2;go_ret;exact⟨_,rfl,by rw[HNQ.o];exact HF.o,by rw[HZ.o];exact HBX.o wr HB.o⟩
    ·obtain⟨y,hy⟩:∃y,s.targets[q]? = some y:=⟨_,List.getElem?_eq_getElem (by rw[HTN.o];exact hlt)⟩;obtain⟨tb,to_,rfl,htb,t0⟩:∃tb to_,ta=some ⟨tb,to_,none⟩∧tb<z∧w.cell? ⟨tb,to_+q,none⟩=some (sv y):=by
      obtain⟨a',c',e,-,hc'⟩:=HTA.o.cell;injection e with e
      subst e;obtain⟨tb,to_,e,h6,h5⟩:=hc' q y hy;exact⟨tb,to_,e,by rw[←HZ.o];exact h6,h5⟩
     have hqt:(q:Int)<(tn:Int):=by omega
     have HS24:=Zh (show ∀x,Below (xs+1) U x→x.cell? ⟨z,0,none⟩=some (.slice (some ⟨fb,fo,none⟩) pn c)∧x.cell? ⟨z+1,1,none⟩=some (iv (fi:Nat))∧x.cell? ⟨fb,fo+fi*2,none⟩=some (sv f.name)∧x.cell? ⟨fb,fo+fi*2+1,none⟩=some (.slice (some ⟨bb,bo,none⟩) bn bc)∧x.cell? ⟨xs,3,none⟩=some (.slice (some ⟨tb,to_,none⟩) tn tc)∧x.cell? ⟨tb,to_+q,none⟩=some (sv y) from fun x q2=>by
      obtain⟨p0,⟨-,p1,-,-⟩,-,-,-,p3⟩:=HSU.o x q2;have PB:=PW.o.below (HZ.o▸HBX.o x q2:Below w.heap.size w x);have b0:=PB.f0;have b1:=PB.f1;rw[HBN.o] at b1;exact⟨p0,p1,b0,b1,p3,((HBX.o x q2).cell (p:=⟨tb,to_+q,none⟩) htb).trans t0⟩)
     have HTK:=Zh (show((s.targets.take (q+1)).map fun t=>(⟨3,(fi:Nat),blkI f t,0⟩:Qx)).map (idxI X)=((s.targets.take q).map fun t=>(⟨3,(fi:Nat),blkI f t,0⟩:Qx)).map (idxI X)++[idxI X ⟨3,(fi:Nat),blkI f y,0⟩] by rw[List.take_add_one,hy];simp);have hll:(((s.targets.take q).map fun t=>(⟨3,(fi:Nat),blkI f t,0⟩:Qx)).map (idxI X)).length≤2:=by rw[List.length_map,List.length_map,List.length_take];omega
     obtain⟨L1,hL1⟩:=Ze (((s.targets.take q).map fun t=>(⟨3,(fi:Nat),blkI f t,0⟩:Qx)).map (idxI X));rw[hL1] at HO HTK hll;have hzr:xs+1≤wr.heap.size:=by have:=HB.o.size;omega
     have HBL:=Zh (show QOc w (.slice (some ⟨bb,bo,none⟩) bn bc) f.blocks by have h:=PW.o.bl;rw[HBN.o] at h;exact h);clear hy hL1 t0;go_upto_region 24 with(fail)
     clear s3;refine Zr (fun w'=>w'.cell? ⟨z,0,none⟩=some (.slice (some ⟨fb,fo,none⟩) pn c)∧w'.cell? ⟨z+1,1,none⟩=some (iv (fi:Nat))∧w'.cell? ⟨fb,fo+fi*2,none⟩=some (sv f.name)∧w'.cell? ⟨fb,fo+fi*2+1,none⟩=some (.slice (some ⟨bb,bo,none⟩) bn bc)∧w'.cell? ⟨xs,3,none⟩=some (.slice (some ⟨tb,to_,none⟩) tn tc)∧w'.cell? ⟨tb,to_+q,none⟩=some (sv y)) 20 (HS24.o _ (Qp HB.o 1)) fun hS0=>?_
     refine Yd 0 154 ?_;refine Yd 1 155 ?_;refine Yd 2 156 ?_;refine Yd 3 157 ?_;refine Yd 4 158 ?_;refine Yd 5 159 ?_;refine Yd 6 160 ?_;refine Yd 7 161 ?_;refine Yd 8 162 ?_;refine Yd 9 163 ?_;refine Yd 11 165 ?_;refine Yd 12 166 ?_;refine Yd 13 167 ?_;refine Yd 14 168 ?_;refine Yd 15 169 ?_;refine QP 10 (some 164) 129 #[.agg #[sv f.name,.slice (some ⟨bb,bo,none⟩) bn bc]] rfl ZK ZK ZK rfl ?_;refine(KBN.o f _ _ HAT.o.fm HBL.o (HBX.o _ (Qp HB.o 1))).mono ?_;rintro e w2 ⟨nv,rfl,hnv,b_w2⟩;have B_w2:=Zh (show Below (xs+1) U w2 from(Qp HB.o 1).trans (b_w2.mono (by have:=(Qp HB.o 1).size;omega)));have C_w2:=Zh (show Below wr.heap.size wr w2 from(Qp (Below.refl wr.heap.size wr) 1).trans (b_w2.mono (Qp (Below.refl wr.heap.size wr) 1).size));have HNV:=Zh hnv;clear hnv;clear b_w2 hS0;refine⟨_,rfl,Zi (HS24.o _ B_w2.o) fun hS0=>?_⟩;refine QP 16 (some 170) 121 #[nv,sv y] rfl ZK ZK ZK rfl ?_;refine(Qtw (QPb f) nv y w2 HNV.o).mono ?_;rintro e w3 ⟨rfl,b_w3⟩;have B_w3:=Zh (show Below (xs+1) U w3 from(B_w2.o).trans (b_w3.mono (by have:=(B_w2.o).size;omega)));have C_w3:=Zh (show Below wr.heap.size wr w3 from(C_w2.o).trans (b_w3.mono (C_w2.o).size));clear b_w3 hS0;refine⟨_,rfl,Zi (HS24.o _ B_w3.o) fun hS0=>?_⟩;refine QP 17 (some 171) 132 #[.slice (some ⟨lb,lo,none⟩) ln lc,iv (fi:Nat),iv (blkI f y),iv 0] rfl ZK ZK ZK rfl ?_;refine(KSN.o (fi:Nat) (blkI f y) 0 w3 (HBX.o _ B_w3.o)).mono ?_;rintro e w4 ⟨rfl,b_w4⟩;have B_w4:=Zh (show Below (xs+1) U w4 from(B_w3.o).trans (b_w4.mono (by have:=(B_w3.o).size;omega)));have C_w4:=Zh (show Below wr.heap.size wr w4 from(C_w3.o).trans (b_w4.mono (C_w3.o).size));have HO4:=Zh (show OwnI (xs+1) w4 V L1 from QZd HO.o C_w4.o);clear b_w4 hS0;refine⟨_,rfl,Zi (HS24.o _ B_w4.o) fun hS0=>?_⟩;obtain⟨E,hE⟩:=Ze (w4.alloc (.cells #[iv (idxI X ⟨3,(fi:Nat),blkI f y,0⟩)] 3));have B_E:=Zh (show Below (xs+1) U E by rw[←hE];exact B_w4.o.alloc (by have:=B_w4.o.size;omega) _);refine QW 18 (some 172) (.slice (some ⟨w4.heap.size,0,none⟩) 1 1) E rfl ZK ZK ?rv24a rfl (fun _=>HS24.o _ B_E.o) ?_
     case rv24a=>rw[←hE];go_simp
     clear hS0;have hS0:(fun w':World=>w'.cell? ⟨z,0,none⟩=some (.slice (some ⟨fb,fo,none⟩) pn c)∧w'.cell? ⟨z+1,1,none⟩=some (iv (fi:Nat))∧w'.cell? ⟨fb,fo+fi*2,none⟩=some (sv f.name)∧w'.cell? ⟨fb,fo+fi*2+1,none⟩=some (.slice (some ⟨bb,bo,none⟩) bn bc)∧w'.cell? ⟨xs,3,none⟩=some (.slice (some ⟨tb,to_,none⟩) tn tc)∧w'.cell? ⟨tb,to_+q,none⟩=some (sv y)) E:=HS24.o _ B_E.o;refine Qgi 19 (some 173) (w:=w4) [iv (idxI X ⟨3,(fi:Nat),blkI f y,0⟩)] 3 hE rfl ZK ZK rfl _ _ 22 rfl (xs+1) _ 1 8 Tryz.underlying22 QRa rfl ZD V _ _ HO4.o ZK ZK rfl rfl (by unfold maxLen;omega) ZO (by have:=B_w4.o.size;omega) ?_;intro g5 cap w5 ho hg5 _;have B_w5:=Zh (show Below (xs+1) U w5 from B_w4.o.trans (Below.of_grown hg5 HO4.o (by have:=B_w4.o.size;omega)));have HO5:=Zh (show OwnI (xs+1) w5 (.slice (some ⟨g5,0,none⟩) (L1.length+1) cap) (L1++[idxI X ⟨3,(fi:Nat),blkI f y,0⟩]) from OwnI.push rfl ho);clear ho hg5 hS0 hE;refine Zi (HS24.o _ B_w5.o) fun hS0=>?_
     refine QW 20 (some 15) (.slice (some ⟨g5,0,none⟩) (L1.length+1) cap) w5 rfl ZK ZK (by go_simp) rfl (fun h=>absurd rfl h) ?_;refine Qu ZK ?_ _;generalize hA:Act.put _ _ _=A0;simp only[Qba,Qaa,Zu,Zv,Zw] at hA;subst hA;clear hS0;go_wp2;go_roundw
     case rel=>exact⟨q+1,_,by omega,rfl,by go_num,B_w5.o,by rw[HTK.o];exact HO5.o⟩
     case measure=>simp[intOf];omega
  ·subst h78;go_upto_region 20 with(fail)
   go_wp2;clear x0 m0 m1 m2 m3 s0 s1 s2 s3;go_loopw [15,16] (fun V y wr=>∃(q:Nat) (Y:Value),q≤tn∧Y=V∧y=.int .i64 q∧Hid (Below (xs+1) U wr)∧Hid (OwnI (xs+1) wr Y (((s.targets.take q).map fun t=>(⟨3,(fi:Nat),blkI f t,0⟩:Qx)).map (idxI X)))) (fun _ y _=>tn-(intOf y).toNat)
   case atStart=>exact⟨0,_,Nat.zero_le _,rfl,rfl,B1.o,by unfold Hid OwnI;simp[World.ownsRow]⟩
   case round=>
    obtain⟨q,V,hq,rfl,rfl,HB,HO⟩:=hrel;obtain⟨-,-,-,-,-,s3⟩:=HSU.o wr HB.o;by_cases hlt:q<tn;rotate_left
    ·have HF:=Zh (show QJa wr V ((s.targets.map fun t=>(⟨3,(fi:Nat),blkI f t,0⟩:Qx)).map (idxI X)) by
      have h:=HO.o;rw[List.take_of_length_le (by rw[HTN.o];omega)] at h;exact Qg.of_owns h)
     go_wp2;go_ret;exact⟨_,rfl,by rw[HNQ.o];exact HF.o,by rw[HZ.o];exact HBX.o wr HB.o⟩
    ·obtain⟨y,hy⟩:∃y,s.targets[q]? = some y:=⟨_,List.getElem?_eq_getElem (by rw[HTN.o];exact hlt)⟩;obtain⟨tb,to_,rfl,htb,t0⟩:∃tb to_,ta=some ⟨tb,to_,none⟩∧tb<z∧w.cell? ⟨tb,to_+q,none⟩=some (sv y):=by
      obtain⟨a',c',e,-,hc'⟩:=HTA.o.cell;injection e with e
      subst e;obtain⟨tb,to_,e,h6,h5⟩:=hc' q y hy;exact⟨tb,to_,e,by rw[←HZ.o];exact h6,h5⟩
     have hqt:(q:Int)<(tn:Int):=by omega
     have HS24:=Zh (show ∀x,Below (xs+1) U x→x.cell? ⟨z,0,none⟩=some (.slice (some ⟨fb,fo,none⟩) pn c)∧x.cell? ⟨z+1,1,none⟩=some (iv (fi:Nat))∧x.cell? ⟨fb,fo+fi*2,none⟩=some (sv f.name)∧x.cell? ⟨fb,fo+fi*2+1,none⟩=some (.slice (some ⟨bb,bo,none⟩) bn bc)∧x.cell? ⟨xs,3,none⟩=some (.slice (some ⟨tb,to_,none⟩) tn tc)∧x.cell? ⟨tb,to_+q,none⟩=some (sv y) from fun x q2=>by
      obtain⟨p0,⟨-,p1,-,-⟩,-,-,-,p3⟩:=HSU.o x q2;have PB:=PW.o.below (HZ.o▸HBX.o x q2:Below w.heap.size w x);have b0:=PB.f0;have b1:=PB.f1;rw[HBN.o] at b1;exact⟨p0,p1,b0,b1,p3,((HBX.o x q2).cell (p:=⟨tb,to_+q,none⟩) htb).trans t0⟩)
     have HTK:=Zh (show((s.targets.take (q+1)).map fun t=>(⟨3,(fi:Nat),blkI f t,0⟩:Qx)).map (idxI X)=((s.targets.take q).map fun t=>(⟨3,(fi:Nat),blkI f t,0⟩:Qx)).map (idxI X)++[idxI X ⟨3,(fi:Nat),blkI f y,0⟩] by rw[List.take_add_one,hy];simp);have hll:(((s.targets.take q).map fun t=>(⟨3,(fi:Nat),blkI f t,0⟩:Qx)).map (idxI X)).length≤2:=by rw[List.length_map,List.length_map,List.length_take];omega
     obtain⟨L1,hL1⟩:=Ze (((s.targets.take q).map fun t=>(⟨3,(fi:Nat),blkI f t,0⟩:Qx)).map (idxI X));rw[hL1] at HO HTK hll;have hzr:xs+1≤wr.heap.size:=by have:=HB.o.size;omega
     have HBL:=Zh (show QOc w (.slice (some ⟨bb,bo,none⟩) bn bc) f.blocks by have h:=PW.o.bl;rw[HBN.o] at h;exact h);clear hy hL1 t0;go_upto_region 24 with(fail)
     clear s3;refine Zr (fun w'=>w'.cell? ⟨z,0,none⟩=some (.slice (some ⟨fb,fo,none⟩) pn c)∧w'.cell? ⟨z+1,1,none⟩=some (iv (fi:Nat))∧w'.cell? ⟨fb,fo+fi*2,none⟩=some (sv f.name)∧w'.cell? ⟨fb,fo+fi*2+1,none⟩=some (.slice (some ⟨bb,bo,none⟩) bn bc)∧w'.cell? ⟨xs,3,none⟩=some (.slice (some ⟨tb,to_,none⟩) tn tc)∧w'.cell? ⟨tb,to_+q,none⟩=some (sv y)) 20 (HS24.o _ (Qp HB.o 1)) fun hS0=>?_
     refine Yd 0 154 ?_;refine Yd 1 155 ?_;refine Yd 2 156 ?_;refine Yd 3 157 ?_;refine Yd 4 158 ?_;refine Yd 5 159 ?_;refine Yd 6 160 ?_;refine Yd 7 161 ?_;refine Yd 8 162 ?_;refine Yd 9 163 ?_;refine Yd 11 165 ?_;refine Yd 12 166 ?_;refine Yd 13 167 ?_;refine Yd 14 168 ?_;refine Yd 15 169 ?_;refine QP 10 (some 164) 129 #[.agg #[sv f.name,.slice (some ⟨bb,bo,none⟩) bn bc]] rfl ZK ZK ZK rfl ?_;refine(KBN.o f _ _ HAT.o.fm HBL.o (HBX.o _ (Qp HB.o 1))).mono ?_;rintro e w2 ⟨nv,rfl,hnv,b_w2⟩;have B_w2:=Zh (show Below (xs+1) U w2 from(Qp HB.o 1).trans (b_w2.mono (by have:=(Qp HB.o 1).size;omega)));have C_w2:=Zh (show Below wr.heap.size wr w2 from(Qp (Below.refl wr.heap.size wr) 1).trans (b_w2.mono (Qp (Below.refl wr.heap.size wr) 1).size));have HNV:=Zh hnv;clear hnv;clear b_w2 hS0;refine⟨_,rfl,Zi (HS24.o _ B_w2.o) fun hS0=>?_⟩;refine QP 16 (some 170) 121 #[nv,sv y] rfl ZK ZK ZK rfl ?_;refine(Qtw (QPb f) nv y w2 HNV.o).mono ?_;rintro e w3 ⟨rfl,b_w3⟩;have B_w3:=Zh (show Below (xs+1) U w3 from(B_w2.o).trans (b_w3.mono (by have:=(B_w2.o).size;omega)));have C_w3:=Zh (show Below wr.heap.size wr w3 from(C_w2.o).trans (b_w3.mono (C_w2.o).size));clear b_w3 hS0;refine⟨_,rfl,Zi (HS24.o _ B_w3.o) fun hS0=>?_⟩;refine QP 17 (some 171) 132 #[.slice (some ⟨lb,lo,none⟩) ln lc,iv (fi:Nat),iv (blkI f y),iv 0] rfl ZK ZK ZK rfl ?_;refine(KSN.o (fi:Nat) (blkI f y) 0 w3 (HBX.o _ B_w3.o)).mono ?_;rintro e w4 ⟨rfl,b_w4⟩;have B_w4:=Zh (show Below (xs+1) U w4 from(B_w3.o).trans (b_w4.mono (by have:=(B_w3.o).size;omega)));have C_w4:=Zh (show Below wr.heap.size wr w4 from(C_w3.o).trans (b_w4.mono (C_w3.o).size));have HO4:=Zh (show OwnI (xs+1) w4 V L1 from QZd HO.o C_w4.o);clear b_w4 hS0;refine⟨_,rfl,Zi (HS24.o _ B_w4.o) fun hS0=>?_⟩;obtain⟨E,hE⟩:=Ze (w4.alloc (.cells #[iv (idxI X ⟨3,(fi:Nat),blkI f y,0⟩)] 3));have B_E:=Zh (show Below (xs+1) U E by rw[←hE];exact B_w4.o.alloc (by have:=B_w4.o.size;omega) _);refine QW 18 (some 172) (.slice (some ⟨w4.heap.size,0,none⟩) 1 1) E rfl ZK ZK ?rv24b rfl (fun _=>HS24.o _ B_E.o) ?_
     case rv24b=>rw[←hE];go_simp
     clear hS0;have hS0:(fun w':World=>w'.cell? ⟨z,0,none⟩=some (.slice (some ⟨fb,fo,none⟩) pn c)∧w'.cell? ⟨z+1,1,none⟩=some (iv (fi:Nat))∧w'.cell? ⟨fb,fo+fi*2,none⟩=some (sv f.name)∧w'.cell? ⟨fb,fo+fi*2+1,none⟩=some (.slice (some ⟨bb,bo,none⟩) bn bc)∧w'.cell? ⟨xs,3,none⟩=some (.slice (some ⟨tb,to_,none⟩) tn tc)∧w'.cell? ⟨tb,to_+q,none⟩=some (sv y)) E:=HS24.o _ B_E.o;refine Qgi 19 (some 173) (w:=w4) [iv (idxI X ⟨3,(fi:Nat),blkI f y,0⟩)] 3 hE rfl ZK ZK rfl _ _ 22 rfl (xs+1) _ 1 8 Tryz.underlying22 QRa rfl ZD V _ _ HO4.o ZK ZK rfl rfl (by unfold maxLen;omega) ZO (by have:=B_w4.o.size;omega) ?_;intro g5 cap w5 ho hg5 _;have B_w5:=Zh (show Below (xs+1) U w5 from B_w4.o.trans (Below.of_grown hg5 HO4.o (by have:=B_w4.o.size;omega)));have HO5:=Zh (show OwnI (xs+1) w5 (.slice (some ⟨g5,0,none⟩) (L1.length+1) cap) (L1++[idxI X ⟨3,(fi:Nat),blkI f y,0⟩]) from OwnI.push rfl ho);clear ho hg5 hS0 hE;refine Zi (HS24.o _ B_w5.o) fun hS0=>?_
     refine QW 20 (some 15) (.slice (some ⟨g5,0,none⟩) (L1.length+1) cap) w5 rfl ZK ZK (by go_simp) rfl (fun h=>absurd rfl h) ?_;refine Qu ZK ?_ _;generalize hA:Act.put _ _ _=A0;simp only[Qba,Qaa,Zu,Zv,Zw] at hA;subst hA;clear hS0;go_wp2;go_roundw
     case rel=>exact⟨q+1,_,by omega,rfl,by go_num,B_w5.o,by rw[HTK.o];exact HO5.o⟩
     case measure=>simp[intOf];omega
end
section
def rowA (E:List (Int×Int))(j:Int):List Int:=((E.filter fun e=>decide (e.1=j)).map Prod.snd).foldl insI []
theorem QIw (E:List (Int×Int))(a b j:Int):rowA (E++[(a,b)]) j=if a=j then insI (rowA E j) b else rowA E j:=by
 unfold rowA;rw[List.filter_append,List.map_append,List.foldl_append];by_cases h:a=j
 ·rw[if_pos h];simp[h]
 ·rw[if_neg h];simp[h]
theorem QFw (E:List (Int×Int))(j:Int):Asc (rowA E j):=by
 unfold rowA;exact(Qox (l:=[]) List.Pairwise.nil).1
theorem Qex {E:List (Int×Int)}{j x:Int}:x∈rowA E j↔(j,x)∈E:=by
 unfold rowA;rw[(Qox (l:=[]) List.Pairwise.nil).2 x];simp only[List.not_mem_nil,false_or,List.mem_map,List.mem_filter,decide_eq_true_eq];constructor
 ·rintro⟨⟨a,b⟩,⟨h1,h2⟩,h3⟩;simp only at h2 h3;subst h2 h3;exact h1
 ·intro h;exact⟨(j,x),⟨h,rfl⟩,rfl⟩
theorem Qxx {n:Nat}{E:List (Int×Int)}(h:∀e∈E,0≤e.2∧e.2<n)(j:Int):(rowA E j).length≤n:=by
 have h1:∀x∈rowA E j,0≤x∧x<n:=fun x hx=>h _ (Qex.1 hx)
 have h2:rowA E j=rowF n fun k=>decide ((k:Int)∈rowA E j):=QIi (QFw E j) (Qzh _ _) fun x=>by
  rw[Qih];constructor
  ·intro hx;obtain⟨h3,h4⟩:=h1 x hx;exact⟨x.toNat,by omega,by omega,by rw[show((x.toNat:Nat):Int)=x by omega];simpa using hx⟩
  ·rintro⟨k,rfl,-,h3⟩
   simpa using h3
 rw[h2];exact Qbm _ _
def sucI (p:List Qo)(X:List Qx)(i:Nat):List Int:=match X[i]? with|some n=>(Qmd p X n).map (idxI X)|none=>[]
def QEw (p:List Qo)(X:List Qx)(k:Nat):List (Int×Int):=((List.range k).map fun i=>(sucI p X i).map fun s=>((i:Int),s)).flatten
theorem Qhx (p:List Qo)(X:List Qx)(k:Nat):QEw p X (k+1)=QEw p X k++(sucI p X k).map fun s=>((k:Int),s):=by
 unfold QEw;rw[List.range_succ,List.map_append,List.flatten_append];simp
theorem QRw {p:List Qo}(hc:Ckd p){X:List Qx}(hX:QB p 0=X){i:Nat}{x:Int}:x∈sucI p X i↔∃k:Nat,x=k∧k<X.length∧Qve p X i k=true:=by
 subst hX;unfold sucI Qve
 cases hi:(QB p 0)[i]? with
|none=>simp
|some n=>
  have hn:n∈QB p 0:=List.mem_of_getElem? hi;simp only[List.mem_map];constructor
  ·rintro⟨m,hm,rfl⟩;obtain⟨k,hkm,hk⟩:=Qgc (Qum hc hn hm);refine⟨k,hkm,(List.getElem?_eq_some_iff.1 hk).1,?_⟩;rw[hk]
   simpa using hm
  ·rintro⟨k,rfl,hk,he⟩;have h1:(QB p 0)[k]? = some (QB p 0)[k]:=List.getElem?_eq_getElem hk;rw[h1] at he;exact⟨_,by simpa using he,QBg (QIe p 0) h1⟩
theorem QKw {p:List Qo}(hc:Ckd p){X:List Qx}(hX:QB p 0=X){a b:Int}:∀{n:Nat},(a,b)∈QEw p X n↔∃i k:Nat,a=i∧b=k∧i<n∧k<X.length∧Qve p X i k=true
|0=>by
  constructor
  ·intro h;simp[QEw] at h
  ·rintro⟨i,k,-,-,h,-⟩;omega
|n+1=>by
  rw[Qhx,List.mem_append,QKw hc hX (n:=n)]
  constructor
  ·rintro(⟨i,k,h1,h2,h3,h4⟩|h)
   ·exact⟨i,k,h1,h2,by omega,h4⟩
   ·obtain⟨s,hs,e⟩:=List.mem_map.1 h
    injection e with e1 e2
    subst e1 e2
    obtain⟨k,h1,h2,h3⟩:=(QRw hc hX).1 hs
    exact⟨n,k,rfl,h1,by omega,h2,h3⟩
  ·rintro⟨i,k,h1,h2,h3,h4,h5⟩
   rcases Nat.lt_or_eq_of_le (Nat.le_of_lt_succ h3) with h|h
   ·exact .inl ⟨i,k,h1,h2,h,h4,h5⟩
   ·subst h
    exact .inr (List.mem_map.2 ⟨b,(QRw hc hX).2 ⟨k,h2,h4,h5⟩,by rw[h1]⟩)
def Qxw (E:List (Int×Int)):List (Int×Int):=E.map fun e=>(e.2,e.1)
theorem Qax (E:List (Int×Int))(a b:Int):Qxw (E++[(a,b)])=Qxw E++[(b,a)]:=by simp[Qxw]
theorem Qnx {E:List (Int×Int)}{a b:Int}:(a,b)∈Qxw E↔(b,a)∈E:=by
 unfold Qxw;rw[List.mem_map];constructor
 ·rintro⟨⟨x,y⟩,h,e⟩;injection e with e1 e2
  subst e1 e2;exact h
 ·intro h;exact⟨(b,a),h,rfl⟩
def Qwx (E:List (Int×Int))(n:Nat):List (List Int):=(List.range n).map fun j:Nat=>rowA E (j:Int)
theorem Qoy {p:List Qo}(h:QFa p=0){X:List Qx}(hX:QB p 0=X):Qwx (QEw p X X.length) X.length=Qkc p∧Qwx (Qxw (QEw p X X.length)) X.length=Qmc p:=by
 have hc:=Qzb h;have hN:QR p=X:=(Qne h).trans hX;unfold Qwx Qkc Qmc;rw[hN];constructor
 ·refine List.map_congr_left fun j hj=>QIi (QFw _ _) (by first|exact Qzh _ _|(unfold QLl;exact Qzh _ _)|(unfold Qgm;exact Qzh _ _)) fun x=>?_
  have hj:=List.mem_range.1 hj;unfold QLl;rw[hN,Qex,QKw hc hX,Qih];constructor
  ·rintro⟨i,k,h1,h2,-,h4,h5⟩;obtain rfl:j=i:=by omega
   exact⟨k,h2,h4,h5⟩
  ·rintro⟨k,h2,h4,h5⟩;exact⟨j,k,rfl,h2,hj,h4,h5⟩
 ·refine List.map_congr_left fun j hj=>QIi (QFw _ _) (by first|exact Qzh _ _|(unfold QLl;exact Qzh _ _)|(unfold Qgm;exact Qzh _ _)) fun x=>?_
  have hj:=List.mem_range.1 hj;unfold Qgm;rw[hN,Qex,Qnx,QKw hc hX,Qih];constructor
  ·rintro⟨i,k,h1,h2,h3,h4,h5⟩;obtain rfl:j=k:=by omega
   exact⟨i,h1,h3,h5⟩
  ·rintro⟨i,h1,h3,h5⟩;exact⟨i,j,h1,rfl,h3,hj,h5⟩
end
end Go.Proofs.YtijekimobahgpaaGreatDoor
