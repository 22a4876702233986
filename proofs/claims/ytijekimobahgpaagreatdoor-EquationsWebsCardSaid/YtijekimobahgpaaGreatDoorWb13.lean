/- A part of the proof. -/
import Derived.Test.YtijekimobahgpaaGreatDoorWb09
import Derived.Deep.LoopGhost
set_option linter.unusedVariables false
set_option linter.unusedSimpArgs false
set_option linter.unusedSectionVars false
set_option maxRecDepth 100000
set_option maxHeartbeats 16000000
namespace Go.Proofs.YtijekimobahgpaaGreatDoor
section
open Go.RowKit
variable [Base]
abbrev PRT:TypeId:=25
theorem QBk (p:List Qo):(Qkc p).length=(QR p).length:=by simp[Qkc]
theorem QCk (p:List Qo):(Qmc p).length=(QR p).length:=by simp[Qmc]
theorem Qqu {B:Nat}{w:World}(kw:KwIn B w)(ef:Qmg B w)(tz:TzIn B w)(hB:B≤w.heap.size)(p:List Qo)(v:Value)(h:QAa w v p)(hf:∀f∈p,∀b∈f.blocks,∀s∈b.stmts,FitS s)(kind:Int):
  Calls Tryz.prog 12 #[.agg #[v],iv kind] w (SysE (ofT p kind) w):=by
 obtain⟨z,hz⟩:=Ze w.heap.size;have hbz:Base.b≤z:=by have:=kw.bs;omega
 have HFA:=Zh (fun (x:World) (b:Below z w x)=>Qjr (kw.keep fun k hk=>b.block k ZO) (by have:=b.size;omega) p v (h.keep (Qf.below (hz▸b)) (Qf.below (hz▸b)) (Qf.below (hz▸b)) (Qf.below (hz▸b))) hf kind);have HBU:=Zh (fun (x:World) (b:Below z w x)=>Qrr (kw.keep fun k hk=>b.block k ZO) (by have:=b.size;omega) p v (h.keep (Qf.below (hz▸b)) (Qf.below (hz▸b)) (Qf.below (hz▸b)) (Qf.below (hz▸b))) hf);have HVA:=Zh (fun (x:World) (b:Below z w x) hv=>QPi (kw.keep fun k hk=>b.block k ZO) (by have:=b.size;omega) p v (h.keep (Qf.below (hz▸b)) (Qf.below (hz▸b)) (Qf.below (hz▸b)) (Qf.below (hz▸b))) hf hv);have HST:=Zh (fun (x:World) (b:Below z w x) n=>Qjk (kw.keep fun k hk=>b.block k ZO) (by have:=b.size;omega) p v (h.keep (Qf.below (hz▸b)) (Qf.below (hz▸b)) (Qf.below (hz▸b)) (Qf.below (hz▸b))) hf n);have HEF:=Zh (show ∀x,Below z w x→Qmg B x from fun x b=>ef.below (b.mono ZO));have HTZ:=Zh (show ∀x,Below z w x→TzIn B x from fun x b=>tz.below (b.mono ZO));obtain⟨a,c,rfl,-,-⟩:=h.cell;obtain⟨n,hl⟩:=Ze p.length;rw[hl] at HFA HBU HVA HST ⊢;obtain⟨W,hW⟩:=Ze ((w.alloc (.cells #[.slice a n c] PRT)).alloc (.cells #[iv 0,.slice none 0 0,.slice none 0 0,.slice none 0 0] SYT));have HWW:=Zh hW;have HZ:=Zh hz;have BW:=Zh (show Below z w W by rw[←hW,←hz];exact(Zb).alloc ZS _);have HP:=Zh (show W.heap[z]? = some (.cells #[.slice a n c] PRT (0,0)) by rw[←hW,←hz,Below.heap_alloc _ _ _ ZS];exact heap_alloc_new _ _);have HR:=Zh (show W.heap[z+1]? = some (.cells #[iv 0,.slice none 0 0,.slice none 0 0,.slice none 0 0] SYT (0,0)) by rw[←hW,←hz];exact Qda _ _);have hWs:W.heap.size=z+2:=by rw[←hW,←hz];simp
 have hBz:B≤z:=by omega
 clear kw ef tz hB h hf hW hl hz;obtain⟨er,her⟩:=Ze (Qxb p kind);have HER:=Zh her;obtain⟨F,hF⟩:=Ze (QC p kind);have HF:=Zh hF;rw[her,hF] at HFA;have x0:=(Qd HP.o).1 0;simp at x0;clear her hF;go_enter Tryz.func12,Tryz.ntmps12;go_upto_region 1 with(fail)
 rw[show(w.alloc (.cells #[.slice a n c] PRT)).alloc (.cells #[iv 0,.slice none 0 0,.slice none 0 0,.slice none 0 0] SYT)=W from HWW.o]
 try rw[HZ.o]
 go_wp2_with fail;refine(HFA.o W BW.o).mono ?_;rintro e w1 ⟨fv,rfl,hfv,b1⟩;have B1:=Zh (BW.o.trans (b1.mono ZO));obtain⟨fa,fc,rfl,-⟩:=QXa hfv;obtain⟨m,hml⟩:=Ze F.length;rw[hml];have HFV:=Zh (hml▸QTb.at_ hfv:Qqd w1 (.slice fa m fc) F);have HML:=Zh hml;have HP1:=Zh (Qc HP.o b1 (Qb HP.o));have HR1:=Zh (Qc HR.o b1 (Qb HR.o));clear hfv b1 hml x0;by_cases he:er=0;rotate_left
 ·have t1:(er != 0)=true:=by simpa using he
  have HOT:=Zh (show ofT p kind=(⟨0,[],[],[]⟩,er) by unfold ofT;rw[HER.o,if_neg he]);obtain⟨c0,c1,c2,c3⟩:=Qt HR1.o;have f0:=(Qa HR1.o).2 0;have f1:=(Qa HR1.o).2 1;have f2:=(Qa HR1.o).2 2;have f3:=(Qa HR1.o).2 3;have E4:=Zh (set4 HR1.o (iv 0) (.slice none 0 0) (.slice none 0 0) (.slice none 0 0));have HB4:=Zh (show Below z w ((((w1.setCell ⟨z+1,0,none⟩ (iv 0)).setCell ⟨z+1,1,none⟩ (.slice none 0 0)).setCell ⟨z+1,2,none⟩ (.slice none 0 0)).setCell ⟨z+1,3,none⟩ (.slice none 0 0)) from
   (((B1.o.setCell (by show z≤z+1;omega) _).setCell (by show z≤z+1;omega) _).setCell (by show z≤z+1;omega) _).setCell (by show z≤z+1;omega) _)
  clear he;go_wp2;obtain⟨g0,g1,g2,g3⟩:=Qt E4.o;refine bodyPost_ret (v:=.tuple #[.agg #[iv 0,.slice none 0 0,.slice none 0 0,.slice none 0 0],iv er]) (by simp[results,Tryz.results12,go_sem,g0,g1,g2,g3]) rfl ?_;rw[HOT.o];exact⟨.slice none 0 0,.slice none 0 0,.slice none 0 0,rfl,⟨Qoa.nil,Qoa.nil,Qoa.nil⟩,by rw[HZ.o];exact HB4.o⟩
 ·subst he;have HFZ:=Zh (Qkb HER.o);have hck:=HFZ.o.1;have HOT:=Zh (show ofT p kind=(QZc p kind,0) by unfold ofT;rw[HER.o,if_pos rfl]);have HOK:=Zh (Qas HER.o);have HBU2:=Zh (show ∃q,q=QFa p∧∀x,Below z w x→Calls Tryz.prog 44 #[.agg #[.slice a n c]] x (Qit p x) from⟨_,rfl,HBU.o⟩);obtain⟨k,hkk,hk4⟩:∃k:Nat,kind=(k:Int)∧k<5:=⟨kind.toNat,by have:=HFZ.o.2;omega,by have:=HFZ.o.2;omega⟩;have hm256:m≤256:=by have:=HFZ.o.2.2.2.2;rw[HF.o,HML.o] at this;exact this
  subst hkk;have x0:=(Qd HP1.o).1 0;simp at x0;go_wp2_with fail;refine(HBU.o w1 B1.o).mono ?_;rintro e w2 ⟨nv,sv',pv,rfl,hnv,hsv,hpv,b2⟩;rw[hck];obtain⟨na,nc,rfl,hN1,-,-,hnc⟩:=hnv.cell;obtain⟨sa,sc,rfl,-⟩:=hsv.cell;obtain⟨pa,pc,rfl,-⟩:=hpv.cell;rw[QBk] at hsv ⊢;rw[QCk] at hpv ⊢;obtain⟨NN,hNN⟩:=Ze ((QR p).length);rw[hNN] at hnv hsv hpv ⊢;have HNN:=Zh hNN;have hN256:NN≤256:=by have:=HOK.o.nle;omega
  have HSV:=Zh hsv;have HPV:=Zh hpv;have HNC:=Zh hnc;have B2:=Zh (B1.o.trans (b2.mono (by have:=B1.o.size;have:=HZ.o;omega)));have HP2:=Zh (Qc HP1.o b2 (Qb HP1.o));have HR2:=Zh (Qc HR1.o b2 (Qb HR1.o));have HF2:=Zh (HFV.o.below b2);obtain⟨gq,hgq⟩:=Ze w2.heap.size;obtain⟨W3,hW3⟩:=Ze (w2.alloc (.cells #[.slice na NN nc,.slice sa NN sc,.slice pa NN pc] GRT));have A3:=Zh (show Below w2.heap.size w2 W3 by rw[←hW3];exact Zb);have HG3:=Zh (show W3.heap[gq]? = some (.cells #[.slice na NN nc,.slice sa NN sc,.slice pa NN pc] GRT (0,0)) by rw[←hW3,←hgq];exact heap_alloc_new _ _);have HP3:=Zh (Qc HP2.o A3.o (Qb HP2.o));have HR3:=Zh (Qc HR2.o A3.o (Qb HR2.o));have HF3:=Zh (HF2.o.below A3.o);have B3:=Zh (B2.o.trans (A3.o.mono (by have:=B2.o.size;have:=HZ.o;omega)):Below z w W3);have HS3:=Zh (HSV.o.below A3.o);have HPR3:=Zh (HPV.o.below A3.o);have HW3:=Zh hW3;have HGQ:=Zh hgq;clear hnv hsv hpv hnc b2 hNN hW3 x0 hN1;go_upto_region 5 with(fail)
  try rw[hgq]
  rw[show w2.alloc (.cells #[.slice na NN nc,.slice sa NN sc,.slice pa NN pc] GRT)=W3 from HW3.o];clear hgq;obtain⟨g0,g1,g2⟩:=QVa HG3.o;go_upto_if 39 with(fail)
  go_cut [10] from 40 to 41 (fun s10 wx=>∃da dc,s10=.slice da NN dc∧W3=wx∧Hid (Qoa Qqc W3 (.slice da NN dc) (if (k:Int)=2 then Qkc p else Qmc p)))
  case first=>
   by_cases h2:(k:Int)=2
   ·have t1:((k:Int)==2)=true:=by simpa using h2
    have HD:=Zh (show Qoa Qqc W3 (.slice sa NN sc) (if (k:Int)=2 then Qkc p else Qmc p) by rw[if_pos h2];exact HS3.o);clear h2;go_wp2;go_meet
    case rel=>exact⟨_,_,rfl,rfl,HD⟩
   ·have t1:((k:Int)==2)=false:=by simpa using h2
    have HD:=Zh (show Qoa Qqc W3 (.slice pa NN pc) (if (k:Int)=2 then Qkc p else Qmc p) by rw[if_neg h2];exact HPR3.o);clear h2;go_wp2;go_meet
    case rel=>exact⟨_,_,rfl,rfl,HD⟩
  case rest=>
   obtain⟨da,dc,rfl,rfl,HD⟩:=hcut;obtain⟨DP,hDP⟩:=Ze ((if (k:Int)=2 then Qkc p else Qmc p));have HDP:=Zh hDP;rw[hDP] at HD;have hdpl:DP.length=NN:=by
    rw[←hDP]
    split
    ·rw[QBk];exact HNN.o
    ·rw[QCk];exact HNN.o
   have HDPL:=Zh hdpl;have KV:=Zh (HVA.o W3 B3.o (Qzb HFZ.o.1).valid);have hZ3:z≤W3.heap.size:=by have:=B3.o.size;have:=HZ.o;omega
   clear hDP hdpl g0 g1 g2;have x0:=(Qd HP3.o).1 0;simp at x0;go_wp2_with fail;refine KV.o.mono ?_;rintro e w4 ⟨vv,rfl,hvv,b4⟩;obtain⟨va,vc,rfl,-⟩:=QXa hvv;obtain⟨vn,hvn⟩:=Ze ((QN p).length);rw[hvn];have HV4:=Zh (show Qea w4 (.slice va vn vc) (QN p) from hvn▸Qg.of_owns hvv);have B4:=Zh (B3.o.trans (b4.mono hZ3));have HP4:=Zh (Qc HP3.o b4 (Qb HP3.o));have HG4:=Zh (Qc HG3.o b4 (Qb HG3.o));have HR4:=Zh (Qc HR3.o b4 (Qb HR3.o));have HF4:=Zh (HF3.o.below b4);have HD4:=Zh (HD.o.below b4);have BN4:=Zh (A3.o.trans (b4.mono A3.o.size));obtain⟨tq,htq⟩:=Ze w4.heap.size;obtain⟨W5,hW5⟩:=Ze (w4.alloc (.cells #[iv k,.slice fa m fc,.slice va vn vc] TBT));have A5:=Zh (show Below w4.heap.size w4 W5 by rw[←hW5];exact Zb);have HT5:=Zh (show W5.heap[tq]? = some (.cells #[iv k,.slice fa m fc,.slice va vn vc] TBT (0,0)) by rw[←hW5,←htq];exact heap_alloc_new _ _);have B5:=Zh (B4.o.trans (A5.o.mono (by have:=B4.o.size;have:=HZ.o;omega)):Below z w W5);have HP5:=Zh (Qc HP4.o A5.o (Qb HP4.o));have HG5:=Zh (Qc HG4.o A5.o (Qb HG4.o));have HR5:=Zh (Qc HR4.o A5.o (Qb HR4.o));have HF5:=Zh (HF4.o.below A5.o);have HV5:=Zh (show Qea W5 (.slice va vn vc) (QN p) from Qg.same HV4.o (Qf.below A5.o));have HD5:=Zh (HD4.o.below A5.o);have BN5:=Zh (BN4.o.trans (A5.o.mono BN4.o.size));have HW5:=Zh hW5;have HTQ:=Zh htq;clear hvv b4 hvn hW5 x0 KV;go_upto_region 9 with(fail)
   try rw[htq]
   rw[show w4.alloc (.cells #[iv k,.slice fa m fc,.slice va vn vc] TBT)=W5 from HW5.o];obtain⟨oq,hoq⟩:=Ze W5.heap.size;obtain⟨W6,hW6⟩:=Ze (W5.alloc (.cells #[iv m,.slice da NN dc,.slice none 0 0,.slice none 0 0] SYT));have A6:=Zh (show Below oq W5 W6 by rw[←hW6,←hoq];exact Zb);have hzoq:z+2≤oq:=by rw[←hoq];have:=Qb HR5.o;omega
   have hgoq:gq<oq:=by rw[←hoq];exact Qb HG5.o
   have htoq:tq<oq:=by rw[←hoq];exact Qb HT5.o
   have HO6:=Zh (show OfS oq m W5 W6 (.slice da NN dc) (.slice none 0 0) (.slice none 0 0) [] [] from
    ⟨by omega,hoq,A6.o,by rw[←hW6,←hoq];exact heap_alloc_new _ _,QG.nil,QG.nil⟩)
   have HW6:=Zh hW6;have HOQ:=Zh hoq;have HBZ:=Zh (show ∀wr,Below oq W5 wr→Below z w wr from fun wr b=>B5.o.trans (b.mono ZO));have HNB:=Zh (show ∀wr,Below oq W5 wr→∀j n,(QR p)[j]? = some n→∃b off,na=some ⟨b,off,none⟩∧wr.cell? ⟨b,off+j*4,none⟩=some (iv n.kind)∧wr.cell? ⟨b,off+j*4+1,none⟩=some (iv n.fn)∧wr.cell? ⟨b,off+j*4+2,none⟩=some (iv n.bl)∧wr.cell? ⟨b,off+j*4+3,none⟩=some (iv n.st) from fun wr bw j n hj=>by
    obtain⟨b,off,e,hb,c0,c1,c2,c3⟩:=HNC.o j n hj;have hb5:b<oq:=by have:=BN5.o.size;have:=HOQ.o;omega
    exact⟨b,off,e,(bw.cell (p:=⟨b,off+j*4,none⟩) hb5).trans ((BN5.o.cell (p:=⟨b,off+j*4,none⟩) hb).trans c0),(bw.cell (p:=⟨b,off+j*4+1,none⟩) hb5).trans ((BN5.o.cell (p:=⟨b,off+j*4+1,none⟩) hb).trans c1),
     (bw.cell (p:=⟨b,off+j*4+2,none⟩) hb5).trans ((BN5.o.cell (p:=⟨b,off+j*4+2,none⟩) hb).trans c2),(bw.cell (p:=⟨b,off+j*4+3,none⟩) hb5).trans ((BN5.o.cell (p:=⟨b,off+j*4+3,none⟩) hb).trans c3)⟩)
   clear htq hW6;go_upto_region 10 with(fail)
   try rw[hoq]
   rw[show W5.alloc (.cells #[iv m,.slice da NN dc,.slice none 0 0,.slice none 0 0] SYT)=W6 from HW6.o];clear hoq;obtain⟨g0,g1,g2⟩:=QVa ((HO6.o.below.block gq hgoq).trans HG5.o);go_wp2;clear g0 g1 g2;go_loopw [54] (fun y wr=>∃i:Nat,i≤NN∧y=.int .i64 i∧Hid (∃tv bv,OfS oq m W5 wr (.slice da NN dc) tv bv (((QR p).take i).mapIdx (QZe p k)) (((QR p).take i).mapIdx fun i _=>bndT p k i))) (fun y _=>NN-(intOf y).toNat)
   case atStart=>exact⟨0,Nat.zero_le _,rfl,⟨_,_,by simpa using HO6.o⟩⟩
   case round=>
    obtain⟨i,hi,rfl,HRr⟩:=hrel;by_cases hlt:i<NN
    ·obtain⟨nd,hnd⟩:∃n,(QR p)[i]? = some n:=⟨_,List.getElem?_eq_getElem (by rw[HNN.o];exact hlt)⟩;obtain⟨tv,bv,HV⟩:=HRr.o;have HO1:=Zh HV;obtain⟨nb,no,rfl,n0,n1,n2,n3⟩:=HNB.o wr HV.below i nd hnd;obtain⟨T,hT⟩:=Ze (QZe p k i nd);have HTT:=Zh (show(((QR p).take (i+1)).mapIdx (QZe p k))=((QR p).take i).mapIdx (QZe p k)++[T] by rw[Qwi _ hnd,hT]);have HBB:=Zh (show(((QR p).take (i+1)).mapIdx fun i _=>bndT p k i)=(((QR p).take i).mapIdx fun i _=>bndT p k i)++[bndT p k i] from Qwi _ hnd);have HTO:=Zh (show OkT m T by rw[←hT,←HML.o,←HF.o];exact Qup HER.o hnd);have HTN:=Zh hT;have HND:=Zh hnd;have hzr:z≤wr.heap.size:=by have:=HO1.o.lt;omega
     have hLT:(((QR p).take i).mapIdx (QZe p k)).length≤256:=by simp;omega
     have hLB:(((QR p).take i).mapIdx fun i _=>bndT p k i).length≤256:=by simp;omega
     obtain⟨TS,hTS⟩:=Ze (((QR p).take i).mapIdx (QZe p k));obtain⟨BS,hBS⟩:=Ze ((((QR p).take i).mapIdx fun i _=>bndT p k i));rw[hTS] at HO1 HTT hLT;rw[hBS] at HO1 HBB hLB;obtain⟨V1,hV1⟩:=Ze (wr.alloc (.cells #[iv nd.kind,iv nd.fn,iv nd.bl,iv nd.st] NT));obtain⟨nq,hnq⟩:=Ze wr.heap.size;have C1:=Zh (show Below nq wr V1 by rw[←hV1,←hnq];exact Zb);have HNQ:=Zh (show V1.heap[nq]? = some (.cells #[iv nd.kind,iv nd.fn,iv nd.bl,iv nd.st] NT (0,0)) by rw[←hV1,←hnq];exact heap_alloc_new _ _);have HV1:=Zh hV1;have HNQS:=Zh hnq;have hoqn:oq<nq:=by have:=HO1.o.lt;omega
     have HBW:=Zh (show ∀wx,Below nq wr wx→Below oq W5 wx from fun wx b=>HO1.o.below.trans (b.mono ZO));have HPX:=Zh (show ∀wx,Below nq wr wx→(wx.heap[z]? = some (.cells #[.slice a n c] PRT (0,0))∧wx.heap[tq]? = some (.cells #[iv k,.slice fa m fc,.slice va vn vc] TBT (0,0))) from fun wx b=>
      ⟨((HBW.o wx b).block z ZO).trans HP5.o,((HBW.o wx b).block tq htoq).trans HT5.o⟩)
     clear HV HRr hT hnd hTS hBS hV1;go_upto_region 13 with(fail)
     try rw[hnq]
     rw[show wr.alloc (.cells #[iv nd.kind,iv nd.fn,iv nd.bl,iv nd.st] NT)=V1 from HV1.o];clear n0 n1 n2 n3 hnq;have KI:=Zh (Qzn m hm256 V1 (by have:=Qb HNQ.o;omega));go_wp2_with fail;refine KI.o.mono ?_;rintro e x1 ⟨iu,ju,cu,rfl,hti,b1⟩;obtain⟨iua,iuc,rfl,-⟩:=hti.gen.cell;obtain⟨jua,juc,rfl,-⟩:=hti.kill.cell;obtain⟨cua,cuc,rfl,-⟩:=hti.cops.cell;obtain⟨iun,hiu⟩:=Ze ((idT m).gen.words.length);obtain⟨jun,hju⟩:=Ze ((idT m).kill.words.length);obtain⟨cun,hcu⟩:=Ze ((idT m).cops.length);simp only at hti;rw[hiu,hju,hcu] at hti;rw[show trV (idT m,(0:Int)).1 (.slice iua (idT m,(0:Int)).1.gen.words.length iuc) (.slice jua (idT m,(0:Int)).1.kill.words.length juc) (.slice cua (idT m,(0:Int)).1.cops.length cuc)=.agg #[iv m,.slice iua iun iuc,iv m,.slice jua jun juc,.slice cua cun cuc] by simp only[trV,hiu,hju,hcu];rfl];have HTI:=Zh hti;have C2:=Zh (C1.o.trans (b1.mono (by have:=Qb HNQ.o;omega)):Below nq wr x1);have HN1:=Zh (Qc HNQ.o b1 (Qb HNQ.o));obtain⟨fq,hfq⟩:=Ze x1.heap.size;obtain⟨V2,hV2⟩:=Ze (x1.alloc (.cells #[iv m,.slice iua iun iuc,iv m,.slice jua jun juc,.slice cua cun cuc] FNA));have A2:=Zh (show Below x1.heap.size x1 V2 by rw[←hV2];exact Zb);have HFQ:=Zh (show V2.heap[fq]? = some (.cells #[iv m,.slice iua iun iuc,iv m,.slice jua jun juc,.slice cua cun cuc] FNA (0,0)) by rw[←hV2,←hfq];exact heap_alloc_new _ _);have C3:=Zh (C2.o.trans (A2.o.mono (by have:=Qb HN1.o;omega)):Below nq wr V2);have HN2:=Zh (Qc HN1.o A2.o (Qb HN1.o));have HTI2:=Zh (HTI.o.below A2.o);have hnf:nq<fq:=by rw[←hfq];exact Qb HN1.o
     have HV2:=Zh hV2;clear hti b1 KI hiu hju hcu hV2 HTI HN1;go_upto_region 14 with(fail)
     try rw[hfq]
     rw[show x1.alloc (.cells #[iv m,.slice iua iun iuc,iv m,.slice jua jun juc,.slice cua cun cuc] FNA)=V2 from HV2.o];clear hfq;have x0:=(Qd (HPX.o V2 C3.o).1).1 0;simp at x0;obtain⟨n0,n1,n2,n3⟩:=Qt HN2.o;have KST:=Zh (HST.o V2 (HBZ.o _ (HBW.o _ C3.o)) nd);obtain⟨so,hso⟩:=Ze (QAf p nd);rw[hso] at KST;have HSO:=Zh hso;clear hso;go_wp2_with fail;refine KST.o.mono ?_;rintro e x3 ⟨su,st,rfl,hsu,hst,b3⟩;obtain⟨sd,hsd⟩:=Ze (so.getD Qie);rw[hsd] at hsu hst ⊢;obtain⟨sua,suc,rfl,-,-⟩:=hsu.cell;obtain⟨sta,stc,rfl,-,-⟩:=hst.cell;obtain⟨sun,hsun⟩:=Ze sd.uses.length;obtain⟨stn,hstn⟩:=Ze sd.targets.length;rw[hsun] at hsu ⊢;rw[hstn] at hst ⊢;have HSU:=Zh hsu;have HSTT:=Zh hst;have HSD:=Zh hsd;obtain⟨sop,hsop⟩:=Ze sd.op;have HSOP:=Zh hsop;rw[hsop];obtain⟨bo,hbo⟩:=Ze so.isSome;rw[hbo];have HBO:=Zh hbo;have C4:=Zh (C3.o.trans (b3.mono (by have:=Qb HN2.o;omega)):Below nq wr x3);have HN3:=Zh (Qc HN2.o b3 (Qb HN2.o));have HFQ3:=Zh (Qc HFQ.o b3 (Qb HFQ.o));have HTI3:=Zh (HTI2.o.below b3);obtain⟨sq,hsq⟩:=Ze x3.heap.size;obtain⟨V4,hV4⟩:=Ze (x3.alloc (.cells #[iv sop,sv sd.dfn,.slice sua sun suc,.slice sta stn stc] SMT));have A4:=Zh (show Below x3.heap.size x3 V4 by rw[←hV4];exact Zb);have HSQ:=Zh (show V4.heap[sq]? = some (.cells #[iv sop,sv sd.dfn,.slice sua sun suc,.slice sta stn stc] SMT (0,0)) by rw[←hV4,←hsq];exact heap_alloc_new _ _);have C5:=Zh (C4.o.trans (A4.o.mono (by have:=Qb HN3.o;omega)):Below nq wr V4);have HN4:=Zh (Qc HN3.o A4.o (Qb HN3.o));have HFQ4:=Zh (Qc HFQ3.o A4.o (Qb HFQ3.o));have HTI4:=Zh (HTI3.o.below A4.o);have HSU4:=Zh (show Qea V4 (.slice sua sun suc) sd.uses from Qg.same HSU.o (Qf.below A4.o));have HST4:=Zh (show Qea V4 (.slice sta stn stc) sd.targets from Qg.same HSTT.o (Qf.below A4.o));have HV4:=Zh hV4;clear hsu hst b3 hsd hsun hstn hsop hbo hV4 KST x0 n0 n1 n2 n3 HN2 HN3 HFQ HFQ3 HTI2 HTI3;go_upto_region 15 with(fail)
     try rw[hsq]
     rw[show x3.alloc (.cells #[iv sop,sv sd.dfn,.slice sua sun suc,.slice sta stn stc] SMT)=V4 from HV4.o];clear hsq;obtain⟨n0,n1,n2,n3⟩:=Qt HN4.o;obtain⟨nk,hnk⟩:=Ze nd.kind;have HNK:=Zh hnk;rw[hnk] at n0;clear hnk;have HCK:=Zh hck;have HTW:=Zh (And.intro HTO.o.gen.width HTO.o.kill.width);go_cut [76] from 71 to 75 (fun s76 wx=>s76=.bool (bo&&(nk==3))∧V4=wx)
     case first=>
      cases bo with
     |true=>
       go_wp2;go_meet
       case rel=>exact⟨by simp,rfl⟩
     |false=>
       go_wp2;go_meet
       case rel=>exact⟨by simp,rfl⟩
     case rest=>
     obtain⟨rfl,rfl⟩:=hcut;clear n0 n1 n2 n3;obtain⟨dd,hdd⟩:=Ze ((bo&&(nk==3)));rw[hdd];have HDD:=Zh hdd;clear hdd;go_upto_if 76 with(fail)
     go_cut [13] from 77 to 80 (fun s13 wx=>∃ga gn gc ka kn kc ca cn cc,s13=iv i∧Hid (Below nq wr wx)∧Hid (wx.heap[fq]? = some (.cells #[iv m,.slice ga gn gc,iv m,.slice ka kn kc,.slice ca cn cc] FNA (0,0)))∧Hid (Qja wx (.slice ga gn gc) (.slice ka kn kc) (.slice ca cn cc) T))
     case first=>
      by_cases hk3:nk=3
      ·have hk3':nd.kind=3:=HNK.o.trans hk3;obtain⟨hNA,hSP⟩:=QCp HCK.o HND.o hk3';have hso:so=some (Qec p nd):=by
        rw[←HSO.o];unfold QAf;rw[if_pos ⟨by unfold insN;rw[hk3'];rfl,List.mem_of_getElem? HND.o⟩,hSP]
       have hsdd:sd=Qec p nd:=by rw[←HSD.o,hso];rfl
       obtain rfl:bo=true:=by rw[←HBO.o,hso];rfl
       obtain rfl:dd=true:=by rw[←HDD.o];simpa using hk3
       have HTE:=Zh (show Qlb (rawT (QN p) (QC p k) k i sd) (QC p k).length=T by
        rw[←HTN.o,hsdd];unfold QZe Qkk;rw[if_pos hk3'])
       have KF:=Zh (show Calls Tryz.prog 48 #[.agg #[iv k,.slice fa m fc,.slice va vn vc],iv i,.agg #[iv sop,sv sd.dfn,.slice sua sun suc,.slice sta stn stc]] V4 (Qgp T V4) by
        have hbz4:=HBZ.o _ (HBW.o _ C5.o);have hF4:Qqd V4 (.slice fa m fc) (QC p k):=by rw[HF.o];exact Qg.same HF5.o (Qf.below (HOQ.o▸HBW.o _ C5.o))
        have hV4':Qea V4 (.slice va vn vc) (QN p):=Qg.same HV5.o (Qf.below (HOQ.o▸HBW.o _ C5.o));have h1:=Qxs (B:=B) HER.o (hsdd▸hNA) (by rw[hSP,hsdd]) (.slice fa m fc) (.slice va vn vc) (.slice sua sun suc) (.slice sta stn stc) V4 (HEF.o _ hbz4) (HTZ.o _ hbz4) (by have:=hbz4.size;have:=HZ.o;omega) hF4 hV4' HSU4.o HST4.o;rw[HTE.o,HSOP.o] at h1;exact h1)
       obtain⟨t0,t1',t2⟩:=QVa (HPX.o V4 C5.o).2;obtain⟨s0,s1,s2,s3⟩:=Qt HSQ.o;clear hk3 hk3' hNA hSP hso hsdd;go_wp2_with fail;refine KF.o.mono ?_;rintro e x5 ⟨gu,ku,cu,rfl,ht,b5⟩;obtain⟨ga,gc,rfl,-⟩:=ht.gen.cell;obtain⟨ka,kc,rfl,-⟩:=ht.kill.cell;obtain⟨ca,cc,rfl,-⟩:=ht.cops.cell;obtain⟨gn,hgn⟩:=Ze T.gen.words.length;obtain⟨kn,hkn⟩:=Ze T.kill.words.length;obtain⟨cn,hcn⟩:=Ze T.cops.length;rw[hgn,hkn,hcn] at ht;simp only[trV,hgn,hkn,hcn,HTW.o.1,HTW.o.2];have HT5':=Zh ht;have hnq4:nq≤V4.heap.size:=by have:=Qb HN4.o;omega
       have C6:=Zh (C5.o.trans (b5.mono hnq4):Below nq wr x5);have HFQ5:=Zh (Qc HFQ4.o b5 (Qb HFQ4.o));have HS5:=Zh (fun (U:TypeId) (hne:U≠FNA)=>Quc (T:=U) (Qv HFQ5.o ZO) hne (iv m) (.slice ga gn gc) (iv m) (.slice ka kn kc) (.slice ca cn cc));have HFQ6:=Zh (set5 HFQ5.o (iv m) (.slice ga gn gc) (iv m) (.slice ka kn kc) (.slice ca cn cc));have HT6:=Zh (HT5'.o.keep (HS5.o _ ZD) (HS5.o _ ZD));have C7:=Zh (((((C6.o.setCell (show nq≤fq by omega) (iv m)).setCell (show nq≤fq by omega) (.slice ga gn gc)).setCell (show nq≤fq by omega) (iv m)).setCell (show nq≤fq by omega) (.slice ka kn kc)).setCell (show nq≤fq by omega) (.slice ca cn cc):Below nq wr (((((x5.setCell ⟨fq,0,none⟩ (iv m)).setCell ⟨fq,1,none⟩ (.slice ga gn gc)).setCell ⟨fq,2,none⟩ (iv m)).setCell ⟨fq,3,none⟩ (.slice ka kn kc)).setCell ⟨fq,4,none⟩ (.slice ca cn cc)));clear ht b5 hgn hkn hcn t0 t1' t2 s0 s1 s2 s3 KF;obtain⟨c0,c1,c2,c3,c4⟩:=QJ HFQ5.o;have f0:=(Qa HFQ5.o).2 0;have f1:=(Qa HFQ5.o).2 1;have f2:=(Qa HFQ5.o).2 2;have f3:=(Qa HFQ5.o).2 3;have f4:=(Qa HFQ5.o).2 4;go_wp2;go_meet
       case rel=>exact⟨_,_,_,_,_,_,_,_,_,rfl,C7.o,HFQ6.o,HT6.o⟩
      ·obtain rfl:dd=false:=by
        rw[←HDD.o];have e0:(nk==3)=false:=by simpa using hk3
        rw[e0,Bool.and_false]
       have HT6:=Zh (show Qja V4 (.slice iua iun iuc) (.slice jua jun juc) (.slice cua cun cuc) T by
        have e1:T=idT m:=by
         rw[←HTN.o,←HML.o,←HF.o];exact Qsm HER.o (by rw[HNK.o];exact hk3)
        rw[e1];exact HTI4.o)
       clear hk3;go_wp2;go_meet
       case rel=>exact⟨_,_,_,_,_,_,_,_,_,rfl,C5.o,HFQ4.o,HT6.o⟩
     case rest=>
      obtain⟨ga,gn,gc,ka,kn,kc,ca,cn,cc,rfl,C6,HFQ6,HT6⟩:=hcut;obtain⟨x6,rfl⟩:∃x:World,x=wc:=⟨_,rfl⟩;have KE:=Zh (Qxe m hm256 x6);have hnq6:nq≤x6.heap.size:=by have:=C6.o.size;have:=HNQS.o;omega
      go_wp2_with fail;refine KE.o.mono ?_;rintro e x7 ⟨eu,rfl,heu,b7⟩;obtain⟨ea,ec,rfl,-⟩:=heu.words.cell;obtain⟨en,hen⟩:=Ze ((Qy m).words.length);rw[hen,show setV (Qy m) (.slice ea en ec)=.agg #[iv m,.slice ea en ec] from rfl];have HE7:=Zh (hen▸heu.words:Qi x7 (.slice ea en ec) (Qy m).words);have C7:=Zh (C6.o.trans (b7.mono hnq6):Below nq wr x7);have HFQ7:=Zh (Qc HFQ6.o b7 (Qb HFQ6.o));have HT7:=Zh (HT6.o.below b7);obtain⟨bq,hbq⟩:=Ze x7.heap.size;obtain⟨V8,hV8⟩:=Ze (x7.alloc (.cells #[iv m,.slice ea en ec] ST));have A8:=Zh (show Below x7.heap.size x7 V8 by rw[←hV8];exact Zb);have HBQ:=Zh (show V8.heap[bq]? = some (.cells #[iv m,.slice ea en ec] ST (0,0)) by rw[←hV8,←hbq];exact heap_alloc_new _ _);have hnq7:nq≤x7.heap.size:=by have:=C7.o.size;have:=HNQS.o;omega
      have C8:=Zh (C7.o.trans (A8.o.mono hnq7):Below nq wr V8);have HFQ8:=Zh (Qc HFQ7.o A8.o (Qb HFQ7.o));have HT8:=Zh (HT7.o.below A8.o);have HE8:=Zh (HE7.o.below A8.o);have HV8:=Zh hV8;have hfb:fq<bq:=by rw[←hbq];exact Qb HFQ7.o
      clear heu b7 hen hV8 KE;go_upto_region 18 with(fail)
      try rw[hbq]
      rw[show x7.alloc (.cells #[iv m,.slice ea en ec] ST)=V8 from HV8.o];clear hbq HFQ7 HT7 HE7;go_cut [92] from 87 to 91 (fun s92 wx=>s92=.bool (((i:Int)==0)&&((k:Int)==4))∧V8=wx)
      case first=>
       by_cases h0:i=0
       ·have t1:((i:Int)==0)=true:=by simp[h0]
        go_wp2;go_meet
        case rel=>exact⟨by simp[t1],rfl⟩
       ·have t1:((i:Int)==0)=false:=by simp[h0]
        go_wp2;go_meet
        case rel=>exact⟨by simp[t1],rfl⟩
      case rest=>
      obtain⟨rfl,rfl⟩:=hcut;obtain⟨de,hde⟩:=Ze ((((i:Int)==0)&&((k:Int)==4)));rw[hde];have HDE:=Zh hde;clear hde;go_upto_if 92 with(fail)
      go_cut [13] from 93 to 98 (fun s13 wx=>∃ba bn bc,s13=iv i∧Hid (Below nq wr wx)∧Hid (wx.heap[fq]? = some (.cells #[iv m,.slice ga gn gc,iv m,.slice ka kn kc,.slice ca cn cc] FNA (0,0)))∧Hid (Qja wx (.slice ga gn gc) (.slice ka kn kc) (.slice ca cn cc) T)∧Hid (wx.heap[bq]? = some (.cells #[iv m,.slice ba bn bc] ST (0,0)))∧Hid (Qi wx (.slice ba bn bc) (bndT p k i).words))
      case first=>
       have HBD:=Zh (show bndT p k i=if de=true then QMb m m else Qy m by
        rw[←HDE.o];unfold bndT;rw[HF.o,HML.o];have e:((k:Int)=4∧i=0)↔(((i:Int)==0)&&((k:Int)==4))=true:=by
         rw[Bool.and_eq_true,beq_iff_eq,beq_iff_eq];constructor <;>(rintro⟨h1,h2⟩;exact⟨by omega,by omega⟩)
        simp only[e])
       cases de with
      |true=>
        have HB2:=Zh (show bndT p k i=QMb m m by rw[HBD.o,if_pos rfl]);have KF:=Zh (Qur m hm256 V8);clear HBD;go_wp2_with fail;refine KF.o.mono ?_;rintro e x9 ⟨fu,rfl,hfu,b9⟩;obtain⟨fua,fun',fuc,rfl⟩:=hfu.shape;have hfw:(QMb m m).width=(m:Int):=(QOp hm256).1.width;rw[show setV (QMb m m,(0:Int)).1 (.slice fua fun' fuc)=.agg #[iv m,.slice fua fun' fuc] by rw[←hfw]];have HFW:=Zh hfu.words;have C9:=Zh (C8.o.trans (b9.mono (by have:=C8.o.size;have:=HNQS.o;omega)):Below nq wr x9);have HFQ9:=Zh (Qc HFQ8.o b9 (Qb HFQ8.o));have HBQ9:=Zh (Qc HBQ.o b9 (Qb HBQ.o));have HT9:=Zh (HT8.o.below b9);have hTy:tyAt x9 bq=some ST:=Qv HBQ9.o ZO;have hTy2:tyAt (x9.setCell ⟨bq,0,none⟩ (iv m)) bq=some ST:=by rw[QS];exact hTy
        have S2:=Zh (fun (U:TypeId) (hne:U≠ST)=>(show Qf U x9 ((x9.setCell ⟨bq,0,none⟩ (iv m)).setCell ⟨bq,1,none⟩ (.slice fua fun' fuc)) from(Qf.setCell (U:=ST) hTy hne).trans (Qf.setCell (U:=ST) hTy2 hne)));have C10:=Zh ((C9.o.setCell (show nq≤bq by omega) (iv m)).setCell (show nq≤bq by omega) (.slice fua fun' fuc):Below nq wr ((x9.setCell ⟨bq,0,none⟩ (iv m)).setCell ⟨bq,1,none⟩ (.slice fua fun' fuc)));have HFQ10:=Zh (show((x9.setCell ⟨bq,0,none⟩ (iv m)).setCell ⟨bq,1,none⟩ (.slice fua fun' fuc)).heap[fq]? = some (.cells #[iv m,.slice ga gn gc,iv m,.slice ka kn kc,.slice ca cn cc] FNA (0,0)) by
         rw[Below.heap_setCell _ _ _ _ (by show fq≠bq;omega),Below.heap_setCell _ _ _ _ (by show fq≠bq;omega)];exact HFQ9.o)
        have HT10:=Zh (HT9.o.keep (S2.o _ ZD) (S2.o _ ZD));have HBQ10:=Zh (Qvb (Qwb HBQ9.o (iv m)) (.slice fua fun' fuc));have HW10:=Zh (show Qi ((x9.setCell ⟨bq,0,none⟩ (iv m)).setCell ⟨bq,1,none⟩ (.slice fua fun' fuc)) (.slice fua fun' fuc) (bndT p k i).words by rw[HB2.o];exact HFW.o.keep (S2.o _ ZD));clear hfu b9 KF hfw hTy hTy2;obtain⟨c0,c1⟩:=Qq HBQ9.o;have f0:=(Qa HBQ9.o).2 0;have f1:=(Qa HBQ9.o).2 1;go_wp2;go_meet
        case rel=>exact⟨_,_,_,rfl,C10.o,HFQ10.o,HT10.o,HBQ10.o,HW10.o⟩
      |false=>
        have HW8:=Zh (show Qi V8 (.slice ea en ec) (bndT p k i).words by rw[HBD.o,if_neg ZS];exact HE8.o);go_wp2;go_meet
        case rel=>exact⟨_,_,_,rfl,C8.o,HFQ8.o,HT8.o,HBQ.o,HW8.o⟩
      case rest=>
       obtain⟨ba,bn,bc,rfl,C11,HFQ11,HT11,HBQ11,HW11⟩:=hcut;obtain⟨x11,rfl⟩:∃x:World,x=wc:=⟨_,rfl⟩;have HO11:=Zh (HO1.o.next (HNQS.o▸C11.o));obtain⟨tva,tvc,hve⟩:=HO11.o.tr.slice;obtain⟨bva,bvc,hve2⟩:=HO11.o.bd.slice;subst hve hve2;obtain⟨xss,hox,hxx⟩:=HO11.o.tr;have HOX:=Zh (show x11.ownsRow (oq+1) FNA 5 (.slice tva TS.length tvc) TS.length xss.flatten from hox);have hoq11:oq+1≤x11.heap.size:=HO11.o.lt;have PUSH:=Zh (show ∀g cap w',w'.ownsRow (oq+1) FNA 5 (.slice (some ⟨g,0,none⟩) (TS.length+1) cap) (TS.length+1) (xss.flatten++[iv m,.slice ga gn gc,iv m,.slice ka kn kc,.slice ca cn cc])→x11.grownBy w' (Value.slice tva TS.length tvc).ownBlock →
         (OfS oq m W5 (w'.setCell ⟨oq,2,none⟩ (.slice (some ⟨g,0,none⟩) (TS.length+1) cap)) (.slice da NN dc) (.slice (some ⟨g,0,none⟩) (TS.length+1) cap) (.slice bva BS.length bvc) (TS++[T]) BS∧w'.heap[oq]? = some (.cells #[iv m,.slice da NN dc,.slice tva TS.length tvc,.slice bva BS.length bvc] SYT (0,0))) ∧
         Qi (w'.setCell ⟨oq,2,none⟩ (.slice (some ⟨g,0,none⟩) (TS.length+1) cap)) (.slice ba bn bc) (bndT p k i).words∧(w'.setCell ⟨oq,2,none⟩ (.slice (some ⟨g,0,none⟩) (TS.length+1) cap)).heap[bq]? = some (.cells #[iv m,.slice ba bn bc] ST (0,0)) from fun g cap w' ho hg=>by
        have h1:=HO11.o.pushT HOX.o hxx HT11.o (by rw[HTW.o.1,HTW.o.2];exact ho) hg;have hbw:Below (oq+1) x11 w':=Below.of_grown hg HOX.o hoq11;have hTy:tyAt w' oq=some SYT:=Qv h1.2 ZO;refine⟨h1,(HW11.o.keep (Qf.grown hg HOX.o ZD)).keep (Qf.setCell (U:=SYT) hTy ZD),?_⟩;rw[Below.heap_setCell _ _ _ _ (by show bq≠oq;omega)];exact(hg.block bq (Qb HBQ11.o) (Qdb HOX.o HBQ11.o (fun c' fr e=>by injection e with _ e _;exact absurd e ZD))).trans HBQ11.o)
       clear hox hxx;obtain⟨t0,t1,t2,t3⟩:=Qt HO11.o.ob;obtain⟨q0,q1,q2,q3,q4⟩:=QJ HFQ11.o;go_upto_region 21 with(at_builtin;refine QL [iv m,.slice ga gn gc,iv m,.slice ka kn kc,.slice ca cn cc] rfl _ _ _ rfl (oq+1) FNA _ 5 88 Tryz.underlying33 QFi rfl ZO _ _ _ HOX.o rfl rfl rfl rfl (by unfold maxLen;omega) ZO hoq11 ?_;intro g cap w9 ho hg hzg _;have HP9:=Zh (PUSH.o g cap w9 ho hg);have v2:=(Qa HP9.o.1.2).1 2;have v3:=(Qa HP9.o.1.2).2 2;simp only[Zx,Zy,Zz] at v2;clear ho hg hzg)
       obtain⟨x12,hx12⟩:=Ze (w9.setCell ⟨oq,2,none⟩ (.slice (some ⟨g,0,none⟩) (TS.length+1) cap));rw[hx12] at HP9 ⊢;clear t0 t1 t2 t3 q0 q1 q2 q3 q4 v2 v3 PUSH HO11 hx12;obtain⟨yss,hoy,hyy⟩:=HP9.o.1.1.bd;have HOY:=Zh (show x12.ownsRow (oq+1) ST 2 (.slice bva BS.length bvc) BS.length yss.flatten from hoy);have hoq12:oq+1≤x12.heap.size:=HP9.o.1.1.lt;have HBW':=Zh (show(bndT p k i).width=(m:Int) by rw[←HML.o,←HF.o];exact(QTs HER.o i).width);have PUSH2:=Zh (show ∀g2 cap2 w',w'.ownsRow (oq+1) ST 2 (.slice (some ⟨g2,0,none⟩) (BS.length+1) cap2) (BS.length+1) (yss.flatten++[iv m,.slice ba bn bc])→x12.grownBy w' (Value.slice bva BS.length bvc).ownBlock →
         OfS oq m W5 (w'.setCell ⟨oq,3,none⟩ (.slice (some ⟨g2,0,none⟩) (BS.length+1) cap2)) (.slice da NN dc) (.slice (some ⟨g,0,none⟩) (TS.length+1) cap) (.slice (some ⟨g2,0,none⟩) (BS.length+1) cap2) (TS++[T]) (BS++[bndT p k i])∧w'.heap[oq]? = some (.cells #[iv m,.slice da NN dc,.slice (some ⟨g,0,none⟩) (TS.length+1) cap,.slice bva BS.length bvc] SYT (0,0)) from fun g2 cap2 w' ho hg=>
        HP9.o.1.1.pushB HOY.o hyy HP9.o.2.1 (by rw[HBW'.o];exact ho) hg)
       clear hoy hyy;obtain⟨t0,t1,t2,t3⟩:=Qt HP9.o.1.1.ob;obtain⟨q0,q1⟩:=Qq HP9.o.2.2;go_wp2_with (at_builtin;refine QL [iv m,.slice ba bn bc] rfl _ _ _ rfl (oq+1) ST _ 2 32 Tryz.underlying34 Qwd rfl ZO _ _ _ HOY.o rfl rfl rfl rfl (by unfold maxLen;omega) ZO hoq12 ?_;intro g2 cap2 w13 ho hg hzg _;have HP13:=Zh (PUSH2.o g2 cap2 w13 ho hg);have v2:=(Qa HP13.o.2).1 3;have v3:=(Qa HP13.o.2).2 3;simp only[Zx,Zy,Zz] at v2;clear ho hg hzg);have HO13:=Zh (HBB.o.symm▸HTT.o.symm▸HP13.o.1);go_roundw
       case rel=>exact⟨i+1,by omega,by go_num,⟨_,_,HO13.o⟩⟩
       case measure=>simp[intOf];omega
    ·obtain rfl:i=NN:=by omega
     obtain⟨tv,bv,HV⟩:=HRr.o;have HTK:(QR p).take i=QR p:=List.take_of_length_le (by rw[HNN.o];exact Nat.le_refl _);rw[HTK] at HV;obtain⟨tva,tvc,hve⟩:=HV.tr.slice;obtain⟨bva,bvc,hve2⟩:=HV.bd.slice;subst hve hve2;obtain⟨tn,htn⟩:=Ze (((QR p).mapIdx (QZe p k)).length);obtain⟨bn,hbn⟩:=Ze (((QR p).mapIdx fun i _=>bndT p k i).length);rw[htn,hbn] at HV;have HO1:=Zh HV;have HRB:=Zh ((HV.below.block (z+1) ZO).trans HR5.o);have HSA:=Zh (show QKd wr (.slice da i dc) (.slice tva tn tvc) (.slice bva bn bvc) (QZc p k) from
      ⟨by
       have h1:=HD5.o.below (HOQ.o▸HV.below);rw[←HDP.o] at h1;exact h1,HV.tr.rows,HV.bd.rows⟩)
     have HS5:=Zh (fun (U:TypeId) (hne:U≠SYT)=>Qsg (T:=U) (Qv HRB.o ZO) hne (iv m) (.slice da i dc) (.slice tva tn tvc) (.slice bva bn bvc));have HSA2:=Zh (HSA.o.keep fun U hU=>HS5.o U (by
      simp only[List.mem_cons,List.mem_nil_iff,or_false] at hU;rcases hU with rfl|rfl|rfl|rfl|rfl|rfl <;> decide))
     have E4:=Zh (set4 HRB.o (iv m) (.slice da i dc) (.slice tva tn tvc) (.slice bva bn bvc));have HB4:=Zh (show Below z w ((((wr.setCell ⟨z+1,0,none⟩ (iv m)).setCell ⟨z+1,1,none⟩ (.slice da i dc)).setCell ⟨z+1,2,none⟩ (.slice tva tn tvc)).setCell ⟨z+1,3,none⟩ (.slice bva bn bvc)) from
      ((((HBZ.o wr HV.below).setCell (by show z≤z+1;omega) _).setCell (by show z≤z+1;omega) _).setCell (by show z≤z+1;omega) _).setCell (by show z≤z+1;omega) _)
     clear HV HRr htn hbn HTK;obtain⟨t0,t1,t2,t3⟩:=Qt HO1.o.ob;obtain⟨c0,c1,c2,c3⟩:=Qt HRB.o;have f0:=(Qa HRB.o).2 0;have f1:=(Qa HRB.o).2 1;have f2:=(Qa HRB.o).2 2;have f3:=(Qa HRB.o).2 3;go_wp2;obtain⟨g0,g1,g2,g3⟩:=Qt E4.o;refine bodyPost_ret (v:=.tuple #[.agg #[iv m,.slice da i dc,.slice tva tn tvc,.slice bva bn bvc],iv 0]) (by simp[results,Tryz.results12,go_sem,g0,g1,g2,g3]) rfl ?_;rw[HOT.o];exact⟨_,_,_,by rw[show sysV (QZc p k,(0:Int)).1 (.slice da i dc) (.slice tva tn tvc) (.slice bva bn bvc)=.agg #[iv (QC p k).length,.slice da i dc,.slice tva tn tvc,.slice bva bn bvc] from rfl,HF.o,HML.o],HSA2.o,by rw[HZ.o];exact HB4.o⟩
end
section
structure PS where
 at_:Nat
 err:Int
def PS.fail (s:PS)(e:Int):PS:=if s.err=0 then ⟨s.at_,e⟩ else s
def PS.next (T:List Tok)(s:PS):Tok:=if s.err=0 then (T[s.at_]?).getD ⟨0,[],0,0⟩ else ⟨0,[],0,0⟩
def PS.step (s:PS):PS:=⟨s.at_+1,s.err⟩
def isW (T:List Tok)(w:Str)(s:PS):Bool:=(s.next T).kind==1&&(s.next T).text==w
def isN (T:List Tok)(s:PS):Bool:=(s.next T).kind==1&&QV (s.next T).text
def isK (T:List Tok)(k:Int)(s:PS):Bool:=(s.next T).kind==k
def QBb (ok:Bool)(s:PS):PS:=if ok then s.step else s.fail 4
def Qmp (T:List Tok)(ok:Bool)(s:PS):Str:=if ok then (s.next T).text else []
def Qhb (T:List Tok)(s:PS):PS:=QBb (isN T s) s
def Qib (T:List Tok)(s:PS):Str:=Qmp T (isN T s) s
def endM (T:List Tok)(s:PS):PS:=QBb (isK T 3 s) s
def QNa (T:List Tok):Nat→List Str→PS→List Str×PS
|0,acc,s=>(acc,if isN T s then s.fail 7 else s)
|m+1,acc,s=>if isN T s then QNa T m (acc++[Qib T s]) s.step else (acc,s)
def opOf (x:Str):Int:=
 if x=[117,115,101] then 2 else if x=[99,97,108,108] then 3 else if x=[115,111,117,114,99,101] then 4 else if x=[115,105,110,107] then 5
 else if x=[115,97,110,105,116,105,122,101] then 6 else if x=[103,111,116,111] then 7 else if x=[98,114,97,110,99,104] then 8 else if x=[114,101,116,117,114,110] then 9 else 0
def QY (T:List Tok)(s:PS):Bool:=isN T s||((s.next T).kind==1&&opOf (s.next T).text != 0)
def QTa (T:List Tok)(s:PS):QD×PS:=
 if isN T s then
  let s1:=s.step
  let s2:=QBb (isK T 2 s1) s1
  let r:=QNa T 4 [] s2
  (⟨1,Qib T s,r.1,[]⟩,endM T r.2)
 else
  let op:=opOf (s.next T).text
  let s1:=s.step
  if op=2 then
   let r:=if isN T s1 then QNa T 3 [Qib T s1] s1.step else ([],s1.fail 4)
   (⟨2,[],r.1,[]⟩,endM T r.2)
  else if op=3∨op=7 then (⟨op,[],[],[Qib T s1]⟩,endM T (Qhb T s1))
  else if op=4∨op=6 then (⟨op,Qib T s1,[],[]⟩,endM T (Qhb T s1))
  else if op=5 then (⟨5,[],[Qib T s1],[]⟩,endM T (Qhb T s1))
  else if op=8 then
   let s2:=Qhb T s1
   let s3:=Qhb T s2
   (⟨8,[],[Qib T s1],[Qib T s2,Qib T s3]⟩,endM T (Qhb T s3))
  else (⟨op,[],[],[]⟩,endM T s1)
def QWi (T:List Tok):Nat→List QD→PS→List QD×PS
|0,acc,s=>(acc,if QY T s then s.fail 7 else s)
|m+1,acc,s=>if QY T s then QWi T m (acc++[(QTa T s).1]) (QTa T s).2 else (acc,s)
def Qfg (T:List Tok)(w:Str)(s:PS):PS:=endM T (Qhb T (QBb (isW T w s) s))
def Qhc (T:List Tok)(w:Str)(s:PS):Str:=Qib T (QBb (isW T w s) s)
def Qua:Str:=[98,108,111,99,107]
def Qrb:Str:=[102,117,110,99]
def kEnd:Str:=[101,110,100]
def Qmb (T:List Tok)(s:PS):QI×PS:=
 let s1:=Qfg T Qua s
 let r:=QWi T 32 [] (if QY T s1 then s1 else s1.fail 4)
 (⟨Qhc T Qua s,r.1⟩,r.2)
def Qxh (T:List Tok):Nat→List QI→PS→List QI×PS
|0,acc,s=>(acc,if isW T Qua s then s.fail 7 else s)
|m+1,acc,s=>if isW T Qua s then Qxh T m (acc++[(Qmb T s).1]) (Qmb T s).2 else (acc,s)
def QHc (T:List Tok)(s:PS):Qo×PS:=
 let s1:=Qfg T Qrb s
 let r:=Qxh T 16 [] (if isW T Qua s1 then s1 else s1.fail 4)
 (⟨Qhc T Qrb s,r.1⟩,endM T (QBb (isW T kEnd r.2) r.2))
def QEj (T:List Tok):Nat→List Qo→PS→List Qo×PS
|0,acc,s=>(acc,if isW T Qrb s then s.fail 7 else s)
|m+1,acc,s=>if isW T Qrb s then QEj T m (acc++[(QHc T s).1]) (QHc T s).2 else (acc,s)
def QRr (T:List Tok):List Qo×PS:=
 let s0:PS:=⟨0,0⟩
 let r:=QEj T 8 [] (if isW T Qrb s0 then s0 else s0.fail 4)
 (r.1,if r.2.err=0∧r.2.at_<T.length then r.2.fail 4 else r.2)
structure Qhp where
 funcs:List Qo
 line:Int
 col:Int
 err:Int
def Qug (l:List UInt8):Qhp:=
 let S:=Qhd l
 if S.err≠0 then ⟨[],S.line,S.col,S.err⟩ else
 let r:=QRr S.toks
 if r.2.err=0 then ⟨r.1,0,0,0⟩ else
 match S.toks[r.2.at_]? with
|some t=>⟨[],t.line,t.col,r.2.err⟩
|none=>⟨[],0,0,r.2.err⟩
section
variable {T:List Tok} {s:PS}
theorem Qgh (h:s.err≠0):s.next T=⟨0,[],0,0⟩:=by unfold PS.next;rw[if_neg h]
theorem Qoh (h:s.err≠0):isN T s=false:=by unfold isN;rw[Qgh h];rfl
theorem Qpc (h:s.err≠0)(w:Str):isW T w s=false:=by unfold isW;rw[Qgh h];rfl
theorem QUf (h:s.err≠0){k:Int}(hk:k≠0):isK T k s=false:=by unfold isK;rw[Qgh h];simp;omega
theorem Qsc (h:s.err≠0):QY T s=false:=by unfold QY;rw[Qoh h,Qgh h];rfl
theorem Qdf (h:s.err≠0)(e:Int):s.fail e=s:=by unfold PS.fail;rw[if_neg h]
theorem QEd (h:s.err≠0):QBb false s=s:=by unfold QBb;simp[Qdf h]
theorem Qld (h:(s.next T).kind≠0):s.err=0∧∃t,T[s.at_]? = some t∧s.next T=t:=by
 unfold PS.next at h ⊢
 split at h
 ·rename_i h0;refine⟨h0,?_⟩;rw[if_pos h0]
  cases hT:T[s.at_]? with
 |none=>rw[hT] at h;exact absurd rfl h
 |some t=>exact⟨t,rfl,rfl⟩
 ·exact absurd rfl h
theorem Qps (h:isN T s=true):s.err=0∧∃t,T[s.at_]? = some t∧t.kind=1∧QV t.text=true∧Qib T s=t.text:=by
 have h2:=h;unfold isN at h;simp only[Bool.and_eq_true,beq_iff_eq] at h;obtain⟨h0,t,ht,e⟩:=Qld (T:=T) (s:=s) (by rw[h.1];decide);rw[e] at h;exact⟨h0,t,ht,h.1,h.2,by unfold Qib Qmp;rw[h2,e];rfl⟩
end
end
section
open Go.RowKit
variable [Base]
def Qpa (t:Tok):List Value:=[.int .i64 t.kind,.string ⟨t.text.toArray⟩,.int .i64 t.line,.int .i64 t.col]
def QFb (w:World)(v:Value)(l:List Tok):Prop:=Qg w 232 4 v (l.map Qpa).flatten
theorem QBr (l:List Tok)(k j:Nat)(hk:k<l.length)(hj:j<4):(l.map Qpa).flatten[k*4+j]? =(Qpa l[k])[j]?:=by
 have h:=QNe 4 (l.map Qpa) (by intro x hx;obtain⟨t,_,rfl⟩:=List.mem_map.1 hx;rfl) k j (by simpa using hk) hj;rw[h];simp
theorem QIl (l:List Tok):(l.map Qpa).flatten.length=l.length*4:=by
 rw[Qed 4 _ (by intro x hx;obtain⟨t,_,rfl⟩:=List.mem_map.1 hx;rfl)];simp
theorem Qic.ty {w:World}{b:Nat}{c:Array Value}{T:TypeId}{fr:Nat×Nat}(h:Qic w b c T fr):∀U,tyAt w b=some U→U=T:=by
 obtain⟨V,hV,h⟩:=h;intro U hU;unfold tyAt at hU;rw[h] at hU;simp only at hU
 split at hU
 ·cases hU
 ·injection hU with hU
  rcases hV with hV|hV
  ·exact hU.symm.trans hV
  ·omega
theorem QFb.form {w:World}{v:Value}{l:List Tok}(h:QFb w v l):
  ∃a c,v=.slice a l.length c∧l.length≤maxLen∧l.length≤c∧c≤maxLen∧∀k t,l[k]? = some t→∃b off,a=some ⟨b,off,none⟩∧b<w.heap.size∧(∀U,tyAt w b=some U→U=232) ∧
   ∀j,j<4→w.cell? ⟨b,off+k*4+j,none⟩=(Qpa t)[j]?:=by
 obtain⟨n,cap,h1,h2,h3,h4⟩:=h;rw[QIl] at h1;obtain rfl:n=l.length:=by omega
 rcases h4 with⟨⟨a,rfl⟩,h0⟩|⟨b,off,cs,fr,rfl,e2,e3⟩
 ·refine⟨a,0,by rw[h0],by omega,by omega,by omega,fun k t hk=>?_⟩;have:=(List.getElem?_eq_some_iff.1 hk).1;omega
 ·refine⟨_,cap,rfl,by omega,h2,h3,fun k t hk=>?_⟩;obtain⟨hk2,rfl⟩:=List.getElem?_eq_some_iff.1 hk;refine⟨b,off,rfl,e2.lt,e2.ty,fun j hj=>?_⟩;rw[e2.cell,Nat.add_assoc,e3 _ (by rw[QIl];omega),QBr l k j hk2 hj]
end
section
open Go.RowKit
variable [Base]
section
variable {B bp:Nat} {T:List Tok} {s:PS} {w w':World}
end
theorem Qku {w:World}{b:Nat}{a0 a1 a2:Value}{t:TypeId}{fr:Nat×Nat}(h:w.heap[b]? = some (.cells #[a0,a1,a2] t fr))(x:Value):(w.setCell ⟨b,1,none⟩ x).heap[b]? = some (.cells #[a0,x,a2] t fr):=by
 simp[World.setCell,Array.getElem?_modify,h]
theorem Qju {w:World}{b:Nat}{a0 a1 a2:Value}{t:TypeId}{fr:Nat×Nat}(h:w.heap[b]? = some (.cells #[a0,a1,a2] t fr))(x:Value):(w.setCell ⟨b,2,none⟩ x).heap[b]? = some (.cells #[a0,a1,x] t fr):=by
 simp[World.setCell,Array.getElem?_modify,h]
end
section
namespace R
open Go.RowKit
variable [Base]
theorem rname_sv (s:Str)(w:World):Calls Tryz.prog 175 #[sv s] w (Qde (QV s) w):=Qsk ⟨s.toArray⟩ w
structure PSt (B bp:Nat)(T:List Tok)(s:PS)(w:World):Prop where
 kw:KwIn B w
 ge:B≤bp
 blk:∃a c,w.heap[bp]? = some (.cells #[.slice a T.length c,.int .i64 s.at_,.int .i64 s.err] 227 (0,0))∧QFb w (.slice a T.length c) T
 le:s.at_≤T.length
 er:0≤s.err∧s.err≤100
section
variable {B bp:Nat} {T:List Tok} {s:PS} {w w':World}
theorem PSt.lt (h:PSt B bp T s w):bp<w.heap.size:=by
 obtain⟨a,c,hb,_⟩:=h.blk;exact Qb hb
theorem PSt.keep (h:PSt B bp T s w)(hb:w'.heap[bp]? = w.heap[bp]?)(hB:∀k,k<B→w'.heap[k]? = w.heap[k]?)(hT:Qf 232 w w'):PSt B bp T s w':=by
 obtain⟨a,c,h1,h2⟩:=h.blk;exact⟨h.kw.keep hB,h.ge,⟨a,c,hb.trans h1,h2.same hT⟩,h.le,h.er⟩
theorem PSt.below (h:PSt B bp T s w)(hb:Below w.heap.size w w'):PSt B bp T s w':=
 h.keep (hb.block bp h.lt) (fun k hk=>hb.block k (by have:=h.lt;have:=h.ge;omega)) (Qf.below hb)
theorem PSt.drewN (h:PSt B bp T s w)(n:Nat):PSt B bp T s (w.drewN n):=h.keep rfl (fun _ _=>rfl) Qf.drewN
theorem PSt.alloc (h:PSt B bp T s w)(o:Obj):PSt B bp T s (w.alloc o):=h.below (Zb)
end
def SP (B bp:Nat)(T:List Tok)(s':PS)(v:Value)(w:World)(e:Ending)(w':World):Prop:=e=.returned v∧PSt B bp T s' w'∧But bp w w'
theorem PSt.setErr {B bp:Nat}{T:List Tok}{s:PS}{w:World}(h:PSt B bp T s w)(e:Int)(he:0≤e∧e≤100):PSt B bp T ⟨s.at_,e⟩ (w.setCell ⟨bp,2,none⟩ (.int .i64 e)):=by
 obtain⟨a,c,h1,h2⟩:=h.blk;have hbs:=h.kw.bs;have hge:=h.ge;have hB:∀k,k<B→(w.setCell ⟨bp,2,none⟩ (.int .i64 e)).heap[k]? = w.heap[k]?:=fun k hk=>Below.heap_setCell _ _ _ _ (by have:=h.ge;show k≠bp;omega)
 exact⟨h.kw.keep hB,h.ge,⟨a,c,Qju h1 _,h2.same (Qf.setCell (U:=227) (Qv h1) ZD)⟩,h.le,he⟩
theorem PSt.setAt {B bp:Nat}{T:List Tok}{s:PS}{w:World}(h:PSt B bp T s w)(k:Nat)(hk:k≤T.length):PSt B bp T ⟨k,s.err⟩ (w.setCell ⟨bp,1,none⟩ (.int .i64 k)):=by
 obtain⟨a,c,h1,h2⟩:=h.blk;have hbs:=h.kw.bs;have hge:=h.ge;have hB:∀i,i<B→(w.setCell ⟨bp,1,none⟩ (.int .i64 k)).heap[i]? = w.heap[i]?:=fun i hi=>Below.heap_setCell _ _ _ _ (by have:=h.ge;show i≠bp;omega)
 exact⟨h.kw.keep hB,h.ge,⟨a,c,Qku h1 _,h2.same (Qf.setCell (U:=227) (Qv h1) ZD)⟩,hk,h.er⟩
theorem Qtb {B bp:Nat}{T:List Tok}{s:PS}{w:World}(h:PSt B bp T s w)(e:Int)(he:0≤e∧e≤100):
  Calls Tryz.prog 173 #[.pointer (some ⟨bp,0,none⟩),.int .i64 e] w (SP B bp T (s.fail e) (.tuple #[]) w):=by
 obtain⟨a,c,hb,_⟩:=h.blk;have c2:=(Qd hb).1 2;have f2:=(Qd hb).2 2;simp at c2;have H:=Zh h;clear h hb;by_cases h0:s.err=0
 ·have e1:s.fail e=⟨s.at_,e⟩:=by unfold PS.fail;rw[if_pos h0]
  rw[e1];rw[h0] at c2;clear h0 e1;go_enter Tryz.func173,Tryz.ntmps173;go_wp2;go_end0;exact⟨rfl,H.o.setErr e he,(But.refl bp _).setCell ⟨bp,2,none⟩ (.inl rfl) _⟩
 ·have e1:s.fail e=s:=Qdf h0 e;rw[e1];have h1:(s.err==0)=false:=by rw[beq_eq_false_iff_ne];exact h0
  clear h0 e1;go_enter Tryz.func173,Tryz.ntmps173;go_wp2;go_end0;exact⟨rfl,H.o,But.refl _ _⟩
theorem Qtu {B bp:Nat}{T:List Tok}{s:PS}{w:World}(h:PSt B bp T s w)(h0:s.err≠0)(x:Str):
  Calls Tryz.prog 172 #[.pointer (some ⟨bp,0,none⟩),sv x] w (SP B bp T s (.bool (isW T x s)) w):=by
 obtain⟨a,c,hb,hT⟩:=h.blk;have c0:=(Qd hb).1 0;have c1:=(Qd hb).1 1;have c2:=(Qd hb).1 2;simp at c0 c1 c2;have H:=Zh h;rw[Qpc h0 x];have hE:(s.err==0)=false:=by rw[beq_eq_false_iff_ne];exact h0
 clear h hb h0 hT;go_enter Tryz.func172,Tryz.ntmps172;go_wp2;go_quiet (fail);go_wp2;go_ret;exact⟨rfl,H.o.drewN _,(But.refl _ _).drewN _⟩
theorem Quu {B bp:Nat}{T:List Tok}{s:PS}{w:World}(h:PSt B bp T s w)(h0:s.err=0)(h2:s.at_=T.length)(x:Str):
  Calls Tryz.prog 172 #[.pointer (some ⟨bp,0,none⟩),sv x] w (SP B bp T s (.bool (isW T x s)) w):=by
 obtain⟨a,c,hb,hT⟩:=h.blk;have c0:=(Qd hb).1 0;have c1:=(Qd hb).1 1;have c2:=(Qd hb).1 2;simp at c0 c1 c2;have H:=Zh h;have e0:isW T x s=false:=by unfold isW PS.next;rw[if_pos h0,List.getElem?_eq_none ZO];simp
 rw[e0];rw[h0] at c2;rw[h2] at c1;obtain⟨n,hn⟩:=Ze T.length;rw[hn] at c0 c1;clear h hb h0 h2 e0 hT hn;go_enter Tryz.func172,Tryz.ntmps172;go_wp2;go_quiet (fail);go_wp2;go_ret;exact⟨rfl,H.o.drewN _,(But.refl _ _).drewN _⟩
theorem is_in {B bp:Nat}{T:List Tok}{s:PS}{w:World}(h:PSt B bp T s w)(h0:s.err=0){t:Tok}(ht:T[s.at_]? = some t)(x:Str):
  Calls Tryz.prog 172 #[.pointer (some ⟨bp,0,none⟩),sv x] w (SP B bp T s (.bool (isW T x s)) w):=by
 have en:s.next T=t:=by unfold PS.next;rw[if_pos h0,ht];rfl
 unfold isW;rw[en];clear en;obtain⟨a,c,hb,hT⟩:=h.blk;have c0:=(Qd hb).1 0;have c1:=(Qd hb).1 1;have c2:=(Qd hb).1 2;simp at c0 c1 c2;have H:=Zh h;have hin:s.at_<T.length:=(List.getElem?_eq_some_iff.1 ht).1;obtain⟨a',c',e1,hml,_,_,hcell⟩:=QFb.form hT;injection e1 with e1 e2 e3
 subst e1 e3;obtain⟨tb,off,rfl,htb,_,h4⟩:=hcell s.at_ t ht;obtain⟨k,y,l,cc⟩:=t;have t0:w.cell? ⟨tb,off+s.at_*4,none⟩=some (.int .i64 k):=h4 0 ZO;have t1:w.cell? ⟨tb,off+s.at_*4+1,none⟩=some (sv y):=h4 1 ZO;rw[h0] at c2;have hlt:=h.lt;clear h hb h0 ht hT hcell h4 e2;obtain⟨n,hn⟩:=Ze T.length;obtain⟨i,hi⟩:=Ze s.at_;rw[hn] at c0 hin hml;rw[hi] at c1 t0 t1 hin;unfold maxLen at hml;have hin2:(i:Int)<(n:Int):=by omega
 clear hn hi;show Calls _ _ _ w (SP B bp T s (.bool (k==1&&y==x)) w)
 cases hk:k==1
 ·have HK:=Zh hk;go_enter Tryz.func172,Tryz.ntmps172;go_wp2;go_quiet (fail);go_wp2;go_ret;exact⟨Qgb ZS,H.o.drewN _,(But.refl _ _).drewN _⟩
 ·have HK:=Zh hk;go_enter Tryz.func172,Tryz.ntmps172;go_wp2;go_quiet (fail);go_wp2;go_ret;exact⟨Qgb (by simp[sv]),H.o.drewN _,(But.refl _ _).drewN _⟩
theorem QDf {B bp:Nat}{T:List Tok}{s:PS}{w:World}(h:PSt B bp T s w)(x:Str):
  Calls Tryz.prog 172 #[.pointer (some ⟨bp,0,none⟩),sv x] w (SP B bp T s (.bool (isW T x s)) w):=by
 by_cases h0:s.err=0
 ·cases ht:T[s.at_]? with
 |some t=>exact is_in h h0 ht x
 |none=>
   have h1:=List.getElem?_eq_none_iff.1 ht;exact Quu h h0 (by have:=h.le;omega) x
 ·exact Qtu h h0 x
theorem Quo {B bp:Nat}{T:List Tok}{s:PS}{w:World}(h:PSt B bp T s w)(h0:s.err≠0)(kd:Int)(hkd:kd≠0):
  Calls Tryz.prog 246 #[.pointer (some ⟨bp,0,none⟩),.int .i64 kd] w (SP B bp T s (.bool (isK T kd s)) w):=by
 obtain⟨a,c,hb,hT⟩:=h.blk;have c0:=(Qd hb).1 0;have c1:=(Qd hb).1 1;have c2:=(Qd hb).1 2;simp at c0 c1 c2;have H:=Zh h;rw[QUf h0 hkd];have hE:(s.err==0)=false:=by rw[beq_eq_false_iff_ne];exact h0
 clear h hb h0 hT;go_enter Tryz.func246,Tryz.ntmps246;go_wp2;go_quiet (fail);go_wp2;go_ret;exact⟨rfl,H.o.drewN _,(But.refl _ _).drewN _⟩
theorem Qvo {B bp:Nat}{T:List Tok}{s:PS}{w:World}(h:PSt B bp T s w)(h0:s.err=0)(h2:s.at_=T.length)(kd:Int)(hkd:kd≠0):
  Calls Tryz.prog 246 #[.pointer (some ⟨bp,0,none⟩),.int .i64 kd] w (SP B bp T s (.bool (isK T kd s)) w):=by
 obtain⟨a,c,hb,hT⟩:=h.blk;have c0:=(Qd hb).1 0;have c1:=(Qd hb).1 1;have c2:=(Qd hb).1 2;simp at c0 c1 c2;have H:=Zh h;have e0:isK T kd s=false:=by unfold isK PS.next;rw[if_pos h0,List.getElem?_eq_none ZO];simp;omega
 rw[e0];rw[h0] at c2;rw[h2] at c1;obtain⟨n,hn⟩:=Ze T.length;rw[hn] at c0 c1;clear h hb h0 h2 e0 hT hn;go_enter Tryz.func246,Tryz.ntmps246;go_wp2;go_quiet (fail);go_wp2;go_ret;exact⟨rfl,H.o.drewN _,(But.refl _ _).drewN _⟩
theorem QXq {B bp:Nat}{T:List Tok}{s:PS}{w:World}(h:PSt B bp T s w)(h0:s.err=0){t:Tok}(ht:T[s.at_]? = some t)(kd:Int)(hkd:kd≠0):
  Calls Tryz.prog 246 #[.pointer (some ⟨bp,0,none⟩),.int .i64 kd] w (SP B bp T s (.bool (isK T kd s)) w):=by
 have en:s.next T=t:=by unfold PS.next;rw[if_pos h0,ht];rfl
 unfold isK;rw[en];clear en;obtain⟨a,c,hb,hT⟩:=h.blk;have c0:=(Qd hb).1 0;have c1:=(Qd hb).1 1;have c2:=(Qd hb).1 2;simp at c0 c1 c2;have H:=Zh h;have hin:s.at_<T.length:=(List.getElem?_eq_some_iff.1 ht).1;obtain⟨a',c',e1,hml,_,_,hcell⟩:=QFb.form hT;injection e1 with e1 e2 e3
 subst e1 e3;obtain⟨tb,off,rfl,htb,_,h4⟩:=hcell s.at_ t ht;obtain⟨k,y,l,cc⟩:=t;have t0:w.cell? ⟨tb,off+s.at_*4,none⟩=some (.int .i64 k):=h4 0 ZO;have t1:w.cell? ⟨tb,off+s.at_*4+1,none⟩=some (sv y):=h4 1 ZO;rw[h0] at c2;have hlt:=h.lt;clear h hb h0 ht hT hcell h4 e2;obtain⟨n,hn⟩:=Ze T.length;obtain⟨i,hi⟩:=Ze s.at_;rw[hn] at c0 hin hml;rw[hi] at c1 t0 t1 hin;unfold maxLen at hml;have hin2:(i:Int)<(n:Int):=by omega
 clear hn hi;show Calls _ _ _ w (SP B bp T s (.bool (k==kd)) w);go_enter Tryz.func246,Tryz.ntmps246;go_wp2;go_quiet (fail);go_wp2;go_ret;exact⟨rfl,H.o.drewN _,(But.refl _ _).drewN _⟩
theorem Qyg {B bp:Nat}{T:List Tok}{s:PS}{w:World}(h:PSt B bp T s w)(kd:Int)(hkd:kd≠0):
  Calls Tryz.prog 246 #[.pointer (some ⟨bp,0,none⟩),.int .i64 kd] w (SP B bp T s (.bool (isK T kd s)) w):=by
 by_cases h0:s.err=0
 ·cases ht:T[s.at_]? with
 |some t=>exact QXq h h0 ht kd hkd
 |none=>
   have h1:=List.getElem?_eq_none_iff.1 ht;exact Qvo h h0 (by have:=h.le;omega) kd hkd
 ·exact Quo h h0 kd hkd
theorem Qso {B bp:Nat}{T:List Tok}{s:PS}{w:World}(h:PSt B bp T s w)(h0:s.err≠0) :
  Calls Tryz.prog 245 #[.pointer (some ⟨bp,0,none⟩)] w (SP B bp T s (.bool (isN T s)) w):=by
 obtain⟨a,c,hb,hT⟩:=h.blk;have c0:=(Qd hb).1 0;have c1:=(Qd hb).1 1;have c2:=(Qd hb).1 2;simp at c0 c1 c2;have H:=Zh h;rw[Qoh h0];have hE:(s.err==0)=false:=by rw[beq_eq_false_iff_ne];exact h0
 clear h hb h0 hT;go_enter Tryz.func245,Tryz.ntmps245;go_wp2;go_quiet (fail);go_wp2;go_ret;exact⟨rfl,H.o.drewN _,(But.refl _ _).drewN _⟩
theorem Qto {B bp:Nat}{T:List Tok}{s:PS}{w:World}(h:PSt B bp T s w)(h0:s.err=0)(h2:s.at_=T.length) :
  Calls Tryz.prog 245 #[.pointer (some ⟨bp,0,none⟩)] w (SP B bp T s (.bool (isN T s)) w):=by
 obtain⟨a,c,hb,hT⟩:=h.blk;have c0:=(Qd hb).1 0;have c1:=(Qd hb).1 1;have c2:=(Qd hb).1 2;simp at c0 c1 c2;have H:=Zh h;have e0:isN T s=false:=by unfold isN PS.next;rw[if_pos h0,List.getElem?_eq_none ZO];simp
 rw[e0];rw[h0] at c2;rw[h2] at c1;obtain⟨n,hn⟩:=Ze T.length;rw[hn] at c0 c1;clear h hb h0 h2 e0 hT hn;go_enter Tryz.func245,Tryz.ntmps245;go_wp2;go_quiet (fail);go_wp2;go_ret;exact⟨rfl,H.o.drewN _,(But.refl _ _).drewN _⟩
end R
end
section
namespace R
open Go.RowKit
variable [Base]
theorem QWq {B bp:Nat}{T:List Tok}{s:PS}{w:World}(h:PSt B bp T s w)(h0:s.err=0){t:Tok}(ht:T[s.at_]? = some t) :
  Calls Tryz.prog 245 #[.pointer (some ⟨bp,0,none⟩)] w (SP B bp T s (.bool (isN T s)) w):=by
 have en:s.next T=t:=by unfold PS.next;rw[if_pos h0,ht];rfl
 unfold isN;rw[en];clear en;obtain⟨a,c,hb,hT⟩:=h.blk;have c0:=(Qd hb).1 0;have c1:=(Qd hb).1 1;have c2:=(Qd hb).1 2;simp at c0 c1 c2;have H:=Zh h;have hin:s.at_<T.length:=(List.getElem?_eq_some_iff.1 ht).1;obtain⟨a',c',e1,hml,_,_,hcell⟩:=QFb.form hT;injection e1 with e1 e2 e3
 subst e1 e3;obtain⟨tb,off,rfl,htb,_,h4⟩:=hcell s.at_ t ht;obtain⟨k,y,l,cc⟩:=t;have t0:w.cell? ⟨tb,off+s.at_*4,none⟩=some (.int .i64 k):=h4 0 ZO;have t1:w.cell? ⟨tb,off+s.at_*4+1,none⟩=some (sv y):=h4 1 ZO;rw[h0] at c2;have hlt:=h.lt;clear h hb h0 ht hT hcell h4 e2;obtain⟨n,hn⟩:=Ze T.length;obtain⟨i,hi⟩:=Ze s.at_;rw[hn] at c0 hin hml;rw[hi] at c1 t0 t1 hin;unfold maxLen at hml;have hin2:(i:Int)<(n:Int):=by omega
 clear hn hi;show Calls _ _ _ w (SP B bp T s (.bool (k==1&&QV y)) w)
 cases hk:k==1
 ·have HK:=Zh hk;go_enter Tryz.func245,Tryz.ntmps245;go_wp2;go_quiet (fail);go_wp2;go_ret;exact⟨Qgb ZS,H.o.drewN _,(But.refl _ _).drewN _⟩
 ·have HK:=Zh hk;go_enter Tryz.func245,Tryz.ntmps245;go_wp2;go_region_held3 (fun w'=>w'.cell? ⟨bp,0,none⟩=some (.slice (some ⟨tb,off,none⟩) n c)∧w'.cell? ⟨bp,1,none⟩=some (.int .i64 i)∧w'.cell? ⟨bp,2,none⟩=some (.int .i64 0)∧w'.cell? ⟨tb,off+i*4,none⟩=some (.int .i64 k)∧w'.cell? ⟨tb,off+i*4+1,none⟩=some (sv y)) (go_keep) ((go_at_call 175;refine(rname_sv y _).mono ?_;rintro e w2 ⟨rfl,hbel⟩;have b2:=Zh hbel;have d0:=(hbel.cell (p:=⟨bp,0,none⟩) (show bp<w.heap.size from hlt)).trans c0;have d1:=(hbel.cell (p:=⟨bp,1,none⟩) (show bp<w.heap.size from hlt)).trans c1;have d2:=(hbel.cell (p:=⟨bp,2,none⟩) (show bp<w.heap.size from hlt)).trans c2;have d3:=(hbel.cell (p:=⟨tb,off+i*4,none⟩) (show tb<w.heap.size from htb)).trans t0;have d4:=(hbel.cell (p:=⟨tb,off+i*4+1,none⟩) (show tb<w.heap.size from htb)).trans t1;clear hbel));go_wp2;go_ret;exact⟨Qgb ZS,(H.o.drewN 1).below b2.o,((But.refl bp w).drewN 1).below b2.o⟩
theorem QCa {B bp:Nat}{T:List Tok}{s:PS}{w:World}(h:PSt B bp T s w) :
  Calls Tryz.prog 245 #[.pointer (some ⟨bp,0,none⟩)] w (SP B bp T s (.bool (isN T s)) w):=by
 by_cases h0:s.err=0
 ·cases ht:T[s.at_]? with
 |some t=>exact QWq h h0 ht
 |none=>
   have h1:=List.getElem?_eq_none_iff.1 ht;exact Qto h h0 (by have:=h.le;omega)
 ·exact Qso h h0
end R
end
section
open Go.RowKit
variable [Base]
theorem QGi:(Tryz.prog.info? 9).map (fun i=>(i.zero,i.size,i.bytes))=some (some (.string ⟨#[]⟩),1,16):=by kernel_rfl
end
section
open Go.RowKit
variable [Base]
theorem Qkd {w:World}{base n sz:Nat}{U:TypeId}{v:Value}{xs:List Value}(h:w.ownsRow base U sz v n xs):∃a c,v=.slice a n c:=by
 rcases h.2 with⟨rfl,rfl⟩|⟨g,cap,cur,rfl,_⟩
 ·exact⟨none,0,rfl⟩
 ·exact⟨_,_,rfl⟩
theorem Qae {T:List Tok}{s:PS}{m:Nat}{acc:List Str}(h:isN T s=false):QNa T m acc s=(acc,s):=by
 cases m <;> unfold QNa <;> rw[h] <;> rfl
theorem Qsf {T:List Tok}{s:PS}{m:Nat}{acc:List Str}(h:isN T s=true):QNa T (m+1) acc s=QNa T m (acc++[Qib T s]) s.step:=by
 conv=>lhs;unfold QNa
 rw[if_pos h]
theorem Qui {T:List Tok}{s:PS}{acc:List Str}(h:isN T s=true):QNa T 0 acc s=(acc,s.fail 7):=by
 unfold QNa;rw[if_pos h]
theorem QQp {s:PS}(h:s.err=0){e:Int}(he:e≠0):(s.fail e).err≠0:=by unfold PS.fail;rw[if_pos h];exact he
end
section
open Go.RowKit
variable [Base]
def QCh:Obj:=.cells #[.int .i64 0,.string ⟨#[]⟩,.slice none 0 0,.slice none 0 0] 94
section
variable {B bp R:Nat} {T:List Tok} {w0 w w':World} {s s':PS} {x0 x1 x2 x3:Value}
end
def QQb (T:List Tok)(s:PS):PS:=if QY T s then (QTa T s).2 else s.fail 4
theorem QXc {T:List Tok}{s:PS}(h:QY T s=true)(hN:isN T s=false):(s.next T).kind≠0:=by
 unfold QY at h;rw[hN] at h;simp only[Bool.false_or,Bool.and_eq_true,beq_iff_eq] at h;rw[h.1];decide
theorem Qrl {T:List Tok}{s:PS}(h:(endM T s).err=0):s.err=0:=by
 cases hz:decide (s.err=0) with
|true=>exact of_decide_eq_true hz
|false=>exact absurd h (by have hz2:=of_decide_eq_false hz;unfold endM;rw[QUf hz2 ZD,QEd hz2];exact hz2)
theorem Qgl {w:World}{g base:Nat}{x:Value}(h:w.heap[g]? = some (.cells #[x] 9 (0,0)))(hb:base≤g):w.ownsRow base 9 1 (.slice (some ⟨g,0,none⟩) 1 1) 1 [x]:=
 ⟨rfl,.inr ⟨g,1,#[x],rfl,hb,h,Nat.le_refl _,by unfold maxLen;omega,rfl,rfl⟩⟩
end
section
open Go.RowKit
variable [Base]
theorem QZr {w:World}{g:Nat}{x:Str}(h:w.heap[g]? = some (.cells #[sv x] 9 (0,0))):Qea w (.slice (some ⟨g,0,none⟩) 1 1) [x]:=
 Qg.of_owns (Qgl h (Nat.le_refl g))
end
section
open Go.RowKit
variable [Base]
theorem Qfd (s:PS){e:Int}(he:e≠0):(s.fail e).err≠0:=by
 unfold PS.fail
 split
 ·exact he
 ·assumption
def QSb {X:Type}(bg:PS→Bool)(st:PS→X×PS):Nat→List X→PS→List X×PS
|0,acc,s=>(acc,if bg s then s.fail 7 else s)
|m+1,acc,s=>if bg s then QSb bg st m (acc++[(st s).1]) (st s).2 else (acc,s)
theorem Qpe {X:Type}{bg:PS→Bool}{st:PS→X×PS}{m:Nat}{acc:List X}{s:PS}(h:bg s=false):QSb bg st m acc s=(acc,s):=by
 cases m <;> unfold QSb <;> rw[h] <;> rfl
theorem QRf {X:Type}{bg:PS→Bool}{st:PS→X×PS}{m:Nat}{acc:List X}{s:PS}(h:bg s=true):QSb bg st (m+1) acc s=QSb bg st m (acc++[(st s).1]) (st s).2:=by
 conv=>lhs;unfold QSb
 rw[if_pos h]
theorem Qxj {X:Type}{bg:PS→Bool}{st:PS→X×PS}{acc:List X}{s:PS}(h:bg s=true):QSb bg st 0 acc s=(acc,s.fail 7):=by
 unfold QSb;rw[if_pos h]
def Md {X:Type}(bg:PS→Bool)(st:PS→X×PS)(R:List X×PS)(mx n:Nat)(s:PS)(OK:List X→Prop):Prop:=
 (∃m acc,QSb bg st m acc s=R∧n=acc.length∧n+m=mx∧OK acc)∨(s.err≠0∧R.2=s)
def Hd {X:Type}(bg:PS→Bool)(st:PS→X×PS)(R:List X×PS)(mx n:Nat)(s:PS)(OK:List X→Prop)(b:Bool):Prop:=
 (b=bg s∧Md bg st R mx n s OK)∨(b=true∧bg s=false∧n=0∧R.2=s.fail 4)
def Qsd (mx n:Nat)(s:PS):PS:=if (n:Int)=(mx:Int) then s.fail 7 else s
section
variable {X:Type} {bg:PS→Bool} {st:PS→X×PS} {R:List X×PS} {mx n:Nat} {s:PS} {OK OK':List X→Prop}
theorem Hd.done (h:Hd bg st R mx n s OK false):R.2=s∧(s.err=0→OK R.1):=by
 rcases h with⟨hb,h⟩|⟨h,_⟩
 ·rcases h with⟨m,acc,h1,h2,h3,h4⟩|⟨h1,h2⟩
  ·rw[Qpe hb.symm] at h1;rw[←h1];exact⟨rfl,fun _=>h4⟩
  ·exact⟨h2,fun h=>absurd h h1⟩
 ·cases h
theorem Hd.step (hno:∀s,bg s=false→(st s).2=s.fail 4)(herr:∀s:PS,s.err≠0→bg s=false)(hmx:1≤mx)(h:Hd bg st R mx n s OK true)(hok:∀acc,OK acc→bg s=true→Qsd mx n s=s→(st s).2.err=0→OK' (acc++[(st s).1])):Md bg st R mx (n+1) (st (Qsd mx n s)).2 OK':=by
 rcases h with⟨hb,h⟩|⟨_,hb,h,h2⟩
 ·have hb:=hb.symm;have h0:s.err=0:=by
   rcases Int.decEq s.err 0 with h|h
   ·rw[herr s h] at hb;cases hb
   ·exact h
  rcases h with⟨m,acc,h1,h2,h3,h4⟩|⟨h1,h2⟩
  ·cases m with
  |zero=>
    have hr:Qsd mx n s=s.fail 7:=by unfold Qsd;rw[if_pos ZO]
    rw[hr];have he:=Qfd s (e:=7) ZD;rw[hno _ (herr _ he),Qdf he];rw[Qxj hb] at h1;exact .inr ⟨he,by rw[←h1]⟩
  |succ m=>
    have hr:Qsd mx n s=s:=by unfold Qsd;rw[if_neg ZO]
    have hok:=fun h5=>hok acc h4 hb hr h5
    rw[hr];rw[QRf hb] at h1;rcases Int.decEq (st s).2.err 0 with h5|h5
    ·rw[Qpe (herr _ h5)] at h1;exact .inr ⟨h5,by rw[←h1]⟩
    ·exact .inl ⟨m,acc++[(st s).1],h1,by simp;omega,by omega,hok h5⟩
  ·exact absurd h0 h1
 ·have hr:Qsd mx n s=s:=by unfold Qsd;rw[if_neg ZO]
  rw[hr,hno s hb];exact .inr ⟨Qfd s ZD,h2⟩
end
def QBe (ts:List TypeId)(w w':World):Prop:=∀t∈ts,Qf t w w'
theorem QBe.trans {ts:List TypeId}{a b c:World}(h:QBe ts a b)(k:QBe ts b c):QBe ts a c:=fun t ht=>(h t ht).trans (k t ht)
def Qhf {X:Type}(Cells:World→List Value→X→Prop)(w:World)(xs:List Value)(acc:List X):Prop:=∃xss:List (List Value),xs=xss.flatten∧All2 (Cells w) xss acc
theorem Qhf.mono {X:Type}{Cells:World→List Value→X→Prop}{w w':World}{xs:List Value}{acc:List X}(hk:∀cs x,Cells w cs x→Cells w' cs x)(h:Qhf Cells w xs acc):Qhf Cells w' xs acc:=by
 obtain⟨xss,e,h⟩:=h;exact⟨xss,e,h.mono hk⟩
theorem Qhf.snoc {X:Type}{Cells:World→List Value→X→Prop}{w:World}{xs cs:List Value}{acc:List X}{x:X}(h:Qhf Cells w xs acc)(hc:Cells w cs x):Qhf Cells w (xs++cs) (acc++[x]):=by
 obtain⟨xss,e,h⟩:=h;exact⟨xss++[cs],by rw[e];simp,h.append ⟨hc,trivial⟩⟩
section
variable {U E:TypeId} {esz B bp R bb:Nat} {zR:Obj} {pre:List Value} {T:List Tok} {w0 w w':World} {s s':PS} {v:Value} {n:Nat} {xs:List Value}
end
theorem QYc {w w':World}(h:QBe [9] w w')(cs:List Value)(x:QD):QZa w cs x→QZa w' cs x:=QZa.keep (h _ ZS)
theorem QDc {w w':World}(h:QBe [9,94] w w')(cs:List Value)(x:QI):QKa w cs x→QKa w' cs x:=QKa.keep (h _ ZS) (h _ ZS)
theorem QEe {w w':World}(h:QBe [9,94,92] w w')(cs:List Value)(x:Qo):Qab w cs x→Qab w' cs x:=Qab.keep (h _ ZS) (h _ ZS) (h _ ZS)
def stS (T:List Tok)(s:PS):QD×PS:=((QTa T s).1,QQb T s)
theorem QWc (T:List Tok):∀(m:Nat) (acc:List QD) (s:PS),QWi T m acc s=QSb (QY T) (stS T) m acc s
|0,_,_=>rfl
|m+1,acc,s=>by
  cases hb:QY T s
  ·rw[Qpe hb];unfold QWi;rw[hb];rfl
  ·rw[QRf hb]
   have:(stS T s).2=(QTa T s).2:=by unfold stS QQb;rw[hb];rfl
   rw[this,←QWc T m]
   conv=>lhs;unfold QWi
   rw[hb]
   rfl
theorem QGc (T:List Tok):∀(m:Nat) (acc:List QI) (s:PS),Qxh T m acc s=QSb (isW T Qua) (Qmb T) m acc s
|0,_,_=>rfl
|m+1,acc,s=>by
  cases hb:isW T Qua s
  ·rw[Qpe hb];unfold Qxh;rw[hb];rfl
  ·rw[QRf hb,←QGc T m]
   conv=>lhs;unfold Qxh
   rw[hb]
   rfl
theorem Qxi (T:List Tok):∀(m:Nat) (acc:List Qo) (s:PS),QEj T m acc s=QSb (isW T Qrb) (QHc T) m acc s
|0,_,_=>rfl
|m+1,acc,s=>by
  cases hb:isW T Qrb s
  ·rw[Qpe hb];unfold QEj;rw[hb];rfl
  ·rw[QRf hb,←Qxi T m]
   conv=>lhs;unfold QEj
   rw[hb]
   rfl
theorem QVt (T:List Tok)(s:PS)(h:QY T s=false):(stS T s).2=s.fail 4:=by unfold stS QQb;rw[h];rfl
theorem QKm {T:List Tok}{w:Str}{s:PS}(h:isW T w s=false):Qfg T w s=s.fail 4:=by
 have he:=Qfd s (e:=4) ZD;have e1:QBb (isW T w s) s=s.fail 4:=by rw[h];rfl
 unfold Qfg Qhb endM;rw[e1,Qoh he,QEd he,QUf he ZD,QEd he]
theorem Qnn (T:List Tok)(s:PS)(h:isW T Qua s=false):(Qmb T s).2=s.fail 4:=by
 have he:=Qfd s (e:=4) ZD;unfold Qmb;dsimp only;rw[QKm h,Qsc he,if_neg ZD,Qdf he,QWc,Qpe (Qsc he)]
theorem QIt (T:List Tok)(s:PS)(h:isW T Qrb s=false):(QHc T s).2=s.fail 4:=by
 have he:=Qfd s (e:=4) ZD;unfold QHc;dsimp only;rw[QKm h,Qpc he,if_neg ZD,Qdf he,QGc,Qpe (Qpc he _)];unfold endM;rw[Qpc he,QEd he,QUf he ZD,QEd he]
theorem Qos {T:List Tok}{w:Str}{s:PS}(h:isW T w s=true):(s.next T).kind≠0:=by
 unfold isW at h;simp only[Bool.and_eq_true,beq_iff_eq] at h;omega
end
section
namespace R
open Go.RowKit
variable [Base]
theorem QKp {T:List Tok}{s:PS}(h:(s.next T).kind≠0):s.at_+1≤T.length:=by
 obtain⟨_,t,ht,_⟩:=Qld h;exact(List.getElem?_eq_some_iff.1 ht).1
theorem QDm {T:List Tok}{k:Int}{s:PS}(hk:k≠0)(h:isK T k s=true):(s.next T).kind≠0:=by
 unfold isK at h;rw[beq_iff_eq] at h;rw[h];exact hk
theorem QCm {T:List Tok}{s:PS}(h:isN T s=true):(s.next T).kind≠0:=by
 unfold isN at h;simp only[Bool.and_eq_true,beq_iff_eq] at h;omega
theorem QOg {B bp:Nat}{T:List Tok}{s:PS}{w:World}(h:PSt B bp T s w)(hT:T.length≤1000000)(x:Str):
  Calls Tryz.prog 220 #[.pointer (some ⟨bp,0,none⟩),sv x] w (SP B bp T (QBb (isW T x s) s) (.tuple #[]) w):=by
 have H:=Zh h
 cases hb:isW T x s
 ·have HB:=Zh hb;have e1:QBb false s=s.fail 4:=rfl;rw[e1];clear h hb e1;go_enter Tryz.func220,Tryz.ntmps220;go_wp2_with fail;refine(QDf H.o x).mono ?_;rintro e w1 ⟨rfl,h1,b1⟩;rw[HB.o];have H1:=Zh h1;have B1:=Zh b1;clear h1 b1;go_wp2_with fail;refine(Qtb H1.o 4 ZD).mono ?_;rintro e w2 ⟨rfl,h2,b2⟩;have H2:=Zh h2;have B2:=Zh (B1.o.trans b2);clear h2 b2;go_wp2;go_end0;exact⟨rfl,H2.o,B2.o⟩
 ·have HB:=Zh hb;have hle:=Zh (QKp (Qos hb));have e1:QBb true s=⟨s.at_+1,s.err⟩:=rfl;rw[e1];have hat:=h.le;clear h hb e1;go_enter Tryz.func220,Tryz.ntmps220;go_wp2_with fail;refine(QDf H.o x).mono ?_;rintro e w1 ⟨rfl,h1,b1⟩;rw[HB.o];have hlt:=h1.lt;have H1:=Zh h1;have B1:=Zh b1;obtain⟨a,c,hb,hTk⟩:=h1.blk;have c1:=(Qd hb).1 1;have f1:=(Qd hb).2 1;simp only[List.getElem?_toArray,List.getElem?_cons_succ,List.getElem?_cons_zero] at c1;clear h1 b1 hb hTk;go_wp2;have H3:=Zh (H1.o.setAt (s.at_+1) hle.o);have B3:=Zh (B1.o.setCell ⟨bp,1,none⟩ (.inl rfl) (.int .i64 ((s.at_+1:Nat):Int)));go_end0;exact⟨rfl,H3.o,B3.o⟩
theorem QFc {B bp:Nat}{T:List Tok}{s:PS}{w:World}(h:PSt B bp T s w)(hT:T.length≤1000000) :
  Calls Tryz.prog 222 #[.pointer (some ⟨bp,0,none⟩)] w (SP B bp T (endM T s) (.tuple #[]) w):=by
 have H:=Zh h;unfold endM
 cases hb:isK T 3 s
 ·have HB:=Zh hb;have e1:QBb false s=s.fail 4:=rfl;rw[e1];clear h hb e1;go_enter Tryz.func222,Tryz.ntmps222;go_wp2_with fail;refine(Qyg H.o 3 ZD).mono ?_;rintro e w1 ⟨rfl,h1,b1⟩;rw[HB.o];have H1:=Zh h1;have B1:=Zh b1;clear h1 b1;go_wp2_with fail;refine(Qtb H1.o 4 ZD).mono ?_;rintro e w2 ⟨rfl,h2,b2⟩;have H2:=Zh h2;have B2:=Zh (B1.o.trans b2);clear h2 b2;go_wp2;go_end0;exact⟨rfl,H2.o,B2.o⟩
 ·have HB:=Zh hb;have hle:=Zh (QKp (QDm ZD hb));have e1:QBb true s=⟨s.at_+1,s.err⟩:=rfl;rw[e1];have hat:=h.le;clear h hb e1;go_enter Tryz.func222,Tryz.ntmps222;go_wp2_with fail;refine(Qyg H.o 3 ZD).mono ?_;rintro e w1 ⟨rfl,h1,b1⟩;rw[HB.o];have hlt:=h1.lt;have H1:=Zh h1;have B1:=Zh b1;obtain⟨a,c,hb,hTk⟩:=h1.blk;have c1:=(Qd hb).1 1;have f1:=(Qd hb).2 1;simp only[List.getElem?_toArray,List.getElem?_cons_succ,List.getElem?_cons_zero] at c1;clear h1 b1 hb hTk;go_wp2;have H3:=Zh (H1.o.setAt (s.at_+1) hle.o);have B3:=Zh (B1.o.setCell ⟨bp,1,none⟩ (.inl rfl) (.int .i64 ((s.at_+1:Nat):Int)));go_end0;exact⟨rfl,H3.o,B3.o⟩
theorem name_any {B bp:Nat}{T:List Tok}{s:PS}{w:World}(h:PSt B bp T s w)(hT:T.length≤1000000):
  Calls Tryz.prog 221 #[.pointer (some ⟨bp,0,none⟩)] w (SP B bp T (Qhb T s) (sv (Qib T s)) w):=by
 have H:=Zh h;unfold Qhb Qib
 cases hb:isN T s
 ·have HB:=Zh hb;have e1:QBb false s=s.fail 4:=rfl;have e2:Qmp T false s=[]:=rfl;rw[e1,e2];clear h hb e1 e2;go_enter Tryz.func221,Tryz.ntmps221;go_wp2_with fail;refine(QCa H.o).mono ?_;rintro e w1 ⟨rfl,h1,b1⟩;rw[HB.o];have H1:=Zh h1;have B1:=Zh b1;clear h1 b1;go_wp2_with fail;refine(Qtb H1.o 4 ZD).mono ?_;rintro e w2 ⟨rfl,h2,b2⟩;have H2:=Zh h2;have B2:=Zh (B1.o.trans b2);clear h2 b2;go_wp2;go_ret;exact⟨rfl,H2.o,B2.o⟩
 ·have HB:=Zh hb;have hle:=Zh (QKp (QCm hb));obtain⟨_,t,ht,en⟩:=Qld (QCm hb);have e1:QBb true s=⟨s.at_+1,s.err⟩:=rfl;have e2:Qmp T true s=(s.next T).text:=rfl;rw[e1,e2,en];have hat:=h.le;have HTT:=Zh ht;clear h hb e1 e2 en ht;go_enter Tryz.func221,Tryz.ntmps221;go_wp2_with fail;refine(QCa H.o).mono ?_;rintro e w1 ⟨rfl,h1,b1⟩;rw[HB.o];have hlt:=h1.lt;have H1:=Zh h1;have B1:=Zh b1;obtain⟨a,c,hb,hTk⟩:=h1.blk;have c1:=(Qd hb).1 1;have f1:=(Qd hb).2 1;simp only[List.getElem?_toArray,List.getElem?_cons_succ,List.getElem?_cons_zero] at c1;obtain⟨a',c',e1,hml,_,_,hcell⟩:=QFb.form hTk;injection e1 with e1 e2 e3
  subst e1 e3;obtain⟨tb,off,rfl,htb,hty,h4⟩:=hcell s.at_ t HTT.o;obtain⟨k,y,l,cc⟩:=t;have hneb:tb≠bp:=by intro e;rw[e] at hty;exact absurd (hty _ (Qv hb (by have:=h1.kw.bs;have:=h1.ge;omega))) ZD
  have t1:w1.cell? ⟨tb,off+s.at_*4+1,none⟩=some (sv y):=h4 1 ZO;have c0:=(Qd hb).1 0;simp only[List.getElem?_toArray,List.getElem?_cons_succ,List.getElem?_cons_zero] at c0;have hin:=hle.o;have hwr:IntKind.i64.wrap ((s.at_:Int)+1-1)=(s.at_:Int):=by rw[IntKind.wrap_i64];omega
  obtain⟨n,hn⟩:=Ze T.length;rw[hn] at c0 hin hml;have hin2:(s.at_:Int)<(n:Int):=by omega
  have hb1:(bp==tb)=false:=by rw[beq_eq_false_iff_ne];exact Ne.symm hneb
  clear h1 b1 hb hTk hcell h4 hn e2 hty;have hneb2:¬bp=tb:=fun e=>hneb e.symm
  go_wp2;have H3:=Zh (H1.o.setAt (s.at_+1) hle.o);have B3:=Zh (B1.o.setCell ⟨bp,1,none⟩ (.inl rfl) (.int .i64 ((s.at_+1:Nat):Int)));go_quiet (fail);go_wp2;go_ret;exact⟨rfl,H3.o.drewN _,B3.o.drewN _⟩
end R
end
section
namespace R
open Go.RowKit
variable [Base]
theorem PSt.grown {B bp:Nat}{T:List Tok}{s:PS}{w w':World}(h:PSt B bp T s w){v:Value}{base n sz:Nat}{U:TypeId}{xs:List Value}(hg:w.grownBy w' v.ownBlock)(ho:w.ownsRow base U sz v n xs)(hne:232≠U)(hb:bp<base)(hs:base≤w.heap.size):PSt B bp T s w':=by
 have hbel:=Below.of_grown hg ho hs;exact h.keep (hbel.block bp hb) (fun k hk=>hbel.block k (by have:=h.ge;omega)) (Qf.grown hg ho hne (by have:=h.kw.bs;have:=h.ge;omega))
def QVk (B bp:Nat)(T:List Tok)(r:List Str×PS)(w:World)(e:Ending)(w':World):Prop:=
 ∃a n c,e=.returned (.slice a n c)∧PSt B bp T r.2 w'∧But bp w w'∧∃l,l.length=n∧n≤4∧Qea w' (.slice a n c) l∧(r.2.err=0→l=r.1)
def NmIn (mx B bp:Nat)(T:List Tok)(R:List Str×PS)(w0:World)(g:Nat)(w:World)(v:Value):Prop:=
 ∃(s:PS) (n:Nat) (cs:List Value),PSt B bp T s w∧But bp w0 w∧w.ownsRow w0.heap.size 9 1 v n cs∧g+n=6 ∧
  ∃m acc,QNa T m acc s=R∧n=acc.length∧n+m=mx∧cs=acc.map sv
theorem QNq {B bp:Nat}{T:List Tok}{s:PS}{w:World}(h:PSt B bp T s w)(hT:T.length≤1000000):
  Calls Tryz.prog 255 #[.pointer (some ⟨bp,0,none⟩)] w (QVk B bp T (QNa T 4 [] s) w):=by
 obtain⟨R,hR⟩:=Ze (QNa T 4 [] s);rw[hR];have hlt:=h.lt;have I:Hid (NmIn 4 B bp T R w 6 w (.slice none 0 0)):=⟨s,0,[],h,But.refl _ _,World.ownsRow_nil _ _ _ _,rfl,4,[],hR,rfl,rfl,rfl⟩;clear h hR;go_enter Tryz.func255,Tryz.ntmps255;go_wp2;go_loopg [3] 6 (fun g v wr=>Hid (NmIn 4 B bp T R w g wr v))
 case atStart=>exact I
 case round=>
  obtain⟨s1,n,cs,h1,b1,hown,hgn,m,acc,hm,hn,hnm,hcs⟩:=hrel.o;have H1:=Zh h1;have B1:=Zh b1;have HO:=Zh hown;have HRm:=Zh hm;have HCs:=Zh hcs;have HNn:=Zh hn;have hwz:=b1.size;obtain⟨va,vc,rfl⟩:=Qkd hown;clear h1 b1 hown hm hcs hn hrel I
  cases hN:isN T s1
  ·have HN:=Zh hN;clear hN;go_wp2_with fail;refine(QCa H1.o).mono ?_;rintro e w2 ⟨rfl,h2,b2⟩;have H2:=Zh h2;have B2:=Zh (B1.o.trans b2);have HO2:=Zh (Qvc HO.o b2 hlt);clear h2 b2;rw[HN.o];go_wp2;go_ret;have hm:=HRm.o;rw[Qae HN.o] at hm;have h3:=Qg.of_owns HO2.o;rw[HCs.o] at h3;refine⟨_,_,_,rfl,by rw[←hm];exact H2.o,B2.o,acc,HNn.o.symm,by omega,h3,fun _=>by rw[←hm]⟩
  ·have HN:=Zh hN;obtain⟨herr,tk,htk,_,_,hnv⟩:=Qps hN;have HErr:=Zh herr;clear herr htk hnv hN;go_wp2_with fail;refine(QCa H1.o).mono ?_;rintro e w2 ⟨rfl,h2,b2⟩;have H2:=Zh h2;have B2:=Zh (B1.o.trans b2);have HO2:=Zh (Qvc HO.o b2 hlt);have hwz2:=b2.size;clear h2 b2 HO H1 B1;rw[HN.o]
   cases hfull:((n:Int)==4)
   ·have h5:¬((n:Int)=4):=by simpa using hfull
    have hlt4:n<4:=by omega
    clear h5;go_wp2_with fail;refine(name_any H2.o hT).mono ?_;rintro e w4 ⟨rfl,h4,b4⟩;have e1:Qhb T s1=s1.step:=by unfold Qhb;rw[HN.o];rfl
    rw[e1] at h4;have H4:=Zh h4;have B4:=Zh (B2.o.trans b4);have HO4:=Zh (Qvc HO2.o b4 hlt);have hwz4:=b4.size;obtain⟨nv,hnv⟩:=Ze (Qib T s1);rw[hnv];have HNV:=Zh hnv;clear h4 b4 HO2 H2 B2 e1 hnv;go_wp2_with (at_builtin;refine Qcb [sv nv] rfl _ _ 86 rfl w.heap.size 9 _ 1 16 Tryz.underlying86 QGi rfl ZO _ _ _ HO4.o rfl _ rfl ZS rfl rfl (by unfold maxLen;omega) ZO ZO ?_;intro g cap w6 hown1 hg1 hg2 hg3;have H6:=Zh (PSt.grown H4.o hg1 HO4.o ZD hlt ZO);have B6:=Zh (B4.o.belowB (Below.of_grown hg1 HO4.o ZO) (Nat.le_refl _));have HO6:=Zh hown1;clear hown1 hg1 hg2 hg3);obtain⟨m',rfl⟩:∃m',m=m' + 1:=⟨m-1,by omega⟩;have hr2:QNa T m' (acc++[nv]) s1.step=R:=by
     have h5:=HRm.o;rw[Qsf HN.o,HNV.o] at h5;exact h5
    go_roundg (gk-1)
    case measure=>omega
    case rel=>exact⟨_,n+1,_,H6.o,B6.o,HO6.o,by omega,m',acc++[nv],hr2,by have:=HNn.o;simp;omega,by omega,by rw[HCs.o];simp⟩
   ·have h5:(n:Int)=4:=by simpa using hfull
    have hm0:m=0:=by omega
    clear h5;subst hm0;have hE:=Zh (QQp HErr.o (e:=7) ZD);go_wp2_with fail;refine(Qtb H2.o 7 ZD).mono ?_;rintro e w3 ⟨rfl,h3,b3⟩;have H3:=Zh h3;have B3:=Zh (B2.o.trans b3);clear h3 b3;go_wp2;go_ret;have hm:=HRm.o;rw[Qui HN.o] at hm;refine⟨_,_,_,rfl,by rw[←hm];exact H3.o,B3.o,[],rfl,by omega,Qg.nil,fun h0=>absurd (by rw[←hm] at h0;exact h0) hE.o⟩
theorem Qks {B bp:Nat}{T:List Tok}{s:PS}{w:World}(h:PSt B bp T s w)(hT:T.length≤1000000):
  Calls Tryz.prog 254 #[.pointer (some ⟨bp,0,none⟩),.int .i64 1] w (QVk B bp T (QNa T 3 [] s) w):=by
 obtain⟨R,hR⟩:=Ze (QNa T 3 [] s);rw[hR];have hlt:=h.lt;have I:Hid (NmIn 3 B bp T R w 6 w (.slice none 0 0)):=⟨s,0,[],h,But.refl _ _,World.ownsRow_nil _ _ _ _,rfl,3,[],hR,rfl,rfl,rfl⟩;clear h hR;go_enter Tryz.func254,Tryz.ntmps254;go_wp2;go_loopg [5] 6 (fun g v wr=>Hid (NmIn 3 B bp T R w g wr v))
 case atStart=>exact I
 case round=>
  obtain⟨s1,n,cs,h1,b1,hown,hgn,m,acc,hm,hn,hnm,hcs⟩:=hrel.o;have H1:=Zh h1;have B1:=Zh b1;have HO:=Zh hown;have HRm:=Zh hm;have HCs:=Zh hcs;have HNn:=Zh hn;have hwz:=b1.size;obtain⟨va,vc,rfl⟩:=Qkd hown;clear h1 b1 hown hm hcs hn hrel I
  cases hN:isN T s1
  ·have HN:=Zh hN;clear hN;go_wp2_with fail;refine(QCa H1.o).mono ?_;rintro e w2 ⟨rfl,h2,b2⟩;have H2:=Zh h2;have B2:=Zh (B1.o.trans b2);have HO2:=Zh (Qvc HO.o b2 hlt);clear h2 b2;rw[HN.o];go_wp2;go_ret;have hm:=HRm.o;rw[Qae HN.o] at hm;have h3:=Qg.of_owns HO2.o;rw[HCs.o] at h3;refine⟨_,_,_,rfl,by rw[←hm];exact H2.o,B2.o,acc,HNn.o.symm,by omega,h3,fun _=>by rw[←hm]⟩
  ·have HN:=Zh hN;obtain⟨herr,tk,htk,_,_,hnv⟩:=Qps hN;have HErr:=Zh herr;clear herr htk hnv hN;go_wp2_with fail;refine(QCa H1.o).mono ?_;rintro e w2 ⟨rfl,h2,b2⟩;have H2:=Zh h2;have B2:=Zh (B1.o.trans b2);have HO2:=Zh (Qvc HO.o b2 hlt);have hwz2:=b2.size;clear h2 b2 HO H1 B1;rw[HN.o]
   cases hfull:(1+(n:Int)==4)
   ·have h5:¬(1+(n:Int)=4):=by simpa using hfull
    have hlt4:n<3:=by omega
    clear h5;go_wp2_with fail;refine(name_any H2.o hT).mono ?_;rintro e w4 ⟨rfl,h4,b4⟩;have e1:Qhb T s1=s1.step:=by unfold Qhb;rw[HN.o];rfl
    rw[e1] at h4;have H4:=Zh h4;have B4:=Zh (B2.o.trans b4);have HO4:=Zh (Qvc HO2.o b4 hlt);have hwz4:=b4.size;obtain⟨nv,hnv⟩:=Ze (Qib T s1);rw[hnv];have HNV:=Zh hnv;clear h4 b4 HO2 H2 B2 e1 hnv;go_wp2_with (at_builtin;refine Qcb [sv nv] rfl _ _ 86 rfl w.heap.size 9 _ 1 16 Tryz.underlying86 QGi rfl ZO _ _ _ HO4.o rfl _ rfl ZS rfl rfl (by unfold maxLen;omega) ZO ZO ?_;intro g cap w6 hown1 hg1 hg2 hg3;have H6:=Zh (PSt.grown H4.o hg1 HO4.o ZD hlt ZO);have B6:=Zh (B4.o.belowB (Below.of_grown hg1 HO4.o ZO) (Nat.le_refl _));have HO6:=Zh hown1;clear hown1 hg1 hg2 hg3);obtain⟨m',rfl⟩:∃m',m=m' + 1:=⟨m-1,by omega⟩;have hr2:QNa T m' (acc++[nv]) s1.step=R:=by
     have h5:=HRm.o;rw[Qsf HN.o,HNV.o] at h5;exact h5
    go_roundg (gk-1)
    case measure=>omega
    case rel=>exact⟨_,n+1,_,H6.o,B6.o,HO6.o,by omega,m',acc++[nv],hr2,by have:=HNn.o;simp;omega,by omega,by rw[HCs.o];simp⟩
   ·have h5:1+(n:Int)=4:=by simpa using hfull
    have hm0:m=0:=by omega
    clear h5;subst hm0;have hE:=Zh (QQp HErr.o (e:=7) ZD);go_wp2_with fail;refine(Qtb H2.o 7 ZD).mono ?_;rintro e w3 ⟨rfl,h3,b3⟩;have H3:=Zh h3;have B3:=Zh (B2.o.trans b3);clear h3 b3;go_wp2;go_ret;have hm:=HRm.o;rw[Qui HN.o] at hm;refine⟨_,_,_,rfl,by rw[←hm];exact H3.o,B3.o,[],rfl,by omega,Qg.nil,fun h0=>absurd (by rw[←hm] at h0;exact h0) hE.o⟩
end R
end
section
namespace R
open Go.RowKit
variable [Base]
def QXd:List Str:=[[117,115,101],[99,97,108,108],[115,111,117,114,99,101],[115,105,110,107],[115,97,110,105,116,105,122,101],[103,111,116,111],[98,114,97,110,99,104],[114,101,116,117,114,110]]
theorem QXr (x:Str):(opOf x != 0)=QXd.any (fun y=>x==y):=by
 unfold opOf QXd;simp only[List.any_cons,List.any_nil,Bool.or_false]
 repeat' split
 all_goals simp_all
theorem QIh (T:List Tok)(s:PS):QY T s=(isN T s||QXd.any (fun y=>isW T y s)):=by
 unfold QY isW;rw[QXr]
 congr 1
 cases (s.next T).kind==1
 ·rw[Bool.false_and]
  symm
  rw[List.any_eq_false];simp
 ·simp only[Bool.true_and]
def Qek:Obj:=.cells #[sv [117,115,101],sv [99,97,108,108],sv [115,111,117,114,99,101],sv [115,105,110,107],sv [115,97,110,105,116,105,122,101],sv [103,111,116,111],sv [98,114,97,110,99,104],sv [114,101,116,117,114,110]] 9 (0,0)
theorem Qeq {w:World}{b i:Nat}(h:w.heap[b]? = some Qek){x:Str}(hx:QXd[i]? = some x):w.cell? ⟨b,i,none⟩=some (sv x):=by
 rw[(Qd h).1 i];have:i<8:=(List.getElem?_eq_some_iff.1 hx).1;have h8:i=0∨i=1∨i=2∨i=3∨i=4∨i=5∨i=6∨i=7:=by omega
 rcases h8 with rfl|rfl|rfl|rfl|rfl|rfl|rfl|rfl <;>(injection hx with hx;rw[←hx];rfl)
def BgIn (B bp b:Nat)(T:List Tok)(s:PS)(w0:World)(g:Nat)(w:World)(v:Value):Prop:=
 ∃i:Nat,v=.int .i64 i∧g+i=9∧i≤8∧PSt B bp T s w∧But bp w0 w∧w.heap[b]? = some Qek∧∀j x,j<i→QXd[j]? = some x→isW T x s=false
theorem QLg {B bp:Nat}{T:List Tok}{s:PS}{w:World}(h:PSt B bp T s w):
  Calls Tryz.prog 247 #[.pointer (some ⟨bp,0,none⟩)] w (SP B bp T s (.bool (QY T s)) w):=by
 have hlt:=h.lt;rw[QIh];have I:Hid (BgIn B bp w.heap.size T s w 9 (w.alloc (.cells #[sv [117,115,101],sv [99,97,108,108],sv [115,111,117,114,99,101],sv [115,105,110,107],sv [115,97,110,105,116,105,122,101],sv [103,111,116,111],sv [98,114,97,110,99,104],sv [114,101,116,117,114,110]] 9)) (.int .i64 0)):=
  ⟨0,rfl,rfl,by omega,h.alloc _,(But.refl _ _).alloc _,heap_alloc_new _ _,fun j x hj=>absurd hj ZO⟩
 clear h;go_enter Tryz.func247,Tryz.ntmps247;go_wp2;obtain⟨b,hb⟩:=Ze w.heap.size;rw[hb] at I ⊢;have hbp:bp<b:=by omega
 clear hb;go_loopg [4] 9 (fun g v wr=>Hid (BgIn B bp b T s w g wr v))
 case atStart=>exact I
 case round=>
  obtain⟨i,rfl,hgi,hi8,h1,b1,hblk,hall⟩:=hrel.o;have H1:=Zh h1;have B1:=Zh b1;have HK:=Zh hblk;have HA:=Zh hall;have hbz:=Qb hblk;clear h1 b1 hblk hall hrel I;rcases Nat.lt_or_ge i 8 with hi|hi
  ·obtain⟨x,hx⟩:∃x,QXd[i]? = some x:=⟨_,List.getElem?_eq_getElem (show i<QXd.length from hi)⟩;have HX:=Zh hx;have c1:=Qeq HK.o hx;have hi':(i:Int)<8:=by omega
   clear hx;go_wp2_with fail;refine(QDf H1.o x).mono ?_;rintro e w2 ⟨rfl,h2,b2⟩;have H2:=Zh h2;have B2:=Zh (B1.o.trans b2);have HK2:=Zh (b2.blk HK.o ZO);clear h2 b2
   cases hw:isW T x s
   ·have HW:=Zh hw;clear hw;go_wp2;go_roundg (gk-1)
    case measure=>omega
    case rel=>
     refine⟨i+1,rfl,by omega,by omega,H2.o,B2.o,HK2.o,fun j y hj hy=>?_⟩;rcases Nat.lt_or_ge j i with hji|hji
     ·exact HA.o j y hji hy
     ·obtain rfl:j=i:=by omega
      rw[HX.o] at hy;injection hy with hy
      rw[←hy];exact HW.o
   ·have HW:=Zh hw;clear hw;go_wp2;go_ret;refine⟨Qgb ?_,H2.o,B2.o⟩;have:QXd.any (fun y=>isW T y s)=true:=List.any_eq_true.2 ⟨x,List.mem_of_getElem? HX.o,HW.o⟩;rw[this,Bool.or_true]
  ·obtain rfl:i=8:=by omega
   go_wp2_with fail;refine(QCa H1.o).mono ?_;rintro e w2 ⟨rfl,h2,b2⟩;have H2:=Zh h2;have B2:=Zh (B1.o.trans b2);clear h2 b2;go_wp2;go_ret;refine⟨Qgb ?_,H2.o,B2.o⟩;have:QXd.any (fun y=>isW T y s)=false:=by
    rw[List.any_eq_false];intro y hy;obtain⟨j,hj⟩:=List.getElem?_of_mem hy;have hj8:j<8:=(List.getElem?_eq_some_iff.1 hj).1;rw[HA.o j y hj8 hj];decide
   rw[this,Bool.or_false]
end R
end
end Go.Proofs.YtijekimobahgpaaGreatDoor
