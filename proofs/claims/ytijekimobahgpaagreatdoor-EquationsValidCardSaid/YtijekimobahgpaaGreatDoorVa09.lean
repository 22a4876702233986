/- A part of the proof. -/
import Derived.Test.YtijekimobahgpaaGreatDoorVa08
import Derived.BigRegion
import Derived.RegionTactic
set_option linter.unusedVariables false
set_option linter.unusedSimpArgs false
set_option linter.unusedSectionVars false
set_option maxRecDepth 100000
set_option maxHeartbeats 16000000
namespace Go.Proofs.YtijekimobahgpaaGreatDoor
section
open Go.RowKit
variable [Base]
theorem QHl {p:List Qo}(hv:QMa p=true):(∀f∈p,f.name.length≤1000)∧∀f∈p,Qct f:=by
 have hs:=Qji hv;have hm:∀f∈p,∀b∈f.blocks,∀s∈b.stmts,s∈QH p:=fun f hf b hb s hx=>by
  unfold QH;exact List.mem_flatten.2 ⟨_,List.mem_map.2 ⟨f,hf,rfl⟩,List.mem_flatten.2 ⟨_,List.mem_map.2 ⟨b,hb,rfl⟩,hx⟩⟩
 unfold QMa at hv;simp only[Bool.and_eq_true,decide_eq_true_eq,List.all_eq_true] at hv;refine⟨fun f hf=>?_,fun f hf=>⟨fun b hb=>?_,fun b hb s hx t ht=>?_⟩⟩
 ·have h:=hv.2.2 f hf;unfold QNc at h;simp only[Bool.and_eq_true,decide_eq_true_eq,List.all_eq_true] at h;exact Qaf h.1
 ·have h:=hv.2.2 f hf;unfold QNc at h;simp only[Bool.and_eq_true,decide_eq_true_eq,List.all_eq_true] at h;have h2:=h.2.2.2 b hb;unfold Qoc at h2;simp only[Bool.and_eq_true,decide_eq_true_eq,List.all_eq_true] at h2;exact Qaf h2.1
 ·have h:=hs s (hm f hf b hb s hx);rw[QYi] at h;unfold QHh at h;simp only[Bool.and_eq_true,List.all_eq_true] at h;have:=Qaf (h.2.2.2.2.2 t (by unfold Qhh;simp[ht]));unfold maxLen;omega
theorem QQm {fs:List Str}{l:List Qo}{k:Nat}{f:Qo}(h:l[k]? = some f):QQc fs (l.drop k)=Qte (Qxf fs f) (QQc fs (l.drop (k+1))):=by
 obtain⟨hk,rfl⟩:=List.getElem?_eq_some_iff.1 h;rw[List.drop_eq_getElem_cons hk];rfl
theorem QYh {B:Nat}{w:World}(kw:KwIn B w)(hB:B≤w.heap.size)(p:List Qo)(v:Value)(h:QAa w v p)(hf:∀f∈p,∀b∈f.blocks,∀s∈b.stmts,FitS s):
  Calls Tryz.prog 96 #[.agg #[v]] w (Qbu (QFa p) w):=by
 obtain⟨pb,hpb⟩:=Ze w.heap.size;have HV:=Zh (fun (x:World) (b:Below pb w x)=>QFe (kw.keep fun k hk=>b.block k ZO) (by have:=b.size;omega) p v (h.keep (Qf.below (hpb▸b)) (Qf.below (hpb▸b)) (Qf.below (hpb▸b)) (Qf.below (hpb▸b))) hf);have HSZ:=Zh (fun (x:World) (b:Below pb w x)=>Qqq (kw.keep fun k hk=>b.block k ZO) (by have:=b.size;omega) p v (h.keep (Qf.below (hpb▸b)) (Qf.below (hpb▸b)) (Qf.below (hpb▸b)) (Qf.below (hpb▸b))) hf);have HVA:=Zh (fun (x:World) (b:Below pb w x) hv=>QPi (kw.keep fun k hk=>b.block k ZO) (by have:=b.size;omega) p v (h.keep (Qf.below (hpb▸b)) (Qf.below (hpb▸b)) (Qf.below (hpb▸b)) (Qf.below (hpb▸b))) hf hv);have HDU:=Zh (fun (x:World) (b:Below pb w x) hp=>QFs p hp v x (h.keep (Qf.below (hpb▸b)) (Qf.below (hpb▸b)) (Qf.below (hpb▸b)) (Qf.below (hpb▸b))));obtain⟨a,c,rfl,hn,hc⟩:=h.cell;have HC:=Zh hc;obtain⟨n,hl⟩:=Ze p.length;rw[hl] at hn HV HSZ HVA HDU ⊢;unfold maxLen at hn;obtain⟨W,hW⟩:=Ze ((w.alloc (.cells #[.slice a n c] 25)).alloc (.cells #[iv 0,iv 0,iv 0,iv 0] 108));have HPB:=Zh (show W.heap[pb]? = some (.cells #[.slice a n c] 25 (0,0)) by rw[←hW,←hpb];exact Qfa _ (heap_alloc_new _ _));have HRB:=Zh (show W.heap[pb+1]? = some (.cells #[iv 0,iv 0,iv 0,iv 0] 108 (0,0)) by rw[←hW,←hpb];have:=heap_alloc_new (w.alloc (.cells #[.slice a n c] 25)) (.cells #[iv 0,iv 0,iv 0,iv 0] 108);rwa [World.size_alloc] at this);have BW:=Zh (show Below pb w W by rw[←hW,←hpb];exact(Zb).alloc ZS _);have HWW:=Zh hW;have HPE:=Zh hpb;have HL:=Zh hl;have HFF:=Zh hf;clear h hc hl hW kw hf;have x0:=(Qd HPB.o).1 0;simp at x0;obtain⟨r,hr⟩:=Ze (QMa p);rw[hr] at HV;have HR0:=Zh hr;clear hr;go_enter Tryz.func96,Tryz.ntmps96;go_upto_region 1 with(fail)
 rw[show(w.alloc (.cells #[.slice a n c] 25)).alloc (.cells #[iv 0,iv 0,iv 0,iv 0] 108)=W from HWW.o]
 try rw[hpb]
 clear hpb;go_wp2_with fail;refine(HV.o W BW.o).mono ?_;rintro e w1 ⟨rfl,b1⟩;have HPB1:=Zh (Qc HPB.o b1 (Qb HPB.o));have HRB1:=Zh (Qc HRB.o b1 (Qb HRB.o));have B1:=Zh (BW.o.trans (b1.mono (by have:=BW.o.size;have:=HPE.o;omega)));clear b1 x0;have x0:=(Qd HPB1.o).1 0;simp at x0;obtain⟨r0,r1,r2,r3⟩:=Qt HRB1.o;have fr:=(Qa HRB1.o).2
 cases r
 ·have HF:=Zh (show QFa p=1 by unfold QFa;rw[HR0.o];rfl);go_wp2;rw[HF.o];obtain⟨z0,z1,z2,z3⟩:=Qt (set4 HRB1.o (iv 0) (iv 0) (iv 0) (iv 0));exact bodyPost_ret (v:=.tuple #[.agg #[iv 0,iv 0,iv 0,iv 0],iv 1]) (by simp[results,Tryz.results96,go_sem,z0,z1,z2,z3]) rfl ⟨_,_,_,_,rfl,((((HPE.o▸B1.o).setCell (by show w.heap.size≤pb+1;have:=HPE.o;omega) _).setCell (by show w.heap.size≤pb+1;have:=HPE.o;omega) _).setCell (by show w.heap.size≤pb+1;have:=HPE.o;omega) _).setCell (by show w.heap.size≤pb+1;have:=HPE.o;omega) _⟩
 have HSH:=Zh (QHl HR0.o);have K:=Zh (HDU.o w1 B1.o HSH.o.1);obtain⟨fs,hfs⟩:=Ze (p.map Qo.name);rw[hfs] at K;have HFS:=Zh (show QRc p=fs from hfs);clear hfs;go_wp2_with fail;refine K.o.mono ?_;rintro e w2 ⟨mb,rfl,hm2,hb2,b2⟩;have HM2:=Zh hm2;have HPB2:=Zh (Qc HPB1.o b2 (Qb HPB1.o));have HRB2:=Zh (Qc HRB1.o b2 (Qb HRB1.o));have B2:=Zh (B1.o.trans (b2.mono (by have:=B1.o.size;have:=HPE.o;omega)));clear b2 hm2 hb2 x0 r0 r1 r2 r3 fr K;have x0:=(Qd HPB2.o).1 0;simp at x0;obtain⟨r0,r1,r2,r3⟩:=Qt HRB2.o;have fr:=(Qa HRB2.o).2;obtain⟨d,hd⟩:=Ze (dupI fs);have HCK:=Zh (show QFa p=if 0≤d then 6 else if QQc fs p≠0 then QQc fs p else if 64<(QN p).length∨256<QMd p∨1024<QNd p then 7 else 0 by unfold QFa;rw[HR0.o,HFS.o,hd];simp);rw[hd];clear hd;by_cases hd0:0≤d
 ·rw[if_pos hd0] at HCK;go_wp2;rw[HCK.o];obtain⟨z0,z1,z2,z3⟩:=Qt (set4 HRB2.o (iv 1) (iv d) (iv (-1)) (iv (-1)));exact bodyPost_ret (v:=.tuple #[.agg #[iv 1,iv d,iv (-1),iv (-1)],iv 6]) (by simp[results,Tryz.results96,go_sem,z0,z1,z2,z3]) rfl ⟨_,_,_,_,rfl,((((HPE.o▸B2.o).setCell (by show w.heap.size≤pb+1;have:=HPE.o;omega) _).setCell (by show w.heap.size≤pb+1;have:=HPE.o;omega) _).setCell (by show w.heap.size≤pb+1;have:=HPE.o;omega) _).setCell (by show w.heap.size≤pb+1;have:=HPE.o;omega) _⟩
 rw[if_neg hd0] at HCK;go_wp2;clear x0 r0 r1 r2 r3 fr;go_loopw [29] (fun y wr=>∃k:Nat,k≤n∧y=.int .i64 k∧Hid (Below pb w wr)∧Hid (Qnb wr mb fs.length fs)∧Hid (wr.heap[pb]? = some (.cells #[.slice a n c] 25 (0,0)))∧Hid (wr.heap[pb+1]? = some (.cells #[iv 0,iv 0,iv 0,iv 0] 108 (0,0)))∧Hid (QQc fs p=QQc fs (p.drop k))) (fun y _=>n-(intOf y).toNat)
 case atStart=>exact⟨0,Nat.zero_le _,rfl,B2.o,HM2.o,HPB2.o,HRB2.o,rfl⟩
 case round=>
  obtain⟨k,hk,rfl,HB,HM,HP,HR,HE⟩:=hrel;by_cases hlt:k<n
  ·obtain⟨f,hf⟩:∃f,p[k]? = some f:=⟨_,List.getElem?_eq_getElem (by rw[HL.o];exact hlt)⟩;obtain⟨fb,off,bv,rfl,hfb,g0,g1,hbl⟩:=HC.o k f hf;have hpe:=HPE.o;have g0:=(HB.o.cell (p:=⟨fb,off+k*2,none⟩) (by show fb<pb;omega)).trans g0;have g1:=(HB.o.cell (p:=⟨fb,off+k*2+1,none⟩) (by show fb<pb;omega)).trans g1;have HBL:=Zh (hbl.keep (Qf.below (hpe.symm▸HB.o)) (Qf.below (hpe.symm▸HB.o)) (Qf.below (hpe.symm▸HB.o)));obtain⟨ba,bc,rfl,-,-⟩:=hbl.cell;obtain⟨bn,hbn⟩:=Ze (List.length f.blocks);rw[hbn] at g1 HBL;have HSF:=Zh (HSH.o.2 f (List.mem_of_getElem? hf));have HD:=Zh (QQm (fs:=fs) hf);obtain⟨U,hU⟩:=Ze (wr.alloc (.cells #[sv f.name,.slice ba bn bc] 89));have BU:=Zh (show Below wr.heap.size wr U by rw[←hU];exact Zb);have HXB:=Zh (show U.heap[wr.heap.size]? = some (.cells #[sv f.name,.slice ba bn bc] 89 (0,0)) by rw[←hU];exact heap_alloc_new _ _);have HUU:=Zh hU;have HBU:=Zh (HB.o.trans (BU.o.mono (by have:=HB.o.size;omega)));have KF:=Zh (QXj f k fs mb fs.length (.slice ba bn bc) U (HBL.o.keep (Qf.below BU.o) (Qf.below BU.o) (Qf.below BU.o)) HSF.o (HM.o.below BU.o));obtain⟨er,her⟩:=Ze (Qxf fs f);rw[her] at KF HD;obtain⟨xb,hxb⟩:=Ze wr.heap.size;rw[hxb] at HXB BU;have HXE:=Zh hxb;clear hf hbl hbn hU her hpe;go_upto_region 9 with(fail)
   rw[show wr.alloc (.cells #[sv f.name,.slice ba bn bc] 89)=U from HUU.o]
   try rw[hxb]
   clear hxb g0 g1;obtain⟨x0,x1⟩:=Qq HXB.o;go_wp2_with fail;refine KF.o.mono ?_;rintro e w3 ⟨na,nb,nc,nd,rfl,b3⟩;have hsU:pb≤U.heap.size:=by have:=HBU.o.size;have:=HPE.o;omega
   have b4:=(Below.refl w3.heap.size w3).alloc (Nat.le_refl _) (.cells #[iv na,iv nb,iv nc,iv nd] 108);have b34:=b3.trans (b4.mono b3.size);have HB4:=Zh (HBU.o.trans (b34.mono hsU));have HM4:=Zh ((HM.o.below (HXE.o.symm▸BU.o)).below b34);have HP4:=Zh (Qc (Qc HP.o BU.o (by have:=Qb HP.o;have:=HXE.o;omega)) b34 (by have:=Qb HP.o;have:=BU.o.size;omega));have HR4:=Zh (Qc (Qc HR.o BU.o (by have:=Qb HR.o;have:=HXE.o;omega)) b34 (by have:=Qb HR.o;have:=BU.o.size;omega));have HZ:=Zh (heap_alloc_new w3 (.cells #[iv na,iv nb,iv nc,iv nd] 108));clear b3 b4 b34 x0 x1;by_cases her0:er=0
   ·have HF:=Zh (show QQc fs p=QQc fs (p.drop (k+1)) by rw[HE.o,HD.o,her0];rfl);have hne0:(er != 0)=false:=by simpa using her0
    clear her0;go_wp2;go_roundw
    case rel=>exact⟨k+1,by omega,by go_num,HB4,HM4,HP4,HR4,HF⟩
    case measure=>simp[intOf];omega
   ·have HF:=Zh (show QFa p=er by rw[HCK.o,HE.o,HD.o,QUh her0,if_pos her0]);have hne0:(er != 0)=true:=by simpa using her0
    clear her0;obtain⟨V,hV⟩:=Ze (w3.alloc (.cells #[iv na,iv nb,iv nc,iv nd] 108));have HVV:=Zh hV;rw[hV] at HB4 HR4 HZ;obtain⟨yb,hyb⟩:=Ze w3.heap.size;rw[hyb] at HZ;clear hV HM4 HP4;go_upto_region 10 with(fail)
    rw[show w3.alloc (.cells #[iv na,iv nb,iv nc,iv nd] 108)=V from HVV.o]
    try rw[hyb]
    clear hyb;obtain⟨r0,r1,r2,r3⟩:=Qt HR4.o;obtain⟨y0,y1,y2,y3⟩:=Qt HZ.o;have fr:=(Qa HR4.o).2;go_wp2;rw[HF.o];obtain⟨z0,z1,z2,z3⟩:=Qt (set4 HR4.o (iv na) (iv nb) (iv nc) (iv nd));exact bodyPost_ret (v:=.tuple #[.agg #[iv na,iv nb,iv nc,iv nd],iv er]) (by simp[results,Tryz.results96,go_sem,z0,z1,z2,z3]) rfl ⟨_,_,_,_,rfl,((((HPE.o▸HB4.o).setCell (by show w.heap.size≤pb+1;have:=HPE.o;omega) _).setCell (by show w.heap.size≤pb+1;have:=HPE.o;omega) _).setCell (by show w.heap.size≤pb+1;have:=HPE.o;omega) _).setCell (by show w.heap.size≤pb+1;have:=HPE.o;omega) _⟩
  ·have HF0:=Zh (show QQc fs p=0 by rw[HE.o,List.drop_eq_nil_of_le (by rw[HL.o];omega)];rfl);have HCK2:=Zh (show QFa p=if 64<(QN p).length∨256<QMd p∨1024<QNd p then 7 else 0 by rw[HCK.o,HF0.o];rfl);have hpe:=HPE.o;have K1:=Zh (HSZ.o wr HB.o);obtain⟨nn,hnn⟩:=Ze (QMd p);obtain⟨en,hen⟩:=Ze (QNd p);obtain⟨vn,hvn⟩:=Ze ((QN p).length);rw[hnn,hen] at K1 HCK2;rw[hvn] at HCK2;have HVN:=Zh hvn;clear hnn hen hvn hpe;have x0:=(Qd HP.o).1 0;simp at x0;go_wp2_with fail;refine K1.o.mono ?_;rintro e w3 ⟨rfl,b3⟩;have HB3:=Zh (HB.o.trans (b3.mono (by have:=HB.o.size;have:=HPE.o;omega)));have HP3:=Zh (Qc HP.o b3 (Qb HP.o));have HR3:=Zh (Qc HR.o b3 (Qb HR.o));have K2:=Zh (HVA.o w3 HB3.o HR0.o);clear b3 x0;have x0:=(Qd HP3.o).1 0;simp at x0;go_wp2_with fail;refine K2.o.mono ?_;rintro e w4 ⟨vv,rfl,hvo,b4⟩;obtain⟨va,vc,rfl,-,-⟩:=QXa hvo;rw[HVN.o];have HB4:=Zh (HB3.o.trans (b4.mono (by have:=HB3.o.size;have:=HPE.o;omega)));have HR4:=Zh (Qc HR3.o b4 (Qb HR3.o));clear b4 hvo x0 K2 K1;obtain⟨r0,r1,r2,r3⟩:=Qt HR4.o;have fr:=(Qa HR4.o).2;by_cases h1:64<vn
   ·have HF:=Zh (show QFa p=7 by rw[HCK2.o,if_pos (.inl h1)]);go_wp2;rw[HF.o];obtain⟨z0,z1,z2,z3⟩:=Qt (set4 HR4.o (iv 0) (iv 0) (iv 0) (iv 0));exact bodyPost_ret (v:=.tuple #[.agg #[iv 0,iv 0,iv 0,iv 0],iv 7]) (by simp[results,Tryz.results96,go_sem,z0,z1,z2,z3]) rfl ⟨_,_,_,_,rfl,((((HPE.o▸HB4.o).setCell (by show w.heap.size≤pb+1;have:=HPE.o;omega) _).setCell (by show w.heap.size≤pb+1;have:=HPE.o;omega) _).setCell (by show w.heap.size≤pb+1;have:=HPE.o;omega) _).setCell (by show w.heap.size≤pb+1;have:=HPE.o;omega) _⟩
   ·by_cases h2:256<nn
    ·have HF:=Zh (show QFa p=7 by rw[HCK2.o,if_pos (.inr (.inl h2))]);go_wp2;rw[HF.o];obtain⟨z0,z1,z2,z3⟩:=Qt (set4 HR4.o (iv 0) (iv 0) (iv 0) (iv 0));exact bodyPost_ret (v:=.tuple #[.agg #[iv 0,iv 0,iv 0,iv 0],iv 7]) (by simp[results,Tryz.results96,go_sem,z0,z1,z2,z3]) rfl ⟨_,_,_,_,rfl,((((HPE.o▸HB4.o).setCell (by show w.heap.size≤pb+1;have:=HPE.o;omega) _).setCell (by show w.heap.size≤pb+1;have:=HPE.o;omega) _).setCell (by show w.heap.size≤pb+1;have:=HPE.o;omega) _).setCell (by show w.heap.size≤pb+1;have:=HPE.o;omega) _⟩
    ·by_cases h3:1024<en
     ·have HF:=Zh (show QFa p=7 by rw[HCK2.o,if_pos (.inr (.inr h3))]);go_wp2;rw[HF.o];obtain⟨z0,z1,z2,z3⟩:=Qt (set4 HR4.o (iv 0) (iv 0) (iv 0) (iv 0));exact bodyPost_ret (v:=.tuple #[.agg #[iv 0,iv 0,iv 0,iv 0],iv 7]) (by simp[results,Tryz.results96,go_sem,z0,z1,z2,z3]) rfl ⟨_,_,_,_,rfl,((((HPE.o▸HB4.o).setCell (by show w.heap.size≤pb+1;have:=HPE.o;omega) _).setCell (by show w.heap.size≤pb+1;have:=HPE.o;omega) _).setCell (by show w.heap.size≤pb+1;have:=HPE.o;omega) _).setCell (by show w.heap.size≤pb+1;have:=HPE.o;omega) _⟩
     ·have HF:=Zh (show QFa p=0 by rw[HCK2.o,if_neg ZO]);go_wp2;rw[HF.o];obtain⟨z0,z1,z2,z3⟩:=Qt (set4 HR4.o (iv 0) (iv 0) (iv 0) (iv 0));exact bodyPost_ret (v:=.tuple #[.agg #[iv 0,iv 0,iv 0,iv 0],iv 0]) (by simp[results,Tryz.results96,go_sem,z0,z1,z2,z3]) rfl ⟨_,_,_,_,rfl,((((HPE.o▸HB4.o).setCell (by show w.heap.size≤pb+1;have:=HPE.o;omega) _).setCell (by show w.heap.size≤pb+1;have:=HPE.o;omega) _).setCell (by show w.heap.size≤pb+1;have:=HPE.o;omega) _).setCell (by show w.heap.size≤pb+1;have:=HPE.o;omega) _⟩
end
section
open Go.RowKit
variable [Base]
abbrev NT:TypeId:=108
def Qrm (n:Qx):List Value:=[iv n.kind,iv n.fn,iv n.bl,iv n.st]
def Qrf (l:List Qx):List Value:=(l.map Qrm).flatten
def QJi (w:World)(v:Value)(l:List Qx):Prop:=Qg w NT 4 v (Qrf l)
def OwnN (z:Nat)(w:World)(v:Value)(l:List Qx):Prop:=w.ownsRow z NT 4 v l.length (Qrf l)
theorem Qeo (l:List Qx):∀x∈l.map Qrm,x.length=4:=fun x hx=>by
 obtain⟨n,-,rfl⟩:=List.mem_map.1 hx
 rfl
theorem Qfo (a b:List Qx):Qrf (a++b)=Qrf a++Qrf b:=by simp[Qrf]
theorem OwnN.at_ {z:Nat}{w:World}{v:Value}{l:List Qx}(h:OwnN z w v l):QJi w v l:=Qg.of_owns h
theorem OwnN.below {z:Nat}{w w':World}{v:Value}{l:List Qx}(h:OwnN z w v l)(b:Below w.heap.size w w'):OwnN z w' v l:=QZd h b
theorem OwnN.nil {z:Nat}{w:World}:OwnN z w (.slice none 0 0) []:=by simp[OwnN,World.ownsRow,Qrf]
theorem OwnN.push {z g cap:Nat}{w:World}{l:List Qx}{n:Qx}(h:w.ownsRow z NT 4 (.slice (some ⟨g,0,none⟩) (l.length+1) cap) (l.length+1) (Qrf l++Qrm n)):OwnN z w (.slice (some ⟨g,0,none⟩) (l.length+1) cap) (l++[n]):=by
 unfold OwnN;rw[Qfo,List.length_append]
 simpa [Qrf] using h
theorem QJi.below {w w':World}{v:Value}{l:List Qx}(h:QJi w v l)(b:Below w.heap.size w w'):QJi w' v l:=h.same (Qf.below b)
theorem QJi.keep {w w':World}{v:Value}{l:List Qx}(h:QJi w v l)(b:Qf NT w w'):QJi w' v l:=h.same b
theorem QJi.cell {w:World}{v:Value}{l:List Qx}(h:QJi w v l):∃a c,v=.slice a l.length c∧l.length≤maxLen∧l.length≤c∧c≤maxLen∧∀k n,l[k]? = some n→∃b off,a=some ⟨b,off,none⟩∧b<w.heap.size ∧
  w.cell? ⟨b,off+k*4,none⟩=some (iv n.kind)∧w.cell? ⟨b,off+k*4+1,none⟩=some (iv n.fn)∧w.cell? ⟨b,off+k*4+2,none⟩=some (iv n.bl)∧w.cell? ⟨b,off+k*4+3,none⟩=some (iv n.st):=by
 obtain⟨a,c,e,hm,h3,h4,hc⟩:=QYg h (Qeo l) ZO;rw[List.length_map] at e hm h3;refine⟨a,c,e,hm,h3,h4,fun k n hk=>?_⟩;have hx:(l.map Qrm)[k]? = some (Qrm n):=by rw[List.getElem?_map,hk];rfl
 obtain⟨b,off,rfl,hlt,_,hc2⟩:=hc k _ hx;exact⟨b,off,rfl,hlt,hc2 0 ZO,hc2 1 ZO,hc2 2 ZO,hc2 3 ZO⟩
theorem QVf:(Tryz.prog.info? NT).map (fun i=>(i.zero,i.size,i.bytes))=some (some (Value.agg #[iv 0,iv 0,iv 0,iv 0]),4,32):=by kernel_rfl
theorem Qpg (i k:Nat):∀(a b:List QD) (m:Nat),Qta i k (a++b) m=Qta i k a m++Qta i k b (m+a.length)
|[],b,m=>by simp[Qta]
|x::r,b,m=>by
  show QWe i k m x++Qta i k (r++b) (m+1)=_
  rw[Qpg i k r b (m+1)]
  simp only[Qta,List.append_assoc,List.length_cons]
  rw[show m+1+r.length=m+(r.length+1) by omega]
theorem QHf (i:Nat):∀(a b:List QI) (m:Nat),Qca i (a++b) m=Qca i a m++Qca i b (m+a.length)
|[],b,m=>by simp[Qca]
|x::r,b,m=>by
  show Qta i m x.stmts 0++Qca i (r++b) (m+1)=_
  rw[QHf i r b (m+1)]
  simp only[Qca,List.append_assoc,List.length_cons]
  rw[show m+1+r.length=m+(r.length+1) by omega]
theorem QCg:∀(a b:List Qo) (m:Nat),QB (a++b) m=QB a m++QB b (m+a.length)
|[],b,m=>by simp[QB]
|x::r,b,m=>by
  show Qcf m x++QB (r++b) (m+1)=_
  rw[QCg r b (m+1)]
  simp only[QB,List.append_assoc,List.length_cons]
  rw[show m+1+r.length=m+(r.length+1) by omega]
theorem Qgd {α:Type}{l:List α}{i:Nat}{x:α}(h:l[i]? = some x):l=l.take i++x::l.drop (i+1)∧(l.take i).length=i:=by
 have hi:i<l.length:=(List.getElem?_eq_some_iff.1 h).1;refine⟨?_,by rw[List.length_take];omega⟩;rw[←(List.getElem?_eq_some_iff.1 h).2,List.getElem_cons_drop,List.take_append_drop]
def entN (i:Nat):Qx:=⟨1,i,-1,-1⟩
def extN (i:Nat):Qx:=⟨2,i,-1,-1⟩
theorem QPm {p:List Qo}{i:Nat}{f:Qo}(h:p[i]? = some f):QB (p.take (i+1)) 0=QB (p.take i) 0++[entN i]++Qca i f.blocks 0++[extN i]:=by
 rw[List.take_add_one,h];show QB (p.take i++[f]) 0=_;rw[QCg,(Qgd h).2];simp[QB,Qcf,entN,extN]
theorem Qyl {l:List QI}{i k:Nat}{b:QI}(h:l[k]? = some b):Qca i (l.take (k+1)) 0=Qca i (l.take k) 0++Qta i k b.stmts 0:=by
 rw[List.take_add_one,h];show Qca i (l.take k++[b]) 0=_;rw[QHf,(Qgd h).2];simp[Qca]
theorem QMl {l:List QD}{i k j:Nat}{s:QD}(h:l[j]? = some s):Qta i k (l.take (j+1)) 0=Qta i k (l.take j) 0++QWe i k j s:=by
 rw[List.take_add_one,h];show Qta i k (l.take j++[s]) 0=_;rw[Qpg,(Qgd h).2];simp[Qta]
theorem QKo {p:List Qo}{i:Nat}{f:Qo}(h:p[i]? = some f):(QB (p.take i) 0).length+(Qcf i f).length≤(QB p 0).length:=by
 have h1:=(Qgd h).1;have h2:QB p 0=QB (p.take i++f::p.drop (i+1)) 0:=by rw[←h1]
 rw[h2,QCg,(Qgd h).2];simp[QB]
theorem Qmn {l:List QI}{i k:Nat}{b:QI}(h:l[k]? = some b):(Qca i (l.take k) 0).length+(Qta i k b.stmts 0).length≤(Qca i l 0).length:=by
 have h1:=(Qgd h).1;have h2:Qca i l 0=Qca i (l.take k++b::l.drop (k+1)) 0:=by rw[←h1]
 rw[h2,QHf,(Qgd h).2];simp[Qca]
theorem QEn {l:List QD}{i k j:Nat}{s:QD}(h:l[j]? = some s):(Qta i k (l.take j) 0).length+(QWe i k j s).length≤(Qta i k l 0).length:=by
 have h1:=(Qgd h).1;have h2:Qta i k l 0=Qta i k (l.take j++s::l.drop (j+1)) 0:=by rw[←h1]
 rw[h2,Qpg,(Qgd h).2];simp[Qta]
end
section
open Go.RowKit
variable [Base]
def QBu (l:List Qx)(w:World)(e:Ending)(w':World):Prop:=∃v,e=.returned v∧OwnN w.heap.size w' v l∧Below w.heap.size w w'
theorem Qyj {B:Nat}{w:World}(kw:KwIn B w)(hB:B≤w.heap.size)(p:List Qo)(v:Value)(h:QAa w v p)(hf:∀f∈p,∀b∈f.blocks,∀s∈b.stmts,FitS s):
  Calls Tryz.prog 98 #[.agg #[v]] w (QBu (QR p) w):=by
 obtain⟨z,hz⟩:=Ze w.heap.size;have hbz:Base.b≤z:=by have:=kw.bs;omega
 have HV:=Zh (fun (x:World) (b:Below z w x)=>QYh (kw.keep fun k hk=>b.block k ZO) (by have:=b.size;omega) p v (h.keep (Qf.below (hz▸b)) (Qf.below (hz▸b)) (Qf.below (hz▸b)) (Qf.below (hz▸b))) hf);obtain⟨a,c,rfl,hn,hc⟩:=h.cell;have HC:=Zh hc;obtain⟨n,hl⟩:=Ze p.length;rw[hl] at hn HV ⊢;unfold maxLen at hn;obtain⟨W,hW⟩:=Ze (w.alloc (.cells #[.slice a n c] 25));have HPB:=Zh (show W.heap[z]? = some (.cells #[.slice a n c] 25 (0,0)) by rw[←hW,←hz];exact heap_alloc_new _ _);have BW:=Zh (show Below z w W by rw[←hW,←hz];exact Zb);have HWW:=Zh hW;have HZ:=Zh hz;have HL:=Zh hl;clear h hc hl hW kw hf;have x0:=(Qd HPB.o).1 0;simp at x0;obtain⟨er,her⟩:=Ze (QFa p);rw[her] at HV;have HER:=Zh her;clear her;go_enter Tryz.func98,Tryz.ntmps98;go_upto_region 1 with(fail)
 rw[show w.alloc (.cells #[.slice a n c] 25)=W from HWW.o]
 try rw[hz]
 go_wp2_with fail;refine(HV.o W BW.o).mono ?_;rintro e w1 ⟨na,nb,nc,nd,rfl,b1⟩;have b2:=b1.trans (((Below.refl w1.heap.size w1).alloc (Nat.le_refl _) (.cells #[iv na,iv nb,iv nc,iv nd] 108)).mono b1.size);have hs2:w1.heap.size<(w1.alloc (.cells #[iv na,iv nb,iv nc,iv nd] 108)).heap.size:=by simp
 obtain⟨w2,hw2⟩:=Ze (w1.alloc (.cells #[iv na,iv nb,iv nc,iv nd] 108));have HW2:=Zh hw2;rw[hw2] at b2 hs2;have HP2:=Zh (Qc HPB.o b2 (Qb HPB.o));have zW:z≤W.heap.size:=by have:=BW.o.size;omega
 have HB2:=Zh (BW.o.trans (b2.mono zW));have zw2:z≤w2.heap.size:=by have:=HB2.o.size;omega
 clear b1 b2 hw2 x0 hs2 zW;by_cases he:er=0;rotate_left
 ·have hne:(er != 0)=true:=by simpa using he
  have HF:=Zh (show QR p=[] by unfold QR;rw[HER.o,if_neg he]);clear he;go_wp2;refine bodyPost_ret (v:=.slice none 0 0) (by simp[results,Tryz.results98,go_sem]) rfl ⟨_,rfl,?_,?_⟩
  ·rw[HF.o];exact OwnN.nil
  ·rw[HZ.o];exact HW2.o▸HB2.o
 have hne:(er != 0)=false:=by simpa using he
 have HNP:=Zh (show QR p=QB p 0 from Qne (by rw[HER.o,he]));have HLE:=Zh (show(QB p 0).length≤256 by rw[←HNP.o];exact Qme);clear he;go_upto_region 5 with(fail)
 rw[show w1.alloc (.cells #[iv na,iv nb,iv nc,iv nd] 108)=w2 from HW2.o];have x0:=(Qd HP2.o).1 0;simp at x0;go_wp2;clear x0;go_loopw [5,22] (fun V y wr=>∃(i:Nat) (Y:Value),i≤n∧Y=V∧y=.int .i64 i∧Hid (Below z w wr)∧z≤wr.heap.size∧Hid (OwnN z wr Y (QB (p.take i) 0))) (fun _ y _=>n-(intOf y).toNat)
 case atStart=>exact⟨0,_,Nat.zero_le _,rfl,rfl,HB2.o,zw2,OwnN.nil⟩
 case round=>
  obtain⟨i,V,hi,rfl,rfl,HB,zwr,HO⟩:=hrel;by_cases hlt:i<n;rotate_left
  ·have HO2:=Zh (show OwnN z wr V (QR p) by rw[HNP.o,←show p.take i=p from List.take_of_length_le (by rw[HL.o];omega)];exact HO.o);go_wp2;exact bodyPost_ret (v:=V) (by simp[results,Tryz.results98,go_sem]) rfl ⟨_,rfl,by rw[HZ.o];exact HO2.o,by rw[HZ.o];exact HB.o⟩
  ·obtain⟨f,hf⟩:∃f,p[i]? = some f:=⟨_,List.getElem?_eq_getElem (by rw[HL.o];exact hlt)⟩;obtain⟨fb,off,bv,rfl,hfb,g0,g1,hbl⟩:=HC.o i f hf;have g0:=(HB.o.cell (p:=⟨fb,off+i*2,none⟩) (by show fb<z;omega)).trans g0;have g1:=(HB.o.cell (p:=⟨fb,off+i*2+1,none⟩) (by show fb<z;omega)).trans g1;obtain⟨ba,bc,rfl,hbn,hbc⟩:=hbl.cell;have HBC:=Zh hbc;obtain⟨bn,hbn2⟩:=Ze (List.length f.blocks);rw[hbn2] at g1 hbn;unfold maxLen at hbn;have HBL:=Zh hbn2;have HFT:=Zh (QPm hf);have hpre:=QKo hf;have hlen0:(QB (p.take i) 0).length+(Qca i f.blocks 0).length+2≤256:=by have:=HLE.o;simp[Qcf] at hpre;omega
   obtain⟨U,hU⟩:=Ze (wr.alloc (.cells #[sv f.name,.slice ba bn bc] 89));have BU:=Zh (show Below wr.heap.size wr U by rw[←hU];exact Zb);have HXB:=Zh (show U.heap[wr.heap.size]? = some (.cells #[sv f.name,.slice ba bn bc] 89 (0,0)) by rw[←hU];exact heap_alloc_new _ _);have HUU:=Zh hU;have HBU:=Zh (HB.o.trans (BU.o.mono zwr));have HOU:=Zh (HO.o.below BU.o);have zU:z≤U.heap.size:=Nat.le_trans zwr BU.o.size;obtain⟨xb,hxb⟩:=Ze wr.heap.size;rw[hxb] at HXB BU;obtain⟨L0,hL0⟩:=Ze (QB (p.take i) 0);rw[hL0] at HOU HFT hlen0;clear hf hbl hbn2 hU hpre hbc HO HB hL0;go_upto_region 8 with(fail)
   rw[show wr.alloc (.cells #[sv f.name,.slice ba bn bc] 89)=U from HUU.o]
   try rw[hxb]
   clear hxb g0 g1;go_upto_region 9 with(at_builtin;refine QL [iv 1,iv (i:Int),iv (-1),iv (-1)] rfl _ _ _ rfl z NT _ 4 32 Tryz.underlying44 QVf rfl ZO _ _ _ HOU.o rfl rfl rfl rfl (by unfold maxLen;omega) ZO zU ?_;intro g cap w5 ho hg hzg _;have HO5:=Zh (OwnN.push (n:=entN i) ho);have B5:=Zh (Below.of_grown hg HOU.o zU);have HX5:=Zh ((hg.block _ (Qb HXB.o) (Qdb HOU.o HXB.o (by intro c fr h;injection h with _ h;exact absurd h ZD))).trans HXB.o);clear ho hg hzg)
   have HB5:=Zh (HBU.o.trans B5.o);have zw5:z≤w5.heap.size:=Nat.le_trans zU B5.o.size;obtain⟨x0,x1⟩:=Qq HX5.o;go_wp2;clear x0 x1;go_loopw [5,35] (fun V y wr=>∃(k:Nat) (Y:Value),k≤bn∧Y=V∧y=.int .i64 k∧Hid (Below z w wr)∧z≤wr.heap.size∧Hid (OwnN z wr Y (L0++[entN i]++Qca i (f.blocks.take k) 0))) (fun _ y _=>bn-(intOf y).toNat)
   case atStart=>exact⟨0,_,Nat.zero_le _,rfl,rfl,HB5.o,zw5,by unfold Hid;simpa [Qca] using HO5.o⟩
   case round=>
    obtain⟨k,V,hk,rfl,rfl,HB,zwr,HO⟩:=hrel;by_cases hlt2:k<bn;rotate_left
    ·have HO2:=Zh (show OwnN z wr V (L0++[entN i]++Qca i f.blocks 0) by rw[←show f.blocks.take k=f.blocks from List.take_of_length_le (by rw[HBL.o];omega)];exact HO.o);have hlq:(L0++[entN i]++Qca i f.blocks 0).length≤300:=by simp;omega
     obtain⟨M,hM⟩:=Ze (L0++[entN i]++Qca i f.blocks 0);rw[hM] at HO2 HFT hlq;clear hM HO;go_wp2_with (at_builtin;refine QL [iv 2,iv (i:Int),iv (-1),iv (-1)] rfl _ _ _ rfl z NT _ 4 32 Tryz.underlying44 QVf rfl ZO _ _ _ HO2.o rfl rfl rfl rfl (by unfold maxLen;omega) ZO zwr ?_;intro g cap w5 ho hg hzg _;have HO5:=Zh (OwnN.push (n:=extN i) ho);have B5:=Zh (Below.of_grown hg HO2.o zwr);clear ho hg hzg);have HB6:=Zh (HB.o.trans B5.o);have zw6:z≤w5.heap.size:=Nat.le_trans zwr B5.o.size;go_roundw
     case rel=>exact⟨i+1,_,by omega,rfl,by go_num,HB6,zw6,Zh (by rw[HFT.o];exact HO5.o)⟩
     case measure=>simp[intOf];omega
    ·obtain⟨b,hb⟩:∃b,f.blocks[k]? = some b:=⟨_,List.getElem?_eq_getElem (by rw[HBL.o];exact hlt2)⟩;obtain⟨kb,ko,sv1,rfl,hkb,g0,g1,hsl⟩:=HBC.o k b hb;have g0:=(HB.o.cell (p:=⟨kb,ko+k*2,none⟩) (by show kb<z;omega)).trans g0;have g1:=(HB.o.cell (p:=⟨kb,ko+k*2+1,none⟩) (by show kb<z;omega)).trans g1;obtain⟨sa,sc,rfl,hsn,hsc⟩:=hsl.cell;have HSC:=Zh hsc;obtain⟨sn,hsn2⟩:=Ze (List.length b.stmts);rw[hsn2] at g1 hsn;unfold maxLen at hsn;have HSL:=Zh hsn2;have HBT:=Zh (Qyl (i:=i) hb);have hpre:=Qmn (i:=i) hb;have hlen1:L0.length+(Qca i (f.blocks.take k) 0).length+(Qta i k b.stmts 0).length+2≤256:=by omega
     have A1:=(Below.refl wr.heap.size wr).alloc (Nat.le_refl _) (.cells #[sv b.name,.slice sa sn sc] 92);have HB3:=Zh (HB.o.trans (A1.mono zwr));obtain⟨L1,hL1⟩:=Ze (Qca i (f.blocks.take k) 0);rw[hL1] at HO HBT hlen1;have HO3:=Zh (HO.o.below A1);clear hb hsl hsn2 hpre hsc A1 hL1 HO HB;go_wp2;clear g0 g1;go_loopw [5,43] (fun V y wr=>∃(j:Nat) (Y:Value),j≤sn∧Y=V∧y=.int .i64 j∧Hid (Below z w wr)∧z≤wr.heap.size∧Hid (OwnN z wr Y (L0++[entN i]++L1++Qta i k (b.stmts.take j) 0))) (fun _ y _=>sn-(intOf y).toNat)
     case atStart=>exact⟨0,_,Nat.zero_le _,rfl,rfl,HB3.o,by simp;omega,by unfold Hid;simpa [Qta,sv] using HO3.o⟩
     case round=>
      obtain⟨j,V,hj,rfl,rfl,HB,zwr,HO⟩:=hrel;by_cases hlt3:j<sn;rotate_left
      ·have HO2:=Zh (show OwnN z wr V (L0++[entN i]++Qca i (f.blocks.take (k+1)) 0) by rw[HBT.o,←show b.stmts.take j=b.stmts from List.take_of_length_le (by rw[HSL.o];omega),←List.append_assoc];exact HO.o);go_wp2;go_roundw
       case rel=>exact⟨k+1,_,by omega,rfl,by go_num,HB,zwr,HO2⟩
       case measure=>simp[intOf];omega
      ·obtain⟨s,hs⟩:∃s,b.stmts[j]? = some s:=⟨_,List.getElem?_eq_getElem (by rw[HSL.o];exact hlt3)⟩;obtain⟨b4,o4,u,t,rfl,hb4,c0,c1,c2,c3,hu,ht⟩:=HSC.o j s hs;obtain⟨ua,uc,rfl,-⟩:=hu.cell;obtain⟨ta,tc,rfl,-⟩:=ht.cell;obtain⟨un,hun⟩:=Ze s.uses.length;obtain⟨tn,htn⟩:=Ze s.targets.length;rw[hun] at c2;rw[htn] at c3;have c0:=(HB.o.cell (p:=⟨b4,o4+j*4,none⟩) (by show b4<z;omega)).trans c0;have c1:=(HB.o.cell (p:=⟨b4,o4+j*4+1,none⟩) (by show b4<z;omega)).trans c1;have c2:=(HB.o.cell (p:=⟨b4,o4+j*4+2,none⟩) (by show b4<z;omega)).trans c2;have c3:=(HB.o.cell (p:=⟨b4,o4+j*4+3,none⟩) (by show b4<z;omega)).trans c3;have HST:=Zh (QMl (i:=i) (k:=k) hs);have hpre:=QEn (i:=i) (k:=k) hs;obtain⟨U2,hU2⟩:=Ze (wr.alloc (.cells #[iv s.op,sv s.dfn,.slice ua un uc,.slice ta tn tc] 94));have BU2:=Zh (show Below wr.heap.size wr U2 by rw[←hU2];exact Zb);have HYB:=Zh (show U2.heap[wr.heap.size]? = some (.cells #[iv s.op,sv s.dfn,.slice ua un uc,.slice ta tn tc] 94 (0,0)) by rw[←hU2];exact heap_alloc_new _ _);have HUU2:=Zh hU2;have HBU2:=Zh (HB.o.trans (BU2.o.mono zwr));obtain⟨L2,hL2⟩:=Ze (Qta i k (b.stmts.take j) 0);rw[hL2] at HO HST hpre;have HOU2:=Zh (HO.o.below BU2.o);have zU2:z≤U2.heap.size:=Nat.le_trans zwr BU2.o.size;have hlq:(L0++[entN i]++L1++L2).length≤300:=by simp;omega
       obtain⟨M,hM⟩:=Ze (L0++[entN i]++L1++L2);rw[hM] at HOU2 hlq;have HMM:=Zh hM;clear hM;obtain⟨yb,hyb⟩:=Ze wr.heap.size;rw[hyb] at HYB BU2;obtain⟨op,hop⟩:=Ze s.op;rw[hop] at HYB c0;have HUU3:=Zh (hop▸HUU2.o);have HSN:=Zh (show QWe i k j s=⟨3,i,k,j⟩::(if op=3 then [⟨4,i,k,j⟩] else []) by unfold QWe;rw[hop]);clear hs hu ht hun htn hU2 hpre HO HB hL2 HUU2 hop;go_upto_region 15 with(fail)
       rw[show wr.alloc (.cells #[iv op,sv s.dfn,.slice ua un uc,.slice ta tn tc] 94)=U2 from HUU3.o]
       try rw[hyb]
       clear hyb c0 c1 c2 c3;go_upto_region 16 with(at_builtin;refine QL [iv 3,iv (i:Int),iv (k:Int),iv (j:Int)] rfl _ _ _ rfl z NT _ 4 32 Tryz.underlying44 QVf rfl ZO _ _ _ HOU2.o rfl rfl rfl rfl (by unfold maxLen;omega) ZO zU2 ?_;intro g cap w5 ho hg hzg _;have HO5:=Zh (OwnN.push (n:=⟨3,i,k,j⟩) ho);have B5:=Zh (Below.of_grown hg HOU2.o zU2);have HX5:=Zh ((hg.block _ (Qb HYB.o) (Qdb HOU2.o HYB.o (by intro c fr h;injection h with _ h;exact absurd h ZD))).trans HYB.o);clear ho hg hzg)
       have HB6:=Zh (HBU2.o.trans B5.o);have zw6:z≤w5.heap.size:=Nat.le_trans zU2 B5.o.size;obtain⟨y0,y1,y2,y3⟩:=Qt HX5.o;by_cases h3:op=3
       ·rw[if_pos h3] at HSN;have HO6:=HO5;have B6:=B5;have w6q:(M++[(⟨3,i,k,j⟩:Qx)]).length≤301:=by rw[List.length_append];simp only[List.length_singleton];omega
        obtain⟨M2,hM2⟩:=Ze (M++[(⟨3,i,k,j⟩:Qx)]);rw[hM2] at HO6 w6q;have HMM2:=Zh hM2;obtain⟨w6,hw6⟩:∃w6:World,w5=w6:=⟨_,rfl⟩;subst hw6;clear HO5 B5 hM2;subst h3;go_wp2_with (at_builtin;refine QL [iv 4,iv (i:Int),iv (k:Int),iv (j:Int)] rfl _ _ _ rfl z NT _ 4 32 Tryz.underlying44 QVf rfl ZO _ _ _ HO6.o rfl rfl rfl rfl (by unfold maxLen;omega) ZO zw6 ?_;intro g cap w7 ho hg hzg _;have HO7:=Zh (OwnN.push (n:=⟨4,i,k,j⟩) ho);have B7:=Zh (Below.of_grown hg HO6.o zw6);clear ho hg hzg);have HB7:=Zh (HB6.o.trans B7.o);have zw7:=Nat.le_trans zw6 B7.o.size;go_roundw
        case rel=>exact⟨j+1,_,by omega,rfl,by go_num,HB7,zw7,Zh (by rw[HST.o,HSN.o,←List.append_assoc,HMM.o,show [(⟨3,i,k,j⟩:Qx),⟨4,i,k,j⟩]=[⟨3,i,k,j⟩]++[⟨4,i,k,j⟩] from rfl,←List.append_assoc,HMM2.o];exact HO7.o)⟩
        case measure=>simp[intOf];omega
       ·rw[if_neg h3] at HSN;have h3b:(op==3)=false:=by simpa using h3
        go_wp2;go_roundw
        case rel=>exact⟨j+1,_,by omega,rfl,by go_num,HB6,zw6,Zh (by rw[HST.o,HSN.o,←List.append_assoc,HMM.o];exact HO5.o)⟩
        case measure=>simp[intOf];omega
end
section
open Go.RowKit
variable [Base]
def QEp (n:Qx):Value:=.agg #[iv n.kind,iv n.fn,iv n.bl,iv n.st]
theorem Qxo (a b c d:Int)(w:World):Calls Tryz.prog 107 #[.agg #[iv a,iv b,iv c,iv d]] w (Qia (insN ⟨a,b,c,d⟩) w):=by
 have hi:insN ⟨a,b,c,d⟩=(a==3||a==4):=rfl;rw[hi];clear hi;by_cases h3:a=3
 ·subst h3;go_enter Tryz.func107,Tryz.ntmps107;go_wp2;go_ret;exact⟨rfl,Zb⟩
 ·have h3':(a==3)=false:=by simpa using h3
  rw[h3'];clear h3;go_enter Tryz.func107,Tryz.ntmps107;go_wp2;go_ret;exact⟨by simp,Zb⟩
theorem QAg {α:Type} [BEq α] [LawfulBEq α]:∀{l:List α} {k:Nat} {x:α},l[k]? = some x→x∉l.take k→l.idxOf x=k
|[],k,x,h,_=>by simp at h
|a::r,0,x,h,_=>by simp at h;simp[h]
|a::r,k+1,x,h,hn=>by
  simp at h hn
  have e:(a==x)=false:=by simpa using fun e=>hn.1 (Eq.symm e)
  rw[List.idxOf_cons,e,QAg h hn.2]
  rfl
theorem QCs {B:Nat}{w:World}(kw:KwIn B w)(hB:B≤w.heap.size)(p:List Qo)(v:Value)(h:QAa w v p)(hf:∀f∈p,∀b∈f.blocks,∀s∈b.stmts,FitS s)(x:Qx):
  Calls Tryz.prog 108 #[.agg #[v],.agg #[iv x.kind,iv x.fn,iv x.bl,iv x.st]] w (IntQ (idxI (QR p) x) w):=by
 obtain⟨z,hz⟩:=Ze w.heap.size;have HV:=Zh (fun (x:World) (b:Below z w x)=>Qyj (kw.keep fun k hk=>b.block k ZO) (by have:=b.size;omega) p v (h.keep (Qf.below (hz▸b)) (Qf.below (hz▸b)) (Qf.below (hz▸b)) (Qf.below (hz▸b))) hf);obtain⟨a,c,rfl,hn,-⟩:=h.cell;obtain⟨n,hl⟩:=Ze p.length;rw[hl] at hn HV ⊢;obtain⟨N,hN⟩:=Ze (QR p);rw[hN] at HV ⊢;have hN256:N.length≤256:=by rw[←hN];exact Qme
 obtain⟨x1,x2,x3,x4⟩:=x;simp only;obtain⟨W,hW⟩:=Ze ((w.alloc (.cells #[.slice a n c] 25)).alloc (.cells #[iv x1,iv x2,iv x3,iv x4] 108));have HPB:=Zh (show W.heap[z]? = some (.cells #[.slice a n c] 25 (0,0)) by rw[←hW,←hz];exact Qfa _ (heap_alloc_new _ _));have HNB:=Zh (show W.heap[z+1]? = some (.cells #[iv x1,iv x2,iv x3,iv x4] 108 (0,0)) by rw[←hW,←hz];have:=heap_alloc_new (w.alloc (.cells #[.slice a n c] 25)) (.cells #[iv x1,iv x2,iv x3,iv x4] 108);rwa [World.size_alloc] at this);have BW:=Zh (show Below z w W by rw[←hW,←hz];exact(Zb).alloc ZS _);have HWW:=Zh hW;have HZ:=Zh hz;clear h hW kw hf hN hl;have x0:=(Qd HPB.o).1 0;simp at x0;go_enter Tryz.func108,Tryz.ntmps108;go_upto_region 1 with(fail)
 rw[show(w.alloc (.cells #[.slice a n c] 25)).alloc (.cells #[iv x1,iv x2,iv x3,iv x4] 108)=W from HWW.o]
 try rw[hz]
 go_wp2_with fail;refine(HV.o W BW.o).mono ?_;rintro e w1 ⟨nv,rfl,ho,b1⟩;obtain⟨na,nc,rfl,hnm,hnc1,hnc2,hcell⟩:=ho.at_.cell;have HCE:=Zh hcell;obtain⟨m,hm⟩:=Ze N.length;rw[hm] at hN256 ⊢;have HM:=Zh hm;have HNB1:=Zh (Qc HNB.o b1 (Qb HNB.o));have HB1:=Zh (BW.o.trans (b1.mono (by have:=BW.o.size;omega)));have hs1:z+1<w1.heap.size:=Qb HNB1.o;clear b1 hcell ho x0 hm;go_wp2;go_loopw [10] (fun y wr=>∃k:Nat,k≤m∧y=.int .i64 k∧Hid (Below w1.heap.size w1 wr)∧w1.heap.size≤wr.heap.size∧Hid ((⟨x1,x2,x3,x4⟩:Qx)∉N.take k)) (fun y _=>m-(intOf y).toNat)
 case atStart=>exact⟨0,Nat.zero_le _,rfl,Below.refl _ _,Nat.le_refl _,by unfold Hid;simp⟩
 case round=>
  obtain⟨k,hk,rfl,HB,hsr,HNI⟩:=hrel;by_cases hlt:k<m
  ·obtain⟨y,hy⟩:∃y,N[k]? = some y:=⟨_,List.getElem?_eq_getElem (by rw[HM.o];exact hlt)⟩;obtain⟨b4,o4,rfl,hb4,c0,c1,c2,c3⟩:=HCE.o k y hy;have c0:=(HB.o.cell (p:=⟨b4,o4+k*4,none⟩) hb4).trans c0;have c1:=(HB.o.cell (p:=⟨b4,o4+k*4+1,none⟩) hb4).trans c1;have c2:=(HB.o.cell (p:=⟨b4,o4+k*4+2,none⟩) hb4).trans c2;have c3:=(HB.o.cell (p:=⟨b4,o4+k*4+3,none⟩) hb4).trans c3;have HNB2:=Zh (Qc HNB1.o HB.o ZO);have hz1:z+1<wr.heap.size:=by omega
   by_cases hxy:y=⟨x1,x2,x3,x4⟩
   ·subst hxy;obtain⟨d0,d1,d2,d3⟩:=Qt HNB2.o;have HK:=Zh (show idxI N ⟨x1,x2,x3,x4⟩=(k:Int) by
     have hmem:(⟨x1,x2,x3,x4⟩:Qx)∈N:=List.mem_of_getElem? hy;obtain⟨j,hj,hjx⟩:=Qgc hmem;unfold idxI at hj ⊢;rw[if_pos hmem] at hj ⊢;have h1:=QAg hy HNI.o;rw[h1])
    have HB2:=Zh (HB1.o.trans ((HB.o.trans (((Below.refl wr.heap.size wr).alloc (Nat.le_refl _) (.cells #[iv x1,iv x2,iv x3,iv x4] 108)).mono hsr)).mono ZO));clear hy;simp only at c0 c1 c2 c3;go_wp2;go_ret;exact⟨Qob HK.o.symm,by rw[HZ.o];exact HB2.o⟩
   ·have HN1:=Zh (show(⟨x1,x2,x3,x4⟩:Qx)∉N.take (k+1) by
     rw[List.take_add_one,hy];intro h;rcases List.mem_append.1 h with h|h
     ·exact HNI.o h
     ·simp at h;exact hxy h.symm)
    have HB2:=Zh (fun o=>HB.o.trans (((Below.refl wr.heap.size wr).alloc (Nat.le_refl _) o).mono hsr));obtain⟨y1,y2,y3,y4⟩:=y;simp only at c0 c1 c2 c3;obtain⟨d0,d1,d2,d3⟩:=Qt HNB2.o;have hne:y1=x1→y2=x2→y3=x3→¬y4=x4:=fun h1 h2 h3 h4=>hxy (by rw[h1,h2,h3,h4])
    clear hy hxy;go_wp2
    all_goals first|exact⟨⟨k+1,by omega,by go_num,HB2.o _,by simp;omega,HN1⟩,by simp[intOf];omega⟩|(exfalso;simp_all)
  ·have HK:=Zh (show idxI N ⟨x1,x2,x3,x4⟩ = -1 by
    unfold idxI;rw[if_neg (fun h=>HNI.o (by rwa [List.take_of_length_le (by rw[HM.o];omega)]))])
   have HB2:=Zh (HB1.o.trans (HB.o.mono ZO));go_wp2;go_ret;exact⟨Qob HK.o.symm,by rw[HZ.o];exact HB2.o⟩
end
section
open Go.RowKit
variable [Base]
def StmtQ (r:Option QD)(w:World)(e:Ending)(w':World):Prop:=
 ∃u t,e=.returned (.tuple #[.agg #[iv (r.getD Qie).op,sv (r.getD Qie).dfn,u,t],.bool r.isSome])∧Qea w' u (r.getD Qie).uses∧Qea w' t (r.getD Qie).targets∧Below w.heap.size w w'
theorem Qti {p:List Qo}{x:Qx}(hm:x∈QR p)(hi:insN x=true):∃(i k j:Nat) (f:Qo) (b:QI) (s:QD),x.fn=i∧x.bl=k∧x.st=j∧p[i]? = some f∧f.blocks[k]? = some b∧b.stmts[j]? = some s∧QFd p x=some s:=by
 unfold QR at hm
 split at hm
 ·obtain⟨i,f,hf,h⟩:=QLb.1 hm;rcases h with rfl|rfl|⟨k,b,j,s,hb,hs,h⟩
  ·simp[insN] at hi
  ·simp[insN] at hi
  ·have hx:∀q:Int,QFd p ⟨q,(i:Nat),(k:Nat),(j:Nat)⟩=some s:=fun q=>by
    unfold QFd;simp[hf,hb,hs]
   rcases h with rfl|⟨-,rfl⟩
   ·exact⟨i,k,j,f,b,s,rfl,rfl,rfl,hf,hb,hs,hx _⟩
   ·exact⟨i,k,j,f,b,s,rfl,rfl,rfl,hf,hb,hs,hx _⟩
 ·cases hm
theorem Qjk {B:Nat}{w:World}(kw:KwIn B w)(hB:B≤w.heap.size)(p:List Qo)(v:Value)(h:QAa w v p)(hf:∀f∈p,∀b∈f.blocks,∀s∈b.stmts,FitS s)(x:Qx):
  Calls Tryz.prog 47 #[.agg #[v],.agg #[iv x.kind,iv x.fn,iv x.bl,iv x.st]] w (StmtQ (QAf p x) w):=by
 obtain⟨z,hz⟩:=Ze w.heap.size;have HV:=Zh (fun (y:World) (b:Below z w y)=>QCs (kw.keep fun k hk=>b.block k ZO) (by have:=b.size;omega) p v (h.keep (Qf.below (hz▸b)) (Qf.below (hz▸b)) (Qf.below (hz▸b)) (Qf.below (hz▸b))) hf x);obtain⟨a,c,rfl,hn,hc⟩:=h.cell;have HC:=Zh hc;obtain⟨n,hl⟩:=Ze p.length;rw[hl] at hn HV ⊢;have hbz:Base.b≤z:=by have:=kw.bs;omega
 obtain⟨x1,x2,x3,x4⟩:=x;obtain⟨X,hX⟩:∃X:Qx,(⟨x1,x2,x3,x4⟩:Qx)=X:=⟨_,rfl⟩;have HS:=Zh (show QAf p X=if insN X=true∧X∈QR p then QFd p X else none from rfl);obtain⟨r,hr⟩:=Ze (QAf p X);simp only at HV ⊢;rw[hX] at HV ⊢;rw[hr] at HS ⊢;have hI:=Qxo x1 x2 x3 x4;rw[hX] at hI;have HI:=Zh hI;obtain⟨ib,hib⟩:=Ze (insN X);rw[hib] at HI HS;obtain⟨W,hW⟩:=Ze (((w.alloc (.cells #[.slice a n c] 25)).alloc (.cells #[iv x1,iv x2,iv x3,iv x4] 108)).alloc (.cells #[iv 0,.string ⟨#[]⟩,.slice none 0 0,.slice none 0 0] 94));have HPB:=Zh (show W.heap[z]? = some (.cells #[.slice a n c] 25 (0,0)) by rw[←hW,←hz];exact Qfa _ (Qfa _ (heap_alloc_new _ _)));have HNB:=Zh (show W.heap[z+1]? = some (.cells #[iv x1,iv x2,iv x3,iv x4] 108 (0,0)) by
  rw[←hW,←hz];have:=heap_alloc_new (w.alloc (.cells #[.slice a n c] 25)) (.cells #[iv x1,iv x2,iv x3,iv x4] 108);rw[World.size_alloc] at this;exact Qfa _ this)
 have HRB:=Zh (show W.heap[z+1+1]? = some (.cells #[iv 0,.string ⟨#[]⟩,.slice none 0 0,.slice none 0 0] 94 (0,0)) by
  rw[←hW,←hz];have:=heap_alloc_new ((w.alloc (.cells #[.slice a n c] 25)).alloc (.cells #[iv x1,iv x2,iv x3,iv x4] 108)) (.cells #[iv 0,.string ⟨#[]⟩,.slice none 0 0,.slice none 0 0] 94)
  rwa [World.size_alloc,World.size_alloc] at this)
 have BW:=Zh (show Below z w W by rw[←hW,←hz];exact((Zb).alloc ZS _).alloc (by simp;omega) _);have HWW:=Zh hW;have HZ:=Zh hz;have zW:z≤W.heap.size:=by have:=BW.o.size;omega
 have HX:=Zh hX;have HL:=Zh hl;have HIB:=Zh hib;clear h hW kw hf hl hc hI hr hX hib;obtain⟨d0,d1,d2,d3⟩:=Qt HNB.o;go_enter Tryz.func47,Tryz.ntmps47;go_upto_region 1 with(fail)
 rw[show((w.alloc (.cells #[.slice a n c] 25)).alloc (.cells #[iv x1,iv x2,iv x3,iv x4] 108)).alloc (.cells #[iv 0,.string ⟨#[]⟩,.slice none 0 0,.slice none 0 0] 94)=W from HWW.o]
 try rw[hz]
 go_wp2_with fail;refine(HI.o W).mono ?_;rintro e w1 ⟨rfl,b1⟩;have HPB1:=Zh (Qc HPB.o b1 (Qb HPB.o));have HNB1:=Zh (Qc HNB.o b1 (Qb HNB.o));have HRB1:=Zh (Qc HRB.o b1 (Qb HRB.o));have HB1:=Zh (BW.o.trans (b1.mono zW));clear b1 d0 d1 d2 d3
 cases ib with
|false=>
  have HF:=Zh (show r=none by rw[HS.o];simp);have fr:=(Qa HRB1.o).2;obtain⟨r0,r1,r2,r3⟩:=Qt HRB1.o;go_wp2;rw[HF.o];obtain⟨z0,z1,z2,z3⟩:=Qt (set4 HRB1.o (iv 0) (.string ⟨#[]⟩) (.slice none 0 0) (.slice none 0 0));exact bodyPost_ret (v:=.tuple #[.agg #[iv 0,.string ⟨#[]⟩,.slice none 0 0,.slice none 0 0],.bool false]) (by simp[results,Tryz.results47,go_sem,z0,z1,z2,z3]) rfl ⟨_,_,rfl,Qg.nil,Qg.nil,by rw[HZ.o];exact((((HB1.o).setCell (by show z≤z+1+1;omega) _).setCell (by show z≤z+1+1;omega) _).setCell (by show z≤z+1+1;omega) _).setCell (by show z≤z+1+1;omega) _⟩
|true=>
  obtain⟨d0,d1,d2,d3⟩:=Qt HNB1.o;have x0:=(Qd HPB1.o).1 0;simp at x0;have K:=Zh (HV.o w1 HB1.o);go_wp2_with fail;refine K.o.mono ?_;rintro e w2 ⟨rfl,b2⟩;have HPB2:=Zh (Qc HPB1.o b2 (Qb HPB1.o));have HNB2:=Zh (Qc HNB1.o b2 (Qb HNB1.o));have HRB2:=Zh (Qc HRB1.o b2 (Qb HRB1.o));have HB2:=Zh (HB1.o.trans (b2.mono (by have:=HB1.o.size;omega)));clear b2 d0 d1 d2 d3 x0 K;have fr:=(Qa HRB2.o).2;by_cases hm:X∈QR p;rotate_left
  ·have HF:=Zh (show r=none by rw[HS.o];simp[hm]);have hid:=QLp hm;rw[hid];clear hm hid;obtain⟨r0,r1,r2,r3⟩:=Qt HRB2.o;go_wp2;rw[HF.o];obtain⟨z0,z1,z2,z3⟩:=Qt (set4 HRB2.o (iv 0) (.string ⟨#[]⟩) (.slice none 0 0) (.slice none 0 0));exact bodyPost_ret (v:=.tuple #[.agg #[iv 0,.string ⟨#[]⟩,.slice none 0 0,.slice none 0 0],.bool false]) (by simp[results,Tryz.results47,go_sem,z0,z1,z2,z3]) rfl ⟨_,_,rfl,Qg.nil,Qg.nil,by rw[HZ.o];exact((((HB2.o).setCell (by show z≤z+1+1;omega) _).setCell (by show z≤z+1+1;omega) _).setCell (by show z≤z+1+1;omega) _).setCell (by show z≤z+1+1;omega) _⟩
  ·obtain⟨ik,hik,-⟩:=Qgc hm;rw[hik];obtain⟨i,k,j,f,b,s,e2,e3,e4,hf,hb,hs,hsp⟩:=Qti hm HIB.o;have HF:=Zh (show r=some s by rw[HS.o,if_pos ⟨trivial,hm⟩];exact hsp);rw[←HX.o] at e2 e3 e4;simp only at e2 e3 e4;subst e2 e3 e4;obtain⟨fb,fo,bv,rfl,hfb,-,g1,hbl⟩:=HC.o i f hf;obtain⟨ba,bc,rfl,-,hbc⟩:=hbl.cell;obtain⟨kb,ko,tv,rfl,hkb,-,k1,hsl⟩:=hbc k b hb;obtain⟨sa,sc,rfl,-,hsc⟩:=hsl.cell;obtain⟨s4,s5,u,t,rfl,hs4,c0,c1,c2,c3,hu,ht⟩:=hsc j s hs;have hfl:i<n:=by have:=(List.getElem?_eq_some_iff.1 hf).1;have:=HL.o;omega
   have hbl2:k<f.blocks.length:=(List.getElem?_eq_some_iff.1 hb).1;have hsl2:j<b.stmts.length:=(List.getElem?_eq_some_iff.1 hs).1;obtain⟨bn,hbn⟩:=Ze f.blocks.length;obtain⟨sn,hsn⟩:=Ze b.stmts.length;rw[hbn] at hbl2 g1;rw[hsn] at hsl2 k1;have HU:=Zh hu;have HT:=Zh ht;obtain⟨ua,uc,rfl,-⟩:=hu.cell;obtain⟨ta,tc,rfl,-⟩:=ht.cell;obtain⟨un,hun⟩:=Ze s.uses.length;obtain⟨tn,htn⟩:=Ze s.targets.length;rw[hun] at c2 HU;rw[htn] at c3 HT;rw[hz] at hfb hkb hs4;have g1:=(HB2.o.cell (p:=⟨fb,fo+i*2+1,none⟩) hfb).trans g1;have k1:=(HB2.o.cell (p:=⟨kb,ko+k*2+1,none⟩) hkb).trans k1;have c0:=(HB2.o.cell (p:=⟨s4,s5+j*4,none⟩) hs4).trans c0;have c1:=(HB2.o.cell (p:=⟨s4,s5+j*4+1,none⟩) hs4).trans c1;have c2:=(HB2.o.cell (p:=⟨s4,s5+j*4+2,none⟩) hs4).trans c2;have c3:=(HB2.o.cell (p:=⟨s4,s5+j*4+3,none⟩) hs4).trans c3;have ne1:(fb==z+1+1)=false:=by simp;omega
   have ne2:(kb==z+1+1)=false:=by simp;omega
   have ne3:(s4==z+1+1)=false:=by simp;omega
   have ne4:(z==z+1+1)=false:=by simp;omega
   have ne5:(z+1==z+1+1)=false:=by simp
   have lt1:(i:Int)<(n:Int):=by omega
   have lt2:(k:Int)<(bn:Int):=by omega
   have lt3:(j:Int)<(sn:Int):=by omega
   obtain⟨d0,d1,d2,d3⟩:=Qt HNB2.o;obtain⟨r0,r1,r2,r3⟩:=Qt HRB2.o;have x0:=(Qd HPB2.o).1 0;simp at x0;obtain⟨op,hop⟩:=Ze s.op;obtain⟨dn,hdn⟩:=Ze s.dfn;have HOP:=Zh hop;have HDN:=Zh hdn;rw[hop] at c0;rw[hdn] at c1;clear hf hb hs hsp hbl hbc hsl hsc hu ht hbn hsn hun htn hik hm hop hdn hbl2 hsl2 hfl hfb hkb hs4;go_upto_region 3 with(fail)
   go_region;go_wp2;rw[HF.o];have B3:=Qp (((((HB2.o).setCell (p:=⟨z+1+1,0,none⟩) (by show z≤z+1+1;omega) (iv op)).setCell (p:=⟨z+1+1,1,none⟩) (by show z≤z+1+1;omega) (sv dn)).setCell (p:=⟨z+1+1,2,none⟩) (by show z≤z+1+1;omega) (.slice ua un uc)).setCell (p:=⟨z+1+1,3,none⟩) (by show z≤z+1+1;omega) (.slice ta tn tc)) 1;have hz4:=set4 HRB2.o (iv op) (sv dn) (.slice ua un uc) (.slice ta tn tc);obtain⟨V,hV⟩:=Ze (((((w2.setCell ⟨z+1+1,0,none⟩ (iv op)).setCell ⟨z+1+1,1,none⟩ (sv dn)).setCell ⟨z+1+1,2,none⟩ (.slice ua un uc)).setCell ⟨z+1+1,3,none⟩ (.slice ta tn tc)).drew);have HV4:V.heap[z+1+1]? = some (.cells #[iv op,sv dn,.slice ua un uc,.slice ta tn tc] 94 (0,0)):=by rw[←hV];exact hz4
   have B4:Below z w V:=hV▸B3;rw[show((((w2.setCell ⟨z+1+1,0,none⟩ (.int .i64 op)).setCell ⟨z+1+1,1,none⟩ (.string ⟨dn.toArray⟩)).setCell ⟨z+1+1,2,none⟩ (.slice ua un uc)).setCell ⟨z+1+1,3,none⟩ (.slice ta tn tc)).drew=V from hV];clear hV B3 hz4;obtain⟨z0,z1,z2,z3⟩:=Qt HV4;refine bodyPost_ret (v:=.tuple #[.agg #[iv op,sv dn,.slice ua un uc,.slice ta tn tc],.bool true]) (by simp[results,Tryz.results47,go_sem,z0,z1,z2,z3]) rfl ⟨.slice ua un uc,.slice ta tn tc,?_,?_,?_,?_⟩
   ·simp[HOP.o,HDN.o]
   ·exact HU.o.same (Qf.below (HZ.o.symm▸B4))
   ·exact HT.o.same (Qf.below (HZ.o.symm▸B4))
   ·exact HZ.o.symm▸B4
end
end Go.Proofs.YtijekimobahgpaaGreatDoor
