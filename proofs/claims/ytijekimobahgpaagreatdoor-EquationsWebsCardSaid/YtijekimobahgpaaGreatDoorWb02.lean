/- A part of the proof. -/
import Derived.Test.YtijekimobahgpaaGreatDoorWb01
import Derived.Deep.CutRange
import Derived.Lib.SliceRun
import Derived.Deep.Quiet
import Derived.Deep.CutBlock
import Derived.Deep.Light
set_option linter.unusedVariables false
set_option linter.unusedSimpArgs false
set_option linter.unusedSectionVars false
set_option maxRecDepth 100000
set_option maxHeartbeats 16000000
namespace Go.Proofs.YtijekimobahgpaaGreatDoor
section
open Go.RowKit
variable [Base]
abbrev TS:TypeId:=9
theorem Qmt:Tryz.prog.underlying TS=some .string:=Tryz.underlying9
theorem QCe:Tryz.prog.underlying 163=some (.map TS 4):=Tryz.underlying163
theorem zeroB (w:World):(zeroValue 4).run Tryz.prog w=.ok (.bool false) w:=by kernel_rfl
noncomputable abbrev strK:KeyE Tryz.prog TS (List UInt8):=Qgu Qmt
def Qnb (w:World)(b n:Nat)(l:List Str):Prop:=∃th,MapG strK Qbc w b n (fun x=>l.contains x) th
theorem Qnb.below {w w':World}{b n:Nat}{l:List Str}(h:Qnb w b n l)(hb:Below w.heap.size w w'):Qnb w' b n l:=by
 obtain⟨th,h⟩:=h;exact⟨th,h.below hb⟩
theorem Qnb.lt {w:World}{b n:Nat}{l:List Str}(h:Qnb w b n l):b<w.heap.size:=by
 obtain⟨th,h⟩:=h;exact h.lt
theorem Qnb.look {w:World}{b n:Nat}{l:List Str}(h:Qnb w b n l){x:Str}(hx:x.length≤maxLen):(Instr.lookup 163 (.map (some b)) (sv x) false).run Tryz.prog w=.ok (.bool (l.contains x)) w:=by
 obtain⟨th,h⟩:=h;exact h.look QCe (zeroB w) hx
def DupQ (l:List Str)(w:World)(e:Ending)(w':World):Prop:=∃b,e=.returned (.tuple #[iv (dupI l),.map (some b)])∧Qnb w' b l.length l∧w.heap.size≤b∧Below w.heap.size w w'
def Qif (l:List Str)(i:Nat)(a:Int):Prop:=(a = -1∧dupI l=QKj (l.take i) (l.drop i) i)∨(0≤a∧dupI l=a)
theorem Qif.start (l:List Str):Qif l 0 (-1):=.inl ⟨rfl,by simp[dupI]⟩
theorem Qif.step {l:List Str}{i:Nat}{a:Int}{x:Str}(h:Qif l i a)(hx:l[i]? = some x):Qif l (i+1) (if (l.take i).contains x=true∧a<0 then (i:Int) else a):=by
 obtain⟨hi,rfl⟩:=List.getElem?_eq_some_iff.1 hx;rcases h with⟨rfl,h⟩|⟨h0,h⟩
 ·rw[List.drop_eq_getElem_cons hi] at h;unfold QKj at h;by_cases hc:(l.take i).contains l[i]=true
  ·rw[if_pos hc] at h;rw[if_pos ⟨hc,by omega⟩];exact .inr ⟨by omega,h⟩
  ·rw[if_neg hc] at h;rw[if_neg (fun q=>hc q.1)];refine .inl ⟨rfl,?_⟩;rw[h,List.take_add_one,List.getElem?_eq_getElem hi];rfl
 ·rw[if_neg ZO];exact .inr ⟨h0,h⟩
theorem Qif.fin {l:List Str}{a:Int}(h:Qif l l.length a):dupI l=a:=by
 rcases h with⟨rfl,h⟩|⟨_,h⟩
 ·rw[h];simp[QKj]
 ·exact h
theorem Qyd {w w':World}{b B:Nat}(hg:w.grownBy w' (some b))(hlt:b<w.heap.size)(hb:B≤b):Below B w w':=
 ⟨hg.os,hg.tape,hg.output,hg.size,fun k hk=>by
  rcases Nat.lt_or_ge k w.heap.size with h|h
  ·exact hg.block k h (by intro e;injection e with e;omega)
  ·omega⟩
theorem QFs (p:List Qo)(hp:∀f∈p,f.name.length≤1000)(v:Value)(w:World)(h:QAa w v p):Calls Tryz.prog 155 #[v,.func (.func 156) #[] #[]] w (DupQ (p.map Qo.name) w):=by
 obtain⟨a,c,rfl,hn,hc⟩:=h.cell;have HC:=Zh hc;have HP:=Zh (show ∀f∈p,f.name.length≤maxLen from fun f hf=>Nat.le_trans (hp f hf) (by unfold maxLen;omega));obtain⟨n,hl⟩:=Ze p.length;rw[hl] at hn ⊢;unfold maxLen at hn;have HL:=Zh hl;obtain⟨l,hln⟩:=Ze (p.map Qo.name);have HNM:=Zh hln;have HLL:=Zh (show l.length=n by rw[←hln,List.length_map,hl]);rw[hln];obtain⟨mb,hmb⟩:=Ze w.heap.size;have HMB:=Zh hmb;obtain⟨W,hW⟩:=Ze (w.alloc (.map #[] 0));have HWW:=Zh hW;have HM0:=Zh (show Qnb W mb 0 (l.take 0) by rw[←hW,←hmb];exact⟨_,(MapG.made strK Qbc w).congr (fun x=>by simp[Qbc]) (fun _=>rfl)⟩);have HB0:=Zh (show Below mb w W by rw[←hW,←hmb];exact Zb);clear hc h hl hln hp hW;have hmm:=@run_makeMap Tryz.prog;go_enter Tryz.func155,Tryz.ntmps155;go_upto_region 2 with(fail)
 rw[show w.alloc (.map #[] 0)=W from HWW.o]
 try rw[hmb]
 clear hmb hmm;go_wp2;go_loopw [7,13] (fun y7 y13 wr=>∃(i:Nat) (q:Int),i≤n∧y13=.int .i64 i∧y7=.int .i64 q∧-1≤q∧q≤n∧Hid (Qif l i q)∧Hid (Qnb wr mb i (l.take i))∧Hid (Below mb w wr)) (fun _ y _=>n-(intOf y).toNat)
 case atStart=>exact⟨0,-1,Nat.zero_le _,rfl,rfl,Int.le_refl _,by omega,Qif.start l,HM0.o,HB0.o⟩
 case round=>
  obtain⟨i,q,hi,rfl,rfl,hq1,hq2,HD,HM,HB⟩:=hrel;by_cases hlt:i<n;rotate_left
  ·have hin:i=n:=by omega
   have HF:=Zh (show dupI l=q from Qif.fin (by rw[HLL.o,←hin];exact HD.o));have HM2:=Zh (show Qnb wr mb l.length l by have h1:=HM.o;rw[hin,←HLL.o,List.take_length] at h1;exact h1);clear hin;go_wp2;rw[←HF.o];exact bodyPost_ret (v:=.tuple #[iv (dupI l),.map (some mb)]) (by simp[results,Tryz.results155,go_sem,HF.o]) rfl ⟨mb,rfl,HM2.o,by rw[HMB.o];exact Nat.le_refl _,by rw[HMB.o];exact HB.o⟩
  ·obtain⟨f,hf⟩:∃f,p[i]? = some f:=⟨_,List.getElem?_eq_getElem (by rw[HL.o];exact hlt)⟩;obtain⟨fb,off,bv,rfl,hfb,g0,g1,hbl⟩:=HC.o i f hf;obtain⟨ba,bc,rfl,-,-⟩:=hbl.cell;obtain⟨bn,hbn⟩:=Ze (List.length f.blocks);rw[hbn] at g1;clear hbl hbn;have hmw:=HMB.o;have g0:=(HB.o.cell (p:=⟨fb,off+i*2,none⟩) (by show fb<mb;omega)).trans g0;have g1:=(HB.o.cell (p:=⟨fb,off+i*2+1,none⟩) (by show fb<mb;omega)).trans g1;have HX:=Zh (show l[i]? = some f.name by rw[←HNM.o,List.getElem?_map,hf];rfl);have HFL:=Zh (HP.o f (List.mem_of_getElem? hf));obtain⟨x,hx⟩:=Ze f.name;rw[hx] at g0 HX HFL;have hin:(i:Int)<(n:Int):=by omega
   obtain⟨U,hU⟩:=Ze (wr.alloc (.cells #[sv x,.slice ba bn bc] 89));have HXB:=Zh (show U.heap[wr.heap.size]? = some (.cells #[sv x,.slice ba bn bc] 89 (0,0)) by rw[←hU];exact heap_alloc_new _ _);have BU:=Zh (show Below wr.heap.size wr U by rw[←hU];exact Zb);have HUU:=Zh hU;have hml:mb<wr.heap.size:=HM.o.lt;obtain⟨xb,hxb⟩:=Ze wr.heap.size;rw[hxb] at HXB BU hml;have HXE:=Zh hxb;clear hf hx hU hmw;go_upto_region 6 with(fail)
   rw[show wr.alloc (.cells #[sv x,.slice ba bn bc] 89)=U from HUU.o]
   try rw[hxb]
   clear hxb g0 g1;obtain⟨x0,x1⟩:=Qq HXB.o;have HM1:=Zh (HM.o.below (by rw[HXE.o];exact BU.o));go_wp2_with fail;refine(QWf U x (.slice ba bn bc)).mono ?_;rintro e w1 ⟨rfl,b1⟩;have HM2:=Zh (HM1.o.below b1);have HXB2:=Zh (Qc HXB.o b1 (Qb HXB.o));have HB2:=Zh (HB.o.trans ((BU.o.trans (b1.mono (by have:=BU.o.size;have:=HXE.o;omega))).mono ZO));clear b1 x0 x1;obtain⟨x0,x1⟩:=Qq HXB2.o;have lk:=HM2.o.look (x:=x) HFL.o;obtain⟨r,hr⟩:=Ze ((l.take i).contains x);rw[hr] at lk;have HR:=Zh hr;clear hr;have HDS:=Zh (HD.o.step HX.o);rw[HR.o] at HDS
   cases r with
  |false=>
    rw[if_neg ZS] at HDS;go_wp2_with fail;refine(QWf _ x (.slice ba bn bc)).mono ?_;rintro e w3 ⟨rfl,b3⟩;have HM3:=Zh (HM2.o.below b3);have HB3:=Zh (HB2.o.trans (b3.mono (by have:=HM2.o.lt;omega)));clear b3;obtain⟨th,hth⟩:=HM3.o;have HTH:=Zh hth;clear hth;go_wp2_with (at_mapUpdate;refine QHb (Ky:=strK) Qbc rfl _ _ _ _ rfl QCe rfl HTH.o (by unfold maxLen;omega) (k:=x) rfl HFL.o true rfl ?_;intro w4 hm hg;have HM4:=Zh hm;have HG4:=Zh hg;clear hm hg);go_roundw
    case rel=>exact⟨i+1,q,by omega,by go_num,rfl,by omega,by omega,HDS,⟨_,HM4.o.congr (fun y=>by have:=HX.o;simp[List.take_add_one,this];by_cases e:y=x <;> simp[e]) (fun _=>rfl)⟩,(HB3.o.trans (Qyd HG4.o HM3.o.lt (Nat.le_refl _)))⟩
    case measure=>simp[intOf];omega
  |true=>
    by_cases hq0:q<0
    ·rw[if_pos ⟨rfl,hq0⟩] at HDS;go_wp2_with fail;refine(QWf _ x (.slice ba bn bc)).mono ?_;rintro e w3 ⟨rfl,b3⟩;have HM3:=Zh (HM2.o.below b3);have HB3:=Zh (HB2.o.trans (b3.mono (by have:=HM2.o.lt;omega)));clear b3;obtain⟨th,hth⟩:=HM3.o;have HTH:=Zh hth;clear hth;go_wp2_with (at_mapUpdate;refine QHb (Ky:=strK) Qbc rfl _ _ _ _ rfl QCe rfl HTH.o (by unfold maxLen;omega) (k:=x) rfl HFL.o true rfl ?_;intro w4 hm hg;have HM4:=Zh hm;have HG4:=Zh hg;clear hm hg);go_roundw
     case rel=>exact⟨i+1,(i:Int),by omega,by go_num,rfl,by omega,by omega,HDS,⟨_,HM4.o.congr (fun y=>by have:=HX.o;simp[List.take_add_one,this];by_cases e:y=x <;> simp[e]) (fun _=>rfl)⟩,(HB3.o.trans (Qyd HG4.o HM3.o.lt (Nat.le_refl _)))⟩
     case measure=>simp[intOf];omega
    ·rw[if_neg (fun h=>hq0 h.2)] at HDS;go_wp2_with fail;refine(QWf _ x (.slice ba bn bc)).mono ?_;rintro e w3 ⟨rfl,b3⟩;have HM3:=Zh (HM2.o.below b3);have HB3:=Zh (HB2.o.trans (b3.mono (by have:=HM2.o.lt;omega)));clear b3;obtain⟨th,hth⟩:=HM3.o;have HTH:=Zh hth;clear hth;go_wp2_with (at_mapUpdate;refine QHb (Ky:=strK) Qbc rfl _ _ _ _ rfl QCe rfl HTH.o (by unfold maxLen;omega) (k:=x) rfl HFL.o true rfl ?_;intro w4 hm hg;have HM4:=Zh hm;have HG4:=Zh hg;clear hm hg);go_roundw
     case rel=>exact⟨i+1,q,by omega,by go_num,rfl,by omega,by omega,HDS,⟨_,HM4.o.congr (fun y=>by have:=HX.o;simp[List.take_add_one,this];by_cases e:y=x <;> simp[e]) (fun _=>rfl)⟩,(HB3.o.trans (Qyd HG4.o HM3.o.lt (Nat.le_refl _)))⟩
     case measure=>simp[intOf];omega
theorem QGs (p:List QI)(hp:∀f∈p,f.name.length≤1000)(v:Value)(w:World)(h:QOc w v p):Calls Tryz.prog 190 #[v,.func (.func 191) #[] #[]] w (DupQ (p.map QI.name) w):=by
 obtain⟨a,c,rfl,hn,hc⟩:=h.cell;have HC:=Zh hc;have HP:=Zh (show ∀f∈p,f.name.length≤maxLen from fun f hf=>Nat.le_trans (hp f hf) (by unfold maxLen;omega));obtain⟨n,hl⟩:=Ze p.length;rw[hl] at hn ⊢;unfold maxLen at hn;have HL:=Zh hl;obtain⟨l,hln⟩:=Ze (p.map QI.name);have HNM:=Zh hln;have HLL:=Zh (show l.length=n by rw[←hln,List.length_map,hl]);rw[hln];obtain⟨mb,hmb⟩:=Ze w.heap.size;have HMB:=Zh hmb;obtain⟨W,hW⟩:=Ze (w.alloc (.map #[] 0));have HWW:=Zh hW;have HM0:=Zh (show Qnb W mb 0 (l.take 0) by rw[←hW,←hmb];exact⟨_,(MapG.made strK Qbc w).congr (fun x=>by simp[Qbc]) (fun _=>rfl)⟩);have HB0:=Zh (show Below mb w W by rw[←hW,←hmb];exact Zb);clear hc h hl hln hp hW;have hmm:=@run_makeMap Tryz.prog;go_enter Tryz.func190,Tryz.ntmps190;go_upto_region 2 with(fail)
 rw[show w.alloc (.map #[] 0)=W from HWW.o]
 try rw[hmb]
 clear hmb hmm;go_wp2;go_loopw [7,13] (fun y7 y13 wr=>∃(i:Nat) (q:Int),i≤n∧y13=.int .i64 i∧y7=.int .i64 q∧-1≤q∧q≤n∧Hid (Qif l i q)∧Hid (Qnb wr mb i (l.take i))∧Hid (Below mb w wr)) (fun _ y _=>n-(intOf y).toNat)
 case atStart=>exact⟨0,-1,Nat.zero_le _,rfl,rfl,Int.le_refl _,by omega,Qif.start l,HM0.o,HB0.o⟩
 case round=>
  obtain⟨i,q,hi,rfl,rfl,hq1,hq2,HD,HM,HB⟩:=hrel;by_cases hlt:i<n;rotate_left
  ·have hin:i=n:=by omega
   have HF:=Zh (show dupI l=q from Qif.fin (by rw[HLL.o,←hin];exact HD.o));have HM2:=Zh (show Qnb wr mb l.length l by have h1:=HM.o;rw[hin,←HLL.o,List.take_length] at h1;exact h1);clear hin;go_wp2;rw[←HF.o];exact bodyPost_ret (v:=.tuple #[iv (dupI l),.map (some mb)]) (by simp[results,Tryz.results190,go_sem,HF.o]) rfl ⟨mb,rfl,HM2.o,by rw[HMB.o];exact Nat.le_refl _,by rw[HMB.o];exact HB.o⟩
  ·obtain⟨f,hf⟩:∃f,p[i]? = some f:=⟨_,List.getElem?_eq_getElem (by rw[HL.o];exact hlt)⟩;obtain⟨fb,off,bv,rfl,hfb,g0,g1,hbl⟩:=HC.o i f hf;obtain⟨ba,bc,rfl,-,-⟩:=hbl.cell;obtain⟨bn,hbn⟩:=Ze (List.length f.stmts);rw[hbn] at g1;clear hbl hbn;have hmw:=HMB.o;have g0:=(HB.o.cell (p:=⟨fb,off+i*2,none⟩) (by show fb<mb;omega)).trans g0;have g1:=(HB.o.cell (p:=⟨fb,off+i*2+1,none⟩) (by show fb<mb;omega)).trans g1;have HX:=Zh (show l[i]? = some f.name by rw[←HNM.o,List.getElem?_map,hf];rfl);have HFL:=Zh (HP.o f (List.mem_of_getElem? hf));obtain⟨x,hx⟩:=Ze f.name;rw[hx] at g0 HX HFL;have hin:(i:Int)<(n:Int):=by omega
   obtain⟨U,hU⟩:=Ze (wr.alloc (.cells #[sv x,.slice ba bn bc] 92));have HXB:=Zh (show U.heap[wr.heap.size]? = some (.cells #[sv x,.slice ba bn bc] 92 (0,0)) by rw[←hU];exact heap_alloc_new _ _);have BU:=Zh (show Below wr.heap.size wr U by rw[←hU];exact Zb);have HUU:=Zh hU;have hml:mb<wr.heap.size:=HM.o.lt;obtain⟨xb,hxb⟩:=Ze wr.heap.size;rw[hxb] at HXB BU hml;have HXE:=Zh hxb;clear hf hx hU hmw;go_upto_region 6 with(fail)
   rw[show wr.alloc (.cells #[sv x,.slice ba bn bc] 92)=U from HUU.o]
   try rw[hxb]
   clear hxb g0 g1;obtain⟨x0,x1⟩:=Qq HXB.o;have HM1:=Zh (HM.o.below (by rw[HXE.o];exact BU.o));go_wp2_with fail;refine(QZf U x (.slice ba bn bc)).mono ?_;rintro e w1 ⟨rfl,b1⟩;have HM2:=Zh (HM1.o.below b1);have HXB2:=Zh (Qc HXB.o b1 (Qb HXB.o));have HB2:=Zh (HB.o.trans ((BU.o.trans (b1.mono (by have:=BU.o.size;have:=HXE.o;omega))).mono ZO));clear b1 x0 x1;obtain⟨x0,x1⟩:=Qq HXB2.o;have lk:=HM2.o.look (x:=x) HFL.o;obtain⟨r,hr⟩:=Ze ((l.take i).contains x);rw[hr] at lk;have HR:=Zh hr;clear hr;have HDS:=Zh (HD.o.step HX.o);rw[HR.o] at HDS
   cases r with
  |false=>
    rw[if_neg ZS] at HDS;go_wp2_with fail;refine(QZf _ x (.slice ba bn bc)).mono ?_;rintro e w3 ⟨rfl,b3⟩;have HM3:=Zh (HM2.o.below b3);have HB3:=Zh (HB2.o.trans (b3.mono (by have:=HM2.o.lt;omega)));clear b3;obtain⟨th,hth⟩:=HM3.o;have HTH:=Zh hth;clear hth;go_wp2_with (at_mapUpdate;refine QHb (Ky:=strK) Qbc rfl _ _ _ _ rfl QCe rfl HTH.o (by unfold maxLen;omega) (k:=x) rfl HFL.o true rfl ?_;intro w4 hm hg;have HM4:=Zh hm;have HG4:=Zh hg;clear hm hg);go_roundw
    case rel=>exact⟨i+1,q,by omega,by go_num,rfl,by omega,by omega,HDS,⟨_,HM4.o.congr (fun y=>by have:=HX.o;simp[List.take_add_one,this];by_cases e:y=x <;> simp[e]) (fun _=>rfl)⟩,(HB3.o.trans (Qyd HG4.o HM3.o.lt (Nat.le_refl _)))⟩
    case measure=>simp[intOf];omega
  |true=>
    by_cases hq0:q<0
    ·rw[if_pos ⟨rfl,hq0⟩] at HDS;go_wp2_with fail;refine(QZf _ x (.slice ba bn bc)).mono ?_;rintro e w3 ⟨rfl,b3⟩;have HM3:=Zh (HM2.o.below b3);have HB3:=Zh (HB2.o.trans (b3.mono (by have:=HM2.o.lt;omega)));clear b3;obtain⟨th,hth⟩:=HM3.o;have HTH:=Zh hth;clear hth;go_wp2_with (at_mapUpdate;refine QHb (Ky:=strK) Qbc rfl _ _ _ _ rfl QCe rfl HTH.o (by unfold maxLen;omega) (k:=x) rfl HFL.o true rfl ?_;intro w4 hm hg;have HM4:=Zh hm;have HG4:=Zh hg;clear hm hg);go_roundw
     case rel=>exact⟨i+1,(i:Int),by omega,by go_num,rfl,by omega,by omega,HDS,⟨_,HM4.o.congr (fun y=>by have:=HX.o;simp[List.take_add_one,this];by_cases e:y=x <;> simp[e]) (fun _=>rfl)⟩,(HB3.o.trans (Qyd HG4.o HM3.o.lt (Nat.le_refl _)))⟩
     case measure=>simp[intOf];omega
    ·rw[if_neg (fun h=>hq0 h.2)] at HDS;go_wp2_with fail;refine(QZf _ x (.slice ba bn bc)).mono ?_;rintro e w3 ⟨rfl,b3⟩;have HM3:=Zh (HM2.o.below b3);have HB3:=Zh (HB2.o.trans (b3.mono (by have:=HM2.o.lt;omega)));clear b3;obtain⟨th,hth⟩:=HM3.o;have HTH:=Zh hth;clear hth;go_wp2_with (at_mapUpdate;refine QHb (Ky:=strK) Qbc rfl _ _ _ _ rfl QCe rfl HTH.o (by unfold maxLen;omega) (k:=x) rfl HFL.o true rfl ?_;intro w4 hm hg;have HM4:=Zh hm;have HG4:=Zh hg;clear hm hg);go_roundw
     case rel=>exact⟨i+1,q,by omega,by go_num,rfl,by omega,by omega,HDS,⟨_,HM4.o.congr (fun y=>by have:=HX.o;simp[List.take_add_one,this];by_cases e:y=x <;> simp[e]) (fun _=>rfl)⟩,(HB3.o.trans (Qyd HG4.o HM3.o.lt (Nat.le_refl _)))⟩
     case measure=>simp[intOf];omega
end
section
open Go.RowKit
variable [Base]
def tgtE (l:List Str)(s:QD)(last:Bool):Int:=if QTg s.op != last then 4 else if s.targets.all (fun t=>l.contains t) then 0 else 5
theorem Qmq (fs bs:List Str)(s:QD)(last:Bool):QXi fs bs s last=tgtE (if s.op==3 then fs else bs) s last:=rfl
theorem Qsn {α:Type}(p:α→Bool){l:List α}{i:Nat}{x:α}(h:l[i]? = some x):(l.drop i).all p=(p x&&(l.drop (i+1)).all p):=by
 obtain⟨hi,rfl⟩:=List.getElem?_eq_some_iff.1 h;rw[List.drop_eq_getElem_cons hi,List.all_cons]
theorem QZj (s:QD)(last:Bool)(l:List Str)(mb n:Nat)(ua:Option Addr)(un uc:Nat)(t:Value)(w:World)(ht:Qea w t s.targets)(hlen:∀x∈s.targets,x.length≤maxLen)(hm:Qnb w mb n l):
  Calls Tryz.prog 192 #[.agg #[iv s.op,sv s.dfn,.slice ua un uc,t],.bool last,.map (some mb)] w (IntQ (tgtE l s last) w):=by
 obtain⟨ta,tc,rfl,htn,htc⟩:=ht.cell;have HTC:=Zh htc;have HLEN:=Zh hlen;obtain⟨k,hk⟩:=Ze s.targets.length;rw[hk] at htn ⊢;unfold maxLen at htn;have HK:=Zh hk;obtain⟨W,hW⟩:=Ze (w.alloc (.cells #[iv s.op,sv s.dfn,.slice ua un uc,.slice ta k tc] 94));obtain⟨sb,hsb⟩:=Ze w.heap.size;have HSB:=Zh (show W.heap[sb]? = some (.cells #[iv s.op,sv s.dfn,.slice ua un uc,.slice ta k tc] 94 (0,0)) by rw[←hW,←hsb];exact heap_alloc_new _ _);have BW:=Zh (show Below w.heap.size w W by rw[←hW];exact Zb);have HM:=Zh (hm.below BW.o);have HWW:=Zh hW;have HSE:=Zh hsb;obtain⟨x0,x1,x2,x3⟩:=Qt HSB.o;have HTM:=Zh (show Calls Tryz.prog 235 #[.agg #[iv s.op,sv s.dfn,.slice ua un uc,.slice ta k tc]] W (Qia (QTg s.op) W) from QUi s _ _ W);obtain⟨tb,htb⟩:=Ze (QTg s.op);rw[htb] at HTM;have HE:=Zh (show tgtE l s last=if tb != last then 4 else if s.targets.all (fun t=>l.contains t) then 0 else 5 by rw[←htb];rfl);clear ht hlen htc hk hW hm htb;go_enter Tryz.func192,Tryz.ntmps192;go_upto_region 1 with(fail)
 rw[show w.alloc (.cells #[iv s.op,sv s.dfn,.slice ua un uc,.slice ta k tc] 94)=W from HWW.o]
 try rw[hsb]
 clear hsb;go_wp2_with fail;refine HTM.o.mono ?_;rintro e w1 ⟨rfl,b1⟩;have B1:=Zh (BW.o.trans (b1.mono BW.o.size));have HM1:=Zh (HM.o.below b1);have HSB1:=Zh (Qc HSB.o b1 (Qb HSB.o));clear b1 x0 x1 x2 x3;obtain⟨x0,x1,x2,x3⟩:=Qt HSB1.o;have HE2:=Zh (show tgtE l s last=if (!(tb==last))=true then 4 else if s.targets.all (fun t=>l.contains t) then 0 else 5 from HE.o);clear HE;have HE:=HE2;clear HE2
 cases htl:(tb==last) with
|false=>
  rw[htl] at HE;go_wp2;go_ret;exact⟨by rw[HE.o];rfl,B1.o⟩
|true=>
  rw[htl] at HE;go_wp2;go_loopw [16] (fun y wr=>∃i:Nat,i≤k∧y=.int .i64 i∧wr=w1∧Hid (s.targets.all (fun t=>l.contains t)=(s.targets.drop i).all (fun t=>l.contains t))) (fun y _=>k-(intOf y).toNat)
  case atStart=>exact⟨0,Nat.zero_le _,rfl,rfl,by unfold Hid;simp⟩
  case round=>
   obtain⟨i,hi,rfl,rfl,HA⟩:=hrel;by_cases hlt:i<k;rotate_left
   ·have HF:=Zh (show s.targets.all (fun t=>l.contains t)=true by rw[HA.o,List.drop_eq_nil_of_le (by rw[HK.o];omega)];rfl);go_wp2;go_ret;exact⟨by rw[HE.o,HF.o];rfl,B1.o⟩
   ·obtain⟨x,hx⟩:∃x,s.targets[i]? = some x:=⟨_,List.getElem?_eq_getElem (by rw[HK.o];exact hlt)⟩;obtain⟨b,off,rfl,hb,hc⟩:=HTC.o i x hx;have hc:=(B1.o.cell (p:=⟨b,off+i,none⟩) hb).trans hc;have lk:=HM1.o.look (HLEN.o x (List.mem_of_getElem? hx));have HS:=Zh (Qsn (fun t=>l.contains t) hx);have hin:(i:Int)<(k:Int):=by omega
    obtain⟨r,hr⟩:=Ze (l.contains x);rw[hr] at lk HS;clear hr hx
    cases r with
   |false=>
     have HF:=Zh (show s.targets.all (fun t=>l.contains t)=false by rw[HA.o,HS.o];rfl);go_wp2;go_ret;exact⟨by rw[HE.o,HF.o];rfl,B1.o⟩
   |true=>
     have HF:=Zh (show s.targets.all (fun t=>l.contains t)=(s.targets.drop (i+1)).all (fun t=>l.contains t) by rw[HA.o,HS.o];rfl);go_wp2;go_roundw
     case rel=>exact⟨i+1,by omega,by go_num,trivial,HF⟩
     case measure=>simp[intOf];omega
end
section
open Go.RowKit
variable [Base]
def Qbu (e:Int)(w:World)(x:Ending)(w':World):Prop:=∃a b c d:Int,x=.returned (.tuple #[.agg #[iv a,iv b,iv c,iv d],iv e])∧Below w.heap.size w w'
def Qct (f:Qo):Prop:=(∀b∈f.blocks,b.name.length≤1000)∧∀b∈f.blocks,∀s∈b.stmts,∀t∈s.targets,t.length≤maxLen
theorem Qzl {fs bs:List Str}{l:List QI}{k:Nat}{b:QI}(h:l[k]? = some b):QCd fs bs (l.drop k)=Qte (QIc fs bs b.stmts) (QCd fs bs (l.drop (k+1))):=by
 obtain⟨hk,rfl⟩:=List.getElem?_eq_some_iff.1 h;rw[List.drop_eq_getElem_cons hk];rfl
theorem QNl {fs bs:List Str}{l:List QD}{k:Nat}{s:QD}(h:l[k]? = some s):QIc fs bs (l.drop k)=Qte (QXi fs bs s (decide (k+1=l.length))) (QIc fs bs (l.drop (k+1))):=by
 obtain⟨hk,rfl⟩:=List.getElem?_eq_some_iff.1 h;rw[List.drop_eq_getElem_cons hk];show Qte (QXi fs bs l[k] (List.drop (k+1) l).isEmpty) (QIc fs bs (List.drop (k+1) l))=_
 congr 2
 rw[Bool.eq_iff_iff,List.isEmpty_iff];simp[List.drop_eq_nil_iff];omega
theorem QUh {e a:Int}(h:e≠0):Qte e a=e:=if_neg h
theorem QXj (f:Qo)(fi:Int)(fs:List Str)(mb n:Nat)(v:Value)(w:World)(hb:QOc w v f.blocks)(hs:Qct f)(hm:Qnb w mb n fs):
  Calls Tryz.prog 157 #[.agg #[sv f.name,v],iv fi,.map (some mb)] w (Qbu (Qxf fs f) w):=by
 obtain⟨ba,bc,rfl,hbn,hbc⟩:=hb.cell;have HBA:=Zh hb;have HBC:=Zh hbc;have HS:=Zh hs;obtain⟨bn,hbl⟩:=Ze f.blocks.length;rw[hbl] at hbn HBA ⊢;unfold maxLen at hbn;have HBL:=Zh hbl;obtain⟨fb,hfb⟩:=Ze w.heap.size;obtain⟨W,hW⟩:=Ze ((w.alloc (.cells #[sv f.name,.slice ba bn bc] 89)).alloc (.cells #[iv 0,iv 0,iv 0,iv 0] 108));have HFB:=Zh (show W.heap[fb]? = some (.cells #[sv f.name,.slice ba bn bc] 89 (0,0)) by rw[←hW,←hfb];exact Qfa _ (heap_alloc_new _ _));have HRB:=Zh (show W.heap[fb+1]? = some (.cells #[iv 0,iv 0,iv 0,iv 0] 108 (0,0)) by rw[←hW,←hfb];have:=heap_alloc_new (w.alloc (.cells #[sv f.name,.slice ba bn bc] 89)) (.cells #[iv 0,iv 0,iv 0,iv 0] 108);rwa [World.size_alloc] at this);have BW:=Zh (show Below w.heap.size w W by rw[←hW];exact(Zb).alloc ZS _);have HWW:=Zh hW;have HFE:=Zh hfb;have HM:=Zh (hm.below BW.o);have HMW:=Zh hm;obtain⟨x0,x1⟩:=Qq HFB.o;obtain⟨bs,hbs⟩:=Ze (QPb f);have HD:=Zh (show Calls Tryz.prog 190 #[.slice ba bn bc,.func (.func 191) #[] #[]] W (DupQ bs W) from by rw[←hbs];exact QGs f.blocks HS.o.1 _ W (HBA.o.keep (Qf.below BW.o) (Qf.below BW.o) (Qf.below BW.o)));have HFN:=Zh (show Qxf fs f=if 0≤dupI bs then 6 else QCd fs bs f.blocks by unfold Qxf;rw[hbs]);have HBS:=Zh hbs;clear hb hbc hs hbl hW hm hbs;go_enter Tryz.func157,Tryz.ntmps157;go_upto_region 1 with(fail)
 rw[show(w.alloc (.cells #[sv f.name,.slice ba bn bc] 89)).alloc (.cells #[iv 0,iv 0,iv 0,iv 0] 108)=W from HWW.o]
 try rw[hfb]
 clear hfb;go_wp2_with fail;refine HD.o.mono ?_;rintro e w1 ⟨b2,rfl,hm2,hb2,b1⟩;have HM1:=Zh (HM.o.below b1);have HM2:=Zh hm2;have HFB1:=Zh (Qc HFB.o b1 (Qb HFB.o));have HRB1:=Zh (Qc HRB.o b1 (Qb HRB.o));have B1:=Zh (BW.o.trans (b1.mono BW.o.size));clear b1 hm2 hb2 x0 x1;obtain⟨x0,x1⟩:=Qq HFB1.o;obtain⟨r0,r1,r2,r3⟩:=Qt HRB1.o;have fr:=(Qa HRB1.o).2;obtain⟨d,hd⟩:=Ze (dupI bs);rw[hd] at HFN ⊢;clear hd;by_cases hd0:0≤d
 ·rw[if_pos hd0] at HFN;go_wp2;rw[HFN.o];obtain⟨z0,z1,z2,z3⟩:=Qt (set4 HRB1.o (iv 3) (iv fi) (iv d) (iv (-1)));exact bodyPost_ret (v:=.tuple #[.agg #[iv 3,iv fi,iv d,iv (-1)],iv 6]) (by simp[results,Tryz.results157,go_sem,z0,z1,z2,z3]) rfl ⟨_,_,_,_,rfl,by(first|exact(B1.o)|exact((((B1.o).setCell (by show w.heap.size≤fb+1;have:=HFE.o;omega) _).setCell (by show w.heap.size≤fb+1;have:=HFE.o;omega) _).setCell (by show w.heap.size≤fb+1;have:=HFE.o;omega) _).setCell (by show w.heap.size≤fb+1;have:=HFE.o;omega) _)⟩
 rw[if_neg hd0] at HFN;go_wp2;go_loopw [30] (fun y wr=>∃k:Nat,k≤bn∧y=.int .i64 k∧Hid (Below w.heap.size w wr)∧Hid (Qnb wr b2 bs.length bs)∧Hid (wr.heap[fb+1]? = some (.cells #[iv 0,iv 0,iv 0,iv 0] 108 (0,0)))∧Hid (Qxf fs f=QCd fs bs (f.blocks.drop k))) (fun y _=>bn-(intOf y).toNat)
 case atStart=>exact⟨0,Nat.zero_le _,rfl,B1.o,HM2.o,HRB1.o,HFN.o⟩
 case round=>
  obtain⟨k,hk,rfl,HB,HN2,HR,HE⟩:=hrel;clear x0 x1 r0 r1 r2 r3 fr;obtain⟨r0,r1,r2,r3⟩:=Qt HR.o;have fr:=(Qa HR.o).2;by_cases hlt:k<bn;rotate_left
  ·have HF:=Zh (show Qxf fs f=0 by rw[HE.o,List.drop_eq_nil_of_le (by rw[HBL.o];omega)];rfl);go_wp2;rw[HF.o];obtain⟨z0,z1,z2,z3⟩:=Qt (set4 HR.o (iv 0) (iv 0) (iv 0) (iv 0));exact bodyPost_ret (v:=.tuple #[.agg #[iv 0,iv 0,iv 0,iv 0],iv 0]) (by simp[results,Tryz.results157,go_sem,z0,z1,z2,z3]) rfl ⟨_,_,_,_,rfl,by(first|exact(HB.o)|exact((((HB.o).setCell (by show w.heap.size≤fb+1;have:=HFE.o;omega) _).setCell (by show w.heap.size≤fb+1;have:=HFE.o;omega) _).setCell (by show w.heap.size≤fb+1;have:=HFE.o;omega) _).setCell (by show w.heap.size≤fb+1;have:=HFE.o;omega) _)⟩
  ·obtain⟨b,hb⟩:∃b,f.blocks[k]? = some b:=⟨_,List.getElem?_eq_getElem (by rw[HBL.o];exact hlt)⟩;obtain⟨kb,ko,sv0,rfl,hkb,g0,g1,hsl⟩:=HBC.o k b hb;have g0:=(HB.o.cell (p:=⟨kb,ko+k*2,none⟩) hkb).trans g0;have g1:=(HB.o.cell (p:=⟨kb,ko+k*2+1,none⟩) hkb).trans g1;obtain⟨sa,sc,rfl,hsn,hsc⟩:=hsl.cell;have HSC:=Zh hsc;obtain⟨sn,hsl2⟩:=Ze b.stmts.length;rw[hsl2] at hsn g1;unfold maxLen at hsn;have HSL:=Zh hsl2;have HBD:=Zh (HE.o.trans (Qzl hb));have HSH:=Zh (fun s hs t ht=>HS.o.2 b (List.mem_of_getElem? hb) s hs t ht);have hin:(k:Int)<(bn:Int):=by omega
   obtain⟨bb,hbb⟩:=Ze wr.heap.size;obtain⟨V,hV⟩:=Ze (wr.alloc (.cells #[sv b.name,.slice sa sn sc] 92));have HBB:=Zh (show V.heap[bb]? = some (.cells #[sv b.name,.slice sa sn sc] 92 (0,0)) by rw[←hV,←hbb];exact heap_alloc_new _ _);have BV:=Zh (show Below wr.heap.size wr V by rw[←hV];exact Zb);have HVV:=Zh hV;have HB2:=Zh (HB.o.trans (BV.o.mono HB.o.size));have HN3:=Zh (HN2.o.below BV.o);have HR3:=Zh (Qc HR.o BV.o (Qb HR.o));clear hb hsl hsc hsl2 hV;go_upto_region 7 with(fail)
   rw[show wr.alloc (.cells #[sv b.name,.slice sa sn sc] 92)=V from HVV.o]
   try rw[hbb]
   clear hbb g0 g1 r0 r1 r2 r3 fr;obtain⟨x0,x1⟩:=Qq HBB.o;go_wp2;obtain⟨V0,hV0⟩:∃V0,V0=V:=⟨_,rfl⟩;go_loopw [38] (fun y wr=>∃j:Nat,j≤sn∧y=.int .i64 j∧Hid (Below w.heap.size w wr)∧Hid (Qnb wr b2 bs.length bs)∧Hid (wr.heap[fb+1]? = some (.cells #[iv 0,iv 0,iv 0,iv 0] 108 (0,0)))∧Hid (wr.heap[bb]? = some (.cells #[sv b.name,.slice sa sn sc] 92 (0,0)))∧Hid (QIc fs bs b.stmts=QIc fs bs (b.stmts.drop j))) (fun y _=>sn-(intOf y).toNat)
   case atStart=>exact⟨0,Nat.zero_le _,rfl,HB2.o,HN3.o,HR3.o,HBB.o,by unfold Hid;simp⟩
   case round=>
    clear x0 x1;obtain⟨j,hj,rfl,HB4,HN4,HR4,HBB4,HE4⟩:=hrel;obtain⟨x0,x1⟩:=Qq HBB4.o;by_cases hlt2:j<sn;rotate_left
    ·have HF:=Zh (show QIc fs bs b.stmts=0 by rw[HE4.o,List.drop_eq_nil_of_le (by rw[HSL.o];omega)];rfl);have HF2:=Zh (show Qxf fs f=QCd fs bs (f.blocks.drop (k+1)) by rw[HBD.o,HF.o];rfl);go_wp2;go_roundw
     case rel=>exact⟨k+1,by omega,by go_num,HB4,HN4,HR4,HF2⟩
     case measure=>simp[intOf];omega
    ·obtain⟨s,hs⟩:∃s,b.stmts[j]? = some s:=⟨_,List.getElem?_eq_getElem (by rw[HSL.o];exact hlt2)⟩;obtain⟨jb,jo,su,tu,rfl,hjb,q0,q1,q2,q3,hsu,htu⟩:=HSC.o j s hs;have q0:=(HB4.o.cell (p:=⟨jb,jo+j*4,none⟩) hjb).trans q0;have q1:=(HB4.o.cell (p:=⟨jb,jo+j*4+1,none⟩) hjb).trans q1;have q2:=(HB4.o.cell (p:=⟨jb,jo+j*4+2,none⟩) hjb).trans q2;have q3:=(HB4.o.cell (p:=⟨jb,jo+j*4+3,none⟩) hjb).trans q3;obtain⟨sua,suc,rfl,-,-⟩:=hsu.cell;have HTU:=Zh htu;obtain⟨tua,tuc,rfl,-,-⟩:=htu.cell;obtain⟨un,hun⟩:=Ze s.uses.length;obtain⟨tn,htn⟩:=Ze s.targets.length;rw[hun] at q2;rw[htn] at q3 HTU;have HSD:=Zh (HE4.o.trans (QNl hs));have HSM:=Zh (List.mem_of_getElem? hs);have hjn:(j:Int)<(sn:Int):=by omega
     have hls:(decide (j+1=b.stmts.length))=((j:Int)==(sn:Int)-1):=by rw[HSL.o,Bool.eq_iff_iff];simp;omega
     rw[hls,Qmq] at HSD;obtain⟨sb,hsb⟩:=Ze wr.heap.size;obtain⟨U,hU⟩:=Ze (wr.alloc (.cells #[iv s.op,sv s.dfn,.slice sua un suc,.slice tua tn tuc] 94));have HSB:=Zh (show U.heap[sb]? = some (.cells #[iv s.op,sv s.dfn,.slice sua un suc,.slice tua tn tuc] 94 (0,0)) by rw[←hU,←hsb];exact heap_alloc_new _ _);have BU:=Zh (show Below wr.heap.size wr U by rw[←hU];exact Zb);have HUU:=Zh hU;have HB5:=Zh (HB4.o.trans (BU.o.mono HB4.o.size));have HN5:=Zh (HN4.o.below BU.o);have HM5:=Zh (show Qnb U mb n fs from(HMW.o.below HB5.o));have HR5:=Zh (Qc HR4.o BU.o (Qb HR4.o));have HBB5:=Zh (Qc HBB4.o BU.o (Qb HBB4.o));have HTU5:=Zh (show Qea U (.slice tua tn tuc) s.targets from HTU.o.same (Qf.below HB5.o));clear hs hsu htu hun htn hU x0 x1 hls;go_upto_region 10 with(fail)
     rw[show wr.alloc (.cells #[iv s.op,sv s.dfn,.slice sua un suc,.slice tua tn tuc] 94)=U from HUU.o]
     try rw[hsb]
     clear hsb q0 q1 q2 q3;obtain⟨x0,x1⟩:=Qq HBB5.o;obtain⟨y0,y1,y2,y3⟩:=Qt HSB.o;obtain⟨lst,hlst⟩:=Ze (((j:Int)==(sn:Int)-1));rw[hlst] at HSD;have HLST:=Zh hlst;go_upto_if 46 with(fail)
     go_cut [14] from 43 to 47 (fun s14 wx=>∃(q nq:Nat) (ql:List Str),s14=.map (some q)∧U=wx∧Hid (Qnb U q nq ql)∧Hid (QIc fs bs b.stmts=Qte (tgtE ql s lst) (QIc fs bs (b.stmts.drop (j+1)))))
     case first=>
      by_cases h3:s.op=3
      ·have h3b:(s.op==3)=true:=by simpa using h3
       rw[h3b,if_pos rfl] at HSD;go_wp2;go_meet
       case rel=>exact⟨mb,n,fs,rfl,rfl,HM5,HSD⟩
      ·have h3b:(s.op==3)=false:=by simpa using h3
       rw[h3b,if_neg ZS] at HSD;go_wp2;go_meet
       case rel=>exact⟨b2,bs.length,bs,rfl,rfl,HN5,HSD⟩
     case rest=>
      obtain⟨q,nq,ql,rfl,rfl,HQM,HSQ⟩:=hcut;clear HSD;have HSD:=HSQ;clear HSQ;obtain⟨er,her⟩:=Ze (tgtE ql s lst);have HST:=Zh (show Calls Tryz.prog 192 #[.agg #[iv s.op,sv s.dfn,.slice sua un suc,.slice tua tn tuc],.bool lst,.map (some q)] U (IntQ er U) from by rw[←her];exact QZj s lst ql _ _ _ _ _ _ U HTU5.o (fun t ht=>HSH.o s HSM.o t ht) HQM.o);rw[her] at HSD;clear her;go_wp2_with fail;refine HST.o.mono ?_;rintro e w6 ⟨rfl,b6⟩;have HB6:=Zh (HB5.o.trans (b6.mono HB5.o.size));have HN6:=Zh (HN5.o.below b6);have HR6:=Zh (Qc HR5.o b6 (Qb HR5.o));have HBB6:=Zh (Qc HBB5.o b6 (Qb HBB5.o));clear b6 x0 x1 y0 y1 y2 y3 hlst;obtain⟨r0,r1,r2,r3⟩:=Qt HR6.o;have fr:=(Qa HR6.o).2;by_cases her0:er=0
      ·have HF:=Zh (show QIc fs bs b.stmts=QIc fs bs (b.stmts.drop (j+1)) by rw[HSD.o,her0];rfl);have hne0:(er != 0)=false:=by simpa using her0
       clear her0;go_wp2;go_roundw
       case rel=>exact⟨j+1,by omega,by go_num,HB6,HN6,HR6,HBB6,HF⟩
       case measure=>simp[intOf];omega
      ·have HF:=Zh (show Qxf fs f=er by rw[HBD.o,HSD.o,QUh her0,QUh her0]);have hne0:(er != 0)=true:=by simpa using her0
       clear her0;go_wp2;rw[HF.o];obtain⟨z0,z1,z2,z3⟩:=Qt (set4 HR6.o (iv 3) (iv fi) (iv k) (iv j));exact bodyPost_ret (v:=.tuple #[.agg #[iv 3,iv fi,iv k,iv j],iv er]) (by simp[results,Tryz.results157,go_sem,z0,z1,z2,z3]) rfl ⟨_,_,_,_,rfl,by(first|exact(HB6.o)|exact((((HB6.o).setCell (by show w.heap.size≤fb+1;have:=HFE.o;omega) _).setCell (by show w.heap.size≤fb+1;have:=HFE.o;omega) _).setCell (by show w.heap.size≤fb+1;have:=HFE.o;omega) _).setCell (by show w.heap.size≤fb+1;have:=HFE.o;omega) _)⟩
end
section
open Go.RowKit
variable [Base]
theorem Qph:(Tryz.prog.info? 9).map (fun i=>(i.zero,i.size,i.bytes))=some (some (Value.string ⟨#[]⟩),1,16):=by kernel_rfl
def QAu (w:World)(n:Nat)(xs:List Value)(e:Ending)(w':World):Prop:=
 ∃a c,e=.returned (.slice a n c)∧w'.ownsRow w.heap.size 9 1 (.slice a n c) n xs∧Below w.heap.size w w'
theorem Qlr (w:World):(w.alloc (.cells #[] 9)).ownsRow w.heap.size 9 1 (.slice (some ⟨w.heap.size,0,none⟩) 0 0) 0 []:=
 ⟨rfl,.inr ⟨w.heap.size,0,#[],rfl,Nat.le_refl _,heap_alloc_new w _,Nat.le_refl _,Nat.zero_le _,rfl,rfl⟩⟩
theorem Qor (v:Value)(n:Nat)(xs:List Value)(w:World)(h:Qg w 9 1 v xs)(hl:xs.length=n*1)(ho:xs.all Value.oneCell'=true)(hn:n≤8796093022208):
  Calls Tryz.prog 232 #[v] w (QAu w n xs):=by
 have H:=Zh h;have L:=Zh hl;have O:=Zh ho;obtain⟨m,cap,e1,e2,e3,h4⟩:=h;have hm:m=n:=by omega
 subst hm;obtain⟨oa,oc,rfl,hoc,hnil⟩:∃oa oc,v=.slice oa m oc∧oc≤maxLen∧(oa=none→m=0∧oc=0):=by
  rcases h4 with⟨⟨a,rfl⟩,rfl⟩|⟨b,off,c,fr,rfl,hb,hc⟩
  ·exact⟨a,0,rfl,Nat.zero_le _,fun _=>⟨rfl,rfl⟩⟩
  ·exact⟨_,cap,rfl,e3,fun h=>by cases h⟩
 clear h4;rcases oa with _|oa
 ·obtain⟨rfl,rfl⟩:=hnil rfl;have hx:xs=[]:=List.length_eq_zero_iff.1 ZO;subst hx;clear hl ho e1 H L O;have q:=fun (w:World) (a:Option Addr) (n c n' c':Nat)=>Lib.run_eql_slice_nil (P:=Tryz.prog) w 86 9 a n c n' c' Tryz.underlying86
  go_enter Tryz.func232,Tryz.ntmps232;go_wp2;go_ret;exact⟨none,0,rfl,World.ownsRow_nil _ _ _ _,Below.refl _ _⟩
 ·unfold maxLen at e3 hoc;have OW:=Zh (Qlr w);clear hl ho e1 hnil;have q:=fun (w:World) (a:Option Addr) (n c n' c':Nat)=>Lib.run_eql_slice_nil (P:=Tryz.prog) w 86 9 a n c n' c' Tryz.underlying86
  go_enter Tryz.func232,Tryz.ntmps232;go_wp2_with (at_builtin;refine wpList_append_sl rfl _ _ 86 rfl w.heap.size 9 _ 1 16 Tryz.underlying86 Qph rfl ZD _ _ _ OW.o rfl _ m _ rfl (Qg.same H.o Qf.alloc) L.o O.o (by unfold maxLen;omega) ZO ZS ?_;intro g d w1 own1 gr1;simp only[Nat.zero_add,List.nil_append] at own1;have OW1:=Zh own1;have B1:=Zh (((Below.refl w.heap.size w).alloc (Nat.le_refl _) _).trans (Below.of_grown gr1 OW.o ZS));clear own1 gr1);go_ret;exact⟨_,_,by simp,OW1.o,B1.o⟩
end
section
open Go.RowKit
variable [Base]
def Qyr (ls:List (List UInt8))(l:List UInt8)(w:World)(e:Ending)(w':World):Prop:=
 ∃r:Int,e=.returned (.int .i64 r)∧Hid (decide (0≤r)=hasB ls l)∧∃k,w'=w.drewN k
theorem Qar (ls:List (List UInt8))(l:List UInt8)(n c:Nat)(a:Option Addr)(w:World)(hx:Hid (ls.length=n))(hn:n≤9223372036854775807)(F:Hid (Qvn w a ls)):
  Calls Tryz.prog 160 #[.slice a n c,.string ⟨l.toArray⟩] w (Qyr ls l w):=by
 go_enter Tryz.func160,Tryz.ntmps160;go_wp2;go_loopw [8] (fun v wr=>∃k m:Nat,k≤n∧v=.int .i64 k∧wr=w.drewN m∧Hid (hasB ls l=hasB (ls.drop k) l)) (fun v _=>n-(intOf v).toNat)
 case atStart=>exact⟨0,0,Nat.zero_le _,rfl,rfl,by unfold Hid;simp⟩
 case round=>
  obtain⟨k,m,hk,rfl,rfl,hs⟩:=hrel;by_cases hlt:k<n
  ·obtain⟨t,ht⟩:∃t,ls[k]? = some t:=⟨ls[k]'(by have:=hx.o;omega),by simp⟩;obtain⟨b,off,rfl,g⟩:=F.o k t ht;have st:=Zh (Qig ls k t l ht);clear ht
   cases e:l==t
   ·go_wp2;go_roundw
    case rel=>exact⟨k+1,_,by omega,by go_num,rfl,by unfold Hid;rw[hs.o,st.o,e];rfl⟩
    case measure=>simp[intOf];omega
   ·go_wp2;go_ret;exact⟨k,rfl,by unfold Hid;rw[hs.o,st.o,e];simp,_,rfl⟩
  ·go_wp2;go_ret;exact⟨-1,rfl,by unfold Hid;rw[hs.o,List.drop_of_length_le (by have:=hx.o;omega)];rfl,_,rfl⟩
end
section
open Go.RowKit
variable [Base]
theorem Quh (ls:List (List UInt8))(l:List UInt8)(n c:Nat)(a:Option Addr)(w:World)(hx:Hid (ls.length=n))(hn:n≤9223372036854775807)(F:Hid (Qvn w a ls)):
  Calls Tryz.prog 229 #[.slice a n c,.string ⟨l.toArray⟩] w fun e w'=>e=.returned (.bool (hasB ls l))∧∃k,w'=w.drewN k:=by
 go_enter Tryz.func229,Tryz.ntmps229;go_wp2_with (go_at_call 160;refine(Qar ls l n c a _ hx hn F).mono ?_;rintro e w' ⟨r,rfl,hr,k,rfl⟩);go_ret;exact⟨Qgb hr.o,_,rfl⟩
def KwAt (w:World):Prop:=∃a c,w.cell? ⟨2,0,none⟩=some (.slice a 11 c)∧Qvn w a kws
theorem Qqo (w:World):
  Calls Tryz.prog 186 #[.string ⟨#[]⟩] w fun e w'=>e=.returned (.bool (QV []))∧∃k,w'=w.drewN k:=by
 go_enter Tryz.func186,Tryz.ntmps186;go_wp2;go_ret;exact⟨Qgb rfl,0,rfl⟩
theorem QBm (c:UInt8)(r:List UInt8)(w:World)(h0:16<(c::r).length):
  Calls Tryz.prog 186 #[.string ⟨(c::r).toArray⟩] w fun e w'=>e=.returned (.bool (QV (c::r)))∧∃k,w'=w.drewN k:=by
 rw[Qxk h0];have h:decide ((16:Int)<(r.length:Int)+1)=true:=by simp at h0 ⊢;omega
 clear h0;go_enter Tryz.func186,Tryz.ntmps186;go_wp2;go_ret;exact⟨rfl,0,rfl⟩
theorem Qol (c:UInt8)(r:List UInt8)(w:World)(h0:(c::r).length≤16)(h1:Qjb (c.toNat:Int)=false):
  Calls Tryz.prog 186 #[.string ⟨(c::r).toArray⟩] w fun e w'=>e=.returned (.bool (QV (c::r)))∧∃k,w'=w.drewN k:=by
 rw[Qtj (show QGg (c::r)=false from h1)];have h:decide ((16:Int)<(r.length:Int)+1)=false:=by simp at h0 ⊢;omega
 clear h0;have h2:Qjb (((⟨(c::r).toArray⟩:ByteArray)[0]'(by rw[Qbl];simp)).toNat:Int)=false:=h1;clear h1;go_enter Tryz.func186,Tryz.ntmps186;go_wp2_with (go_at_call 228;refine(Qqe _ _).mono ?_;rintro e w' ⟨rfl,rfl⟩);go_ret;exact⟨rfl,0,rfl⟩
theorem QUq (c:UInt8)(r:List UInt8)(w:World)(h0:(c::r).length≤16)(h1:Qjb (c.toNat:Int)=true)(KW:KwAt w):
  Calls Tryz.prog 186 #[.string ⟨(c::r).toArray⟩] w fun e w'=>e=.returned (.bool (QV (c::r)))∧∃k,w'=w.drewN k:=by
 obtain⟨a,cp,hk,hF⟩:=KW;have F:=Zh hF;clear hF;have hl:(⟨(c::r).toArray⟩:ByteArray).size=r.length+1:=by rw[Qbl];simp
 have WE:=Zh (fun w=>QEl ⟨(c::r).toArray⟩ 0 w (by rw[hl];unfold maxLen;simp at h0;omega) (Nat.zero_le _));clear hl;have h:decide ((16:Int)<(r.length:Int)+1)=false:=by simp at h0 ⊢;omega
 have h2:Qjb (((⟨(c::r).toArray⟩:ByteArray)[0]'(by rw[Qbl];simp)).toNat:Int)=true:=h1;have H0:=Zh h0;have H1:=Zh h1;clear h0 h1
 cases e:hasB kws (c::r)
 ·have EE:=Zh e;go_enter Tryz.func186,Tryz.ntmps186;go_wp2_with (first
  |(go_at_call 228;refine(Qqe _ _).mono ?_;rintro e w' ⟨rfl,rfl⟩)
  |(go_at_call 229;refine(Quh kws (c::r) 11 cp a _ rfl ZO F).mono ?_;rintro e w' ⟨rfl,k,rfl⟩)
  |(go_at_call 230;refine(WE.o _).mono ?_;rintro e w' ⟨rfl,rfl⟩))
  go_ret;refine⟨Qgb ?_,_,rfl⟩;rw[Qwk H0.o H1.o EE.o];have ht:=QCr Qha (c::r);have hw:wlen ⟨(c::r).toArray⟩ 0=((c::r).takeWhile Qha).length:=rfl;rw[←hw] at ht;rw[Bool.eq_iff_iff,←ht];have hs:((0+wlen ⟨(c::r).toArray⟩ 0:Nat):Int)=(wlen ⟨(c::r).toArray⟩ 0:Int):=by simp
  simp;omega
 ·rw[QFp e];go_enter Tryz.func186,Tryz.ntmps186;go_wp2_with (first
  |(go_at_call 228;refine(Qqe _ _).mono ?_;rintro e w' ⟨rfl,rfl⟩)
  |(go_at_call 229;refine(Quh kws (c::r) 11 cp a _ rfl ZO F).mono ?_;rintro e w' ⟨rfl,k,rfl⟩))
  go_ret;exact⟨rfl,_,rfl⟩
theorem Qzj (s:ByteArray)(w:World)(KW:KwAt w):
  Calls Tryz.prog 186 #[.string s] w fun e w'=>e=.returned (.bool (QV s.data.toList))∧∃k,w'=w.drewN k:=by
 obtain⟨⟨l⟩⟩:=s
 match l with
|[]=>exact Qqo w
|c::r=>
  show Calls Tryz.prog 186 #[.string ⟨(c::r).toArray⟩] w fun e w'=>e=.returned (.bool (QV (c::r)))∧∃k,w'=w.drewN k
  by_cases h0:16<(c::r).length
  ·exact QBm c r w h0
  cases h1:Qjb (c.toNat:Int)
  ·exact Qol c r w ZO h1
  ·exact QUq c r w ZO h1 KW
end
section
open Go.RowKit
variable [Base]
def KwIn (B:Nat)(w:World):Prop:=(2<B∧Base.b≤B)∧∃b off c,b<B∧w.cell? ⟨2,0,none⟩=some (.slice (some ⟨b,off,none⟩) 11 c)∧Qvn w (some ⟨b,off,none⟩) kws
theorem KwIn.at_ {B:Nat}{w w':World}(h:KwIn B w)(hb:Below B w w'):KwAt w':=by
 obtain⟨h0,b,off,c,h1,h2,h3⟩:=h;refine⟨some ⟨b,off,none⟩,c,(hb.cell (p:=⟨2,0,none⟩) (by show 2<B;omega)).trans h2,fun k s hk=>?_⟩;obtain⟨b',off',e,hc⟩:=h3 k s hk;injection e with e
 injection e with e1 e2
 subst e1 e2;exact⟨b,off,rfl,(hb.cell (p:=⟨b,off+k,none⟩) h1).trans hc⟩
theorem KwIn.keep {B:Nat}{w w':World}(h:KwIn B w)(hB:∀k,k<B→w'.heap[k]? = w.heap[k]?):KwIn B w':=by
 obtain⟨h0,b,off,c,h1,h2,h3⟩:=h;refine⟨h0,b,off,c,h1,(World.cell?_of_block (hB 2 ZO)).trans h2,fun k s hk=>?_⟩;obtain⟨b',off',e,hc⟩:=h3 k s hk;injection e with e
 injection e with e1 e2
 subst e1 e2;exact⟨b,off,rfl,(World.cell?_of_block (hB b h1)).trans hc⟩
theorem KwIn.bs {B:Nat}{w:World}(h:KwIn B w):Base.b≤B:=h.1.2
end
section
open Go.RowKit
variable [Base]
def Qcu (b:Bool)(w:World)(e:Ending)(w':World):Prop:=e=.returned (.bool b)∧∃k,w'=w.drewN k
theorem Qmm (s:Str)(w:World)(kw:KwAt w):Calls Tryz.prog 234 #[sv s] w (Qcu (!QV s) w):=by
 have K:=Zh (Qzj ⟨s.toArray⟩ w kw);obtain⟨r,hr⟩:=Ze (QV s);have HR:=Zh (show QV (ByteArray.mk s.toArray).data.toList=r from hr);rw[hr];clear kw hr;go_enter Tryz.func234,Tryz.ntmps234;go_wp2_with fail;refine K.o.mono ?_;rintro e w' ⟨rfl,k,rfl⟩;rw[HR.o];go_wp2;go_ret;exact⟨rfl,k,rfl⟩
def QEu (l:List Str)(w:World)(e:Ending)(w':World):Prop:=∃z:Int,e=.returned (iv z)∧-1≤z∧l.all QV=decide (z<0)∧∃k,w'=w.drewN k
theorem QBo (l:List Str)(v:Value)(w:World)(h:Qea w v l)(kw:KwAt w):
  Calls Tryz.prog 251 #[v,.func (.func 234) #[] #[]] w (QEu l w):=by
 obtain⟨a,c,rfl,hn,hc⟩:=h.cell;have HC:=Zh hc;have KW:=Zh kw;obtain⟨n,hl⟩:=Ze l.length;rw[hl] at hn ⊢;have HL:=Zh hl;clear hc h hl kw;unfold maxLen at hn;go_enter Tryz.func251,Tryz.ntmps251;go_wp2;go_loopw [8] (fun x wr=>∃k m:Nat,k≤n∧x=.int .i64 k∧wr=w.drewN m∧Hid (l.all QV=(l.drop k).all QV)) (fun x _=>n-(intOf x).toNat)
 case atStart=>exact⟨0,0,Nat.zero_le _,rfl,rfl,by unfold Hid;simp⟩
 case round=>
  obtain⟨k,m,hk,rfl,rfl,HA⟩:=hrel;by_cases hlt:k<n
  ·obtain⟨t,ht⟩:∃t,l[k]? = some t:=⟨_,List.getElem?_eq_getElem (show k<l.length by have:=HL.o;omega)⟩;obtain⟨b1,o1,rfl,_,g1⟩:=HC.o k t ht;have K:=Zh (Qmm t (w.drewN m) KW.o);have HS:=Zh (Qsn QV ht);obtain⟨r,hr⟩:=Ze (QV t);rw[hr] at K HS;clear ht hr
   cases r with
  |false=>
    have HF:=Zh (show l.all QV=false by rw[HA.o,HS.o];rfl);go_wp2_with fail;refine K.o.mono ?_;rintro e w' ⟨rfl,k2,rfl⟩;go_wp2;go_ret;exact⟨(k:Int),rfl,by omega,by rw[HF.o];simp,_,rfl⟩
  |true=>
    have HF:=Zh (show l.all QV=(l.drop (k+1)).all QV by rw[HA.o,HS.o];rfl);go_wp2_with fail;refine K.o.mono ?_;rintro e w' ⟨rfl,k2,rfl⟩;go_wp2;go_roundw
    case rel=>exact⟨k+1,_,by omega,by go_num,rfl,HF⟩
    case measure=>simp[intOf];omega
  ·have HF:=Zh (show l.all QV=true by rw[HA.o,List.drop_eq_nil_of_le (by rw[HL.o];omega)];rfl);go_wp2;go_ret;exact⟨-1,rfl,by omega,by rw[HF.o];rfl,_,rfl⟩
theorem Qhg (l:List Str)(v:Value)(w:World)(h:Qea w v l)(kw:KwAt w):
  Calls Tryz.prog 233 #[v,.func (.func 234) #[] #[]] w (Qcu (!l.all QV) w):=by
 obtain⟨a,c,rfl,-,-⟩:=h.cell;have K:=Zh (QBo l _ w h kw);clear h kw;go_enter Tryz.func233,Tryz.ntmps233;go_wp2_with fail;refine K.o.mono ?_;rintro e w' ⟨z,rfl,hz,ha,k,rfl⟩;have HA:=Zh (show(!l.all QV)=decide (0≤z) by rw[ha,Bool.eq_iff_iff];simp);clear ha;go_wp2;go_ret;exact⟨by rw[HA.o];rfl,k,rfl⟩
end
section
def useN (op:Int)(n:Nat):Int:=if op=1 then n else if op=2 then max n 1 else if op=5∨op=8 then 1 else 0
def tgtN (op:Int):Int:=if op=8 then 2 else if op=3∨op=7 then 1 else 0
def opK (op:Int):Bool:=decide (1≤op)&&decide (op≤9)
def Qhh (s:QD):List Str:=s.uses++s.targets++(if dfnB s.op then [s.dfn] else [])
def QHh (s:QD):Bool:=
 opK s.op&&((dfnB s.op||s.dfn.isEmpty)&&(decide ((s.uses.length:Int)=useN s.op s.uses.length)&&(decide (useN s.op s.uses.length≤4)&&(decide ((s.targets.length:Int)=tgtN s.op)&&(Qhh s).all QV))))
theorem Qtn (s:QD):(Qhh s).all QV=(s.uses.all QV&&s.targets.all QV&&(!dfnB s.op||QV s.dfn)):=by
 unfold Qhh;rw[List.all_append,List.all_append]
 cases dfnB s.op <;> simp
theorem QYi (s:QD):stmtB s=QHh s:=by
 unfold stmtB QHh;rw[Qtn];obtain⟨op,d,us,ts⟩:=s;unfold opB opK Qjl useN tgtN dfnB;simp only[];generalize us.all QV=a;generalize ts.all QV=b;generalize QV d=c;generalize d.isEmpty=e;generalize us.length=n;generalize ts.length=m;have hc:op=1∨op=2∨op=3∨op=4∨op=5∨op=6∨op=7∨op=8∨op=9∨¬(1≤op∧op≤9):=by omega
 rcases hc with rfl|rfl|rfl|rfl|rfl|rfl|rfl|rfl|rfl|hc
 rotate_left 9
 ·have h1:op≠1:=by omega
  have h2:op≠2:=by omega
  have h3:op≠3:=by omega
  have h4:op≠4:=by omega
  have h5:op≠5:=by omega
  have h6:op≠6:=by omega
  have h7:op≠7:=by omega
  have h8:op≠8:=by omega
  have h9:op≠9:=by omega
  have h10:(decide (1≤op)&&decide (op≤9))=false:=by rw[Bool.eq_false_iff];simp;omega
  rw[h10];simp[h1,h2,h3,h4,h5,h6,h7,h8,h9]
 all_goals
  rw[Bool.eq_iff_iff]
  cases a <;> cases b <;> cases c <;> cases e <;> simp <;> omega
end
section
open Go
section
variable {P:Program} {ops:Array Oper} {Q:Exit→Act→World→Prop} {md:Region.Mode} {S:World→Prop}
def Qma (P:Program)(md:Region.Mode)(ops:Array Oper)(Q:Exit→Act→World→Prop)(S:World→Prop)(st:Nat):Nat→Array Bool→Act→World→Prop
|0,listed,a,w=>Region.ready md ops listed=[]∧Q .normal a w
|fuel+1,listed,a,w=>
  (Region.ready md ops listed=[]→Q .normal a w) ∧
  ∀i∈Region.ready md ops listed,wpOp P ops Q i (fun a' w'=>(i≠st→S w')∧Qma P md ops Q S st fuel (listed.setIfInBounds i true) a' w') a w
theorem QKi {st:Nat}:∀(fuel:Nat) (listed:Array Bool) (a:Act) (w:World),Qma P md ops Q S st fuel listed a w→wpAny P md ops Q fuel listed a w
|0,_,_,_,h=>h
|fuel+1,_,_,_,h=>⟨h.1,fun i hi=>wpOp_mono (fun a' w' h'=>QKi fuel _ a' w' h'.2) (h.2 i hi)⟩
def Qcg (md:Region.Mode)(ops:Array Oper)(st i:Nat):Bool:=match ops[st]? with
|some o=>o.after.any fun e=>Region.binds md e&&e.on==i
|none=>false
theorem QXb {st i:Nat}{listed:Array Bool}(hw:Qcg md ops st i=true)(hi:listed.getD i false=false)(hr:st∈Region.ready md ops listed):False:=by
 obtain⟨_,o,ho,hall⟩:=mem_ready.1 hr;unfold Qcg at hw;rw[ho] at hw;obtain⟨e,he,hb⟩:=Array.any_eq_true'.1 hw;simp only[Bool.and_eq_true,beq_iff_eq] at hb;have:=hall e he hb.1;rw[hb.2,hi] at this
 cases this
theorem QYb {listed:Array Bool}{i:Nat}(h:listed.getD i true=false):listed.getD i false=false:=by
 rcases Nat.lt_or_ge i listed.size with h'|h'
 ·simp[h'] at h ⊢;exact h
 ·simp[Array.getElem?_eq_none h'] at h
theorem QYk {st i:Nat}{oi:Oper}{v:Value}(hi:ops[i]? = some oi)(hsel:∀(j:Nat) (o:Oper) cs b,ops[j]? = some o→o.op≠.select cs b)(hw:Qcg md ops st i=true)(hQ:∀c a w,Q (.panic c) (a.put oi.dst v) w→Q (.panic c) a w):
  ∀(fuel:Nat) (listed:Array Bool) (a:Act) (w:World),
   (∀j oj,ops[j]? = some oj→j≠i→listed.getD j true=false→(∀e∈oj.after,Region.binds md e=true→e.on≠i)→oi.apart ops oj=true) →
   i∈Region.ready md ops listed→YieldsIf P ops S oi v a→S w →
   Qma P md ops Q S st fuel (listed.setIfInBounds i true) (a.put oi.dst v) w→Qma P md ops Q S st (fuel+1) listed a w:=by
 intro fuel
 induction fuel with
|zero=>
  intro listed a w _ hr hy hS H;refine⟨fun h=>(by rw[h] at hr;cases hr),fun j hj=>?_⟩;by_cases hji:j=i
  ·subst hji;exact hy.wpOp hi hS ⟨fun _=>hS,H⟩
  ·have:=ready_mono hj hji;rw[H.1] at this
   cases this
|succ fuel ih=>
  intro listed a w hfree hr hy hS H;refine⟨fun h=>(by rw[h] at hr;cases hr),fun j hj=>?_⟩;by_cases hji:j=i
  ·subst hji;exact hy.wpOp hi hS ⟨fun _=>hS,H⟩
  ·have hiun:=QYb (mem_ready.1 hr).1;have hjst:j≠st:=fun h=>QXb hw hiun (h▸hj)
   obtain⟨hjun,oj,hoj,hall⟩:=mem_ready.1 hj;have hnot:∀e∈oj.after,Region.binds md e=true→e.on≠i:=fun e he hb heq=>by
    have h1:=hall e he hb;rw[heq,hiun] at h1
    cases h1
   have hstep:=wpOp_putIf hoj (hfree j oj hoj hji hjun hnot) (fun cs b=>hsel i oi cs b hi) (fun cs b=>hsel j oj cs b hoj) hQ hy (H.2 j (ready_mono hj hji));refine wpOp_mono (fun a' w' h3=>⟨h3.2.1,ih (listed.setIfInBounds j true) a' w' ?_ (ready_mono hr (Ne.symm hji)) h3.1 (h3.2.1 hjst) ?_⟩) hstep
   ·intro k ok hk hki hun hno;refine hfree k ok hk hki ?_ hno;by_cases hjk:j=k
    ·subst hjk;exact hjun
    ·rw[getD_set_ne true hjk] at hun;exact hun
   ·rw[Array.setIfInBounds_comm _ _ hji];exact h3.2.2
theorem Qei {st i:Nat}{oi:Oper}{v:Value}{fuel:Nat}{listed:Array Bool}{a:Act}{w:World}(hi:ops[i]? = some oi)(hs:Region.noSelect ops=true)(hf:Region.free md ops listed i=true)(hr:(Region.ready md ops listed).contains i=true)(hw:Qcg md ops st i=true)(hQ:∀c a w,Q (.panic c) (a.put oi.dst v) w→Q (.panic c) a w)(hy:YieldsIf P ops S oi v a)(hS:S w)(h:Qma P md ops Q S st fuel (listed.setIfInBounds i true) (a.put oi.dst v) w):Qma P md ops Q S st (fuel+1) listed a w:=
 QYk hi (Region.noSelect_spec hs) hw hQ fuel listed a w (Region.free_spec hi hf) (by simpa using hr) hy hS h
theorem Qr {st:Nat}(i:Nat)(v:Value){oi:Oper}{fuel:Nat}{listed:Array Bool}{a:Act}{w:World}(hi:ops[i]? = some oi)(hs:Region.noSelect ops=true)(hf:Region.free md ops listed i=true)(hr:(Region.ready md ops listed).contains i=true)(hw:Qcg md ops st i=true)(hQ:∀c a w,Q (.panic c) (a.put oi.dst v) w→Q (.panic c) a w)(hS:S w)(hwant:Region.wanted oi (yielded ops a.tmps)=true)(hrun:∀w,S w→(execOp a.eval oi).run P w=.ok (.value v) w)(h:Qma P md ops Q S st fuel (listed.setIfInBounds i true) (a.put oi.dst v) w):Qma P md ops Q S st (fuel+1) listed a w:=
 Qei hi hs hf hr hw hQ (.inl ⟨hwant,hrun⟩) hS h
theorem Ql {i:Nat}{o:Oper}{K:Act→World→Prop}{a:Act}{w:World}(ho:ops[i]? = some o)(h:wpList P ops (Exit.then K Q) [o] a w):wpOp P ops Q i K a w:=by
 have key:o.wp P a w K (Exit.then K Q)→o.wp P a w K Q:=by
  unfold Oper.wp;generalize (execOp a.eval o).run P w=r
  cases r with
 |ok n w'=>cases n <;> exact fun h=>h
 |halt x w'=>cases x <;> exact fun h=>h
 unfold wpOp;rw[ho];show if Region.wanted o (yielded ops a.tmps) then o.wp P a w K Q∨(o.asks P a w∧LetsOut Q) else K (a.put o.dst undef) w
 have h':if Region.wanted o (yielded ops a.tmps) then o.wp P a w K (Exit.then K Q)∨(o.asks P a w∧LetsOut (Exit.then K Q)) else K (a.put o.dst undef) w:=h
 split
 ·rename_i hw;rw[if_pos hw] at h';exact h'.imp key id
 ·rename_i hw;rw[if_neg hw] at h';exact h'
theorem Qh {st:Nat}{rs:List Nat}{fuel:Nat}{listed:Array Bool}{a:Act}{w:World}(hr:Region.ready md ops listed=rs)(hne:rs≠[])(h:∀i∈rs,wpOp P ops Q i (fun a' w'=>(i≠st→S w')∧Qma P md ops Q S st fuel (listed.setIfInBounds i true) a' w') a w):Qma P md ops Q S st (fuel+1) listed a w:=
 ⟨fun h0=>absurd (hr▸h0) hne,hr▸h⟩
theorem Qu {st:Nat}{listed:Array Bool}{a:Act}{w:World}(hr:Region.ready md ops listed=[])(h:Q .normal a w):∀fuel,Qma P md ops Q S st fuel listed a w
|0=>⟨hr,h⟩
|_+1=>⟨fun _=>h,by rw[hr];simp⟩
theorem QDl {st:Nat}{id:Nat}{a:Act}{w:World}(hm:P.follows .mixedOrders=true)(h:Qma P .any ops Q S st ops.size (Array.replicate ops.size false) a { w with drawn:=w.drawn+1 }):(Code.region id ops true).wp P Q a w:=
 wp_region_any hm (QKi _ _ _ _ h)
end
theorem Zt {P:Program} {md:Region.Mode} {ops:Array Oper} {Q:Exit→Act→World→Prop} {S:World→Prop} {st:Nat} (i:Nat) {fuel:Nat} {listed:Array Bool} {a:Act} {w:World} (h:wpOp P ops Q i (fun a' w'=>(i≠st→S w')∧Qma P md ops Q S st fuel (listed.setIfInBounds i true) a' w') a w) (hr:Region.ready md ops listed=[i]:=by kernel_rfl):Qma P md ops Q S st (fuel+1) listed a w:=
 Qh hr ZS fun j hj=>by
  obtain rfl:j=i:=by simpa using hj
  exact h
theorem Zp {P:Program} {md:Region.Mode} {ops:Array Oper} {Q:Exit→Act→World→Prop} {S:World→Prop} {st:Nat} (i:Nat) (v:Value) {oi:Oper} {fuel:Nat} {listed:Array Bool} {a:Act} {w:World} (hS:S w) (hrun:∀w,S w→(execOp a.eval oi).run P w=.ok (.value v) w) (h:Qma P md ops Q S st fuel (listed.setIfInBounds i true) (a.put oi.dst v) w) (hi:ops[i]? = some oi:=by rfl) (hs:Region.noSelect ops=true:=by kernel_rfl) (hf:Region.free md ops listed i=true:=by kernel_rfl) (hr:(Region.ready md ops listed).contains i=true:=by kernel_rfl) (hw:Qcg md ops st i=true:=by kernel_rfl) (hQ:∀c a w,Q (.panic c) (a.put oi.dst v) w→Q (.panic c) a w:=by exact fun _ _ _ h=>h) (hwant:Region.wanted oi (yielded ops a.tmps)=true:=by rfl):Qma P md ops Q S st (fuel+1) listed a w:=Qr i v hi hs hf hr hw hQ hS hwant hrun h
theorem Yp {P:Program} {md:Region.Mode} {ops:Array Oper} {Q:Exit→Act→World→Prop} {S:World→Prop} {st:Nat} (i:Nat) {v:Value} {oi:Oper} {fuel:Nat} {listed:Array Bool} {a:Act} {w:World} (h:Qma P md ops Q S st fuel (listed.setIfInBounds i true) (a.put oi.dst v) w) (hi:ops[i]? = some oi:=by rfl) (hS:S w:=by exact hS0) (hrun:∀w,S w→(execOp a.eval oi).run P w=.ok (.value v) w:=by intro w hS;(try simp only[and_assoc] at hS);repeat (obtain⟨_,hS⟩:_∧_:=hS);go_simp;rfl) (hs:Region.noSelect ops=true:=by kernel_rfl) (hf:Region.free md ops listed i=true:=by kernel_rfl) (hr:(Region.ready md ops listed).contains i=true:=by kernel_rfl) (hw:Qcg md ops st i=true:=by kernel_rfl) (hQ:∀c a w,Q (.panic c) (a.put oi.dst v) w→Q (.panic c) a w:=by exact fun _ _ _ h=>h) (hwant:Region.wanted oi (yielded ops a.tmps)=true:=by rfl):Qma P md ops Q S st (fuel+1) listed a w:=Qr i v hi hs hf hr hw hQ hS hwant hrun h
end
section
open Go
theorem QK {P:Program}{ops:Array Oper}{Q:Exit→Act→World→Prop}{S:World→Prop}{st:Nat}{id:Nat}{a:Act}{w:World}(hm:P.follows .mixedOrders=true)(h:Qma P .any ops Q S st ops.size (Array.replicate ops.size false) a (w.drewN 1)):(Code.region id ops true).wp P Q a w:=QDl hm h
theorem Zr {P:Program} {ops:Array Oper} {Q:Exit→Act→World→Prop} {id:Nat} {a:Act} {w:World} (S:World→Prop) (st:Nat) (h0:S (w.drewN 1)) (h:S (w.drewN 1)→Qma P .any ops Q S st ops.size (Array.replicate ops.size false) a (w.drewN 1)) (hm:P.follows .mixedOrders=true:=by kernel_rfl):(Code.region id ops true).wp P Q a w:=QK hm (h h0)
end
section
open Go
theorem Qba (t:Array Value)(d:List Deferred)(i:Nat)(v:Value):Act.put ⟨t,d⟩ (some i) v=⟨t.setIfInBounds i v,d⟩:=rfl
theorem Qaa (a:Act)(v:Value):Act.put a none v=a:=rfl
section
variable {P:Program} {ops:Array Oper} {Q:Exit→Act→World→Prop} {md:Region.Mode} {S:World→Prop}
theorem Qfi {st:Nat}(i:Nat)(d:Option Tmp){oi:Oper}{fuel:Nat}{listed:Array Bool}{a:Act}{w:World}(hi:ops[i]? = some oi)(hs:Region.noSelect ops=true)(hf:Region.free md ops listed i=true)(hr:(Region.ready md ops listed).contains i=true)(hw:Qcg md ops st i=true)(hQ:∀c a w,Q (.panic c) (a.put oi.dst undef) w→Q (.panic c) a w)(hS:S w)(hwant:Region.wanted oi (yielded ops a.tmps)=false)(hd:oi.dst=d)(h:Qma P md ops Q S st fuel (listed.setIfInBounds i true) (a.put d undef) w):Qma P md ops Q S st (fuel+1) listed a w:=
 Qei hi hs hf hr hw hQ (.inr ⟨hwant,rfl⟩) hS (hd▸h)
def QQe (md:Region.Mode)(ops:Array Oper)(st:Nat):Nat→List Nat→Bool
|i,[]=>Qcg md ops st i
|i,c::r=>Qcg md ops c i&&QQe md ops st c r
theorem QNj {st:Nat}{listed:Array Bool}:∀(cs:List Nat) (i:Nat),QQe md ops st i cs=true→listed.getD i true=false→(∀c∈cs,listed.getD c true=false)→(∀c∈cs,c∉Region.ready md ops listed)∧st∉Region.ready md ops listed
|[],i,h,hi,_=>⟨(fun c hc=>by cases hc),fun hr=>QXb h (QYb hi) hr⟩
|c::r,i,h,hi,hc=>by
  unfold QQe at h
  simp only[Bool.and_eq_true] at h
  have h1:=QNj r c h.2 (hc c ZS) (fun d hd=>hc d (by simp[hd]))
  refine⟨fun d hd=>?_,h1.2⟩
  rcases List.mem_cons.1 hd with rfl|hd
  ·exact fun hr=>QXb h.1 (QYb hi) hr
  ·exact h1.1 d hd
theorem Qbg {st i:Nat}{oi:Oper}{v:Value}(cs:List Nat)(hi:ops[i]? = some oi)(hsel:∀(j:Nat) (o:Oper) cs b,ops[j]? = some o→o.op≠.select cs b)(hw:QQe md ops st i cs=true)(hQ:∀c a w,Q (.panic c) (a.put oi.dst v) w→Q (.panic c) a w):
  ∀(fuel:Nat) (listed:Array Bool) (a:Act) (w:World),
   (∀j oj,ops[j]? = some oj→j≠i→listed.getD j true=false→(∀e∈oj.after,Region.binds md e=true→e.on≠i)→oi.apart ops oj=true) →
   (∀c∈cs,listed.getD c true=false) →
   i∈Region.ready md ops listed→YieldsIf P ops S oi v a→S w →
   Qma P md ops Q S st fuel (listed.setIfInBounds i true) (a.put oi.dst v) w→Qma P md ops Q S st (fuel+1) listed a w:=by
 intro fuel
 induction fuel with
|zero=>
  intro listed a w _ _ hr hy hS H;refine⟨fun h=>(by rw[h] at hr;cases hr),fun j hj=>?_⟩;by_cases hji:j=i
  ·subst hji;exact hy.wpOp hi hS ⟨fun _=>hS,H⟩
  ·have:=ready_mono hj hji;rw[H.1] at this
   cases this
|succ fuel ih=>
  intro listed a w hfree hcs hr hy hS H;refine⟨fun h=>(by rw[h] at hr;cases hr),fun j hj=>?_⟩;by_cases hji:j=i
  ·subst hji;exact hy.wpOp hi hS ⟨fun _=>hS,H⟩
  ·have hiun:=QYb (mem_ready.1 hr).1;have hno:=QNj cs i hw (mem_ready.1 hr).1 hcs;have hjst:j≠st:=fun h=>hno.2 (h▸hj)
   have hjc:∀c∈cs,j≠c:=fun c hc h=>hno.1 c hc (h▸hj)
   obtain⟨hjun,oj,hoj,hall⟩:=mem_ready.1 hj;have hnot:∀e∈oj.after,Region.binds md e=true→e.on≠i:=fun e he hb heq=>by
    have h1:=hall e he hb;rw[heq,hiun] at h1
    cases h1
   have hstep:=wpOp_putIf hoj (hfree j oj hoj hji hjun hnot) (fun cs b=>hsel i oi cs b hi) (fun cs b=>hsel j oj cs b hoj) hQ hy (H.2 j (ready_mono hj hji));refine wpOp_mono (fun a' w' h3=>⟨h3.2.1,ih (listed.setIfInBounds j true) a' w' ?_ ?_ (ready_mono hr (Ne.symm hji)) h3.1 (h3.2.1 hjst) ?_⟩) hstep
   ·intro k ok hk hki hun hno;refine hfree k ok hk hki ?_ hno;by_cases hjk:j=k
    ·subst hjk;exact hjun
    ·rw[getD_set_ne true hjk] at hun;exact hun
   ·intro c hc;rw[getD_set_ne true (hjc c hc)];exact hcs c hc
   ·rw[Array.setIfInBounds_comm _ _ hji];exact h3.2.2
theorem Qk {st:Nat}(i:Nat)(d:Option Tmp)(cs:List Nat)(v:Value){oi:Oper}{fuel:Nat}{listed:Array Bool}{a:Act}{w:World}(hi:ops[i]? = some oi)(hs:Region.noSelect ops=true)(hf:Region.free md ops listed i=true)(hr:(Region.ready md ops listed).contains i=true)(hw:(QQe md ops st i cs&&cs.all fun c=>!listed.getD c true)=true)(hQ:∀c a w,Q (.panic c) (a.put oi.dst v) w→Q (.panic c) a w)(hS:S w)(hwant:Region.wanted oi (yielded ops a.tmps)=true)(hd:oi.dst=d)(hrun:∀w,S w→(execOp a.eval oi).run P w=.ok (.value v) w)(h:Qma P md ops Q S st fuel (listed.setIfInBounds i true) (a.put d v) w):Qma P md ops Q S st (fuel+1) listed a w:=by
 subst hd;simp only[Bool.and_eq_true,List.all_eq_true,Bool.not_eq_true'] at hw;exact Qbg cs hi (Region.noSelect_spec hs) hw.1 hQ fuel listed a w (Region.free_spec hi hf) hw.2 (by simpa using hr) (.inl ⟨hwant,hrun⟩) hS h
theorem Qm {st:Nat}(i:Nat)(d:Option Tmp)(v:Value){oi:Oper}{fuel:Nat}{listed:Array Bool}{a:Act}{w:World}(hi:ops[i]? = some oi)(hs:Region.noSelect ops=true)(hf:Region.free md ops listed i=true)(hr:(Region.ready md ops listed).contains i=true)(hw:Qcg md ops st i=true)(hQ:∀c a w,Q (.panic c) (a.put oi.dst v) w→Q (.panic c) a w)(hS:S w)(hwant:Region.wanted oi (yielded ops a.tmps)=true)(hd:oi.dst=d)(hrun:∀w,S w→(execOp a.eval oi).run P w=.ok (.value v) w)(h:Qma P md ops Q S st fuel (listed.setIfInBounds i true) (a.put d v) w):Qma P md ops Q S st (fuel+1) listed a w:=by
 subst hd;exact Qr i v hi hs hf hr hw hQ hS hwant hrun h
theorem QP {st:Nat}(i:Nat)(d:Option Tmp)(fn:FuncId)(vals:Array Value){oi:Oper}{fuel:Nat}{listed:Array Bool}{a:Act}{w:World}(hi:ops[i]? = some oi)(hr:Region.ready md ops listed=[i])(hwant:Region.wanted oi (yielded ops a.tmps)=true)(hrun:(execOp a.eval oi).run P w=.ok (.enter fn vals) w)(hd:oi.dst=d)(hc:Calls P fn vals w fun e w'=>∃v,e=.returned v∧(i≠st→S w')∧Qma P md ops Q S st fuel (listed.setIfInBounds i true) (a.put d v) w'):Qma P md ops Q S st (fuel+1) listed a w:=by
 subst hd;refine Qh hr ZS fun j hj=>?_
 obtain rfl:j=i:=by simpa using hj
 unfold wpOp;rw[hi];show if Region.wanted oi (yielded ops a.tmps) then _ else _
 rw[if_pos hwant];left;unfold Oper.wp;rw[hrun,Oper.upon_enter];refine hc.mono ?_;rintro e w' ⟨v,rfl,h1,h2⟩;exact⟨h1,h2⟩
theorem Qeb {st:Nat}(i:Nat)(d:Option Tmp)(w':World){oi:Oper}{fuel:Nat}{listed:Array Bool}{a:Act}{w:World}(hi:ops[i]? = some oi)(hr:Region.ready md ops listed=[i])(hwant:Region.wanted oi (yielded ops a.tmps)=true)(hrun:(execOp a.eval oi).run P w=.ok .skip w')(hd:oi.dst=d)(hS:i≠st→S w')(h:Qma P md ops Q S st fuel (listed.setIfInBounds i true) (a.put d undef) w'):Qma P md ops Q S st (fuel+1) listed a w:=by
 subst hd;refine Qh hr ZS fun j hj=>?_
 obtain rfl:j=i:=by simpa using hj
 unfold wpOp;rw[hi];show if Region.wanted oi (yielded ops a.tmps) then _ else _
 rw[if_pos hwant];left;unfold Oper.wp;rw[hrun,Oper.upon_skip];exact⟨hS,h⟩
theorem QW {st:Nat}(i:Nat)(d:Option Tmp)(v:Value)(w':World){oi:Oper}{fuel:Nat}{listed:Array Bool}{a:Act}{w:World}(hi:ops[i]? = some oi)(hr:Region.ready md ops listed=[i])(hwant:Region.wanted oi (yielded ops a.tmps)=true)(hrun:(execOp a.eval oi).run P w=.ok (.value v) w')(hd:oi.dst=d)(hS:i≠st→S w')(h:Qma P md ops Q S st fuel (listed.setIfInBounds i true) (a.put d v) w'):Qma P md ops Q S st (fuel+1) listed a w:=by
 subst hd;refine Qh hr ZS fun j hj=>?_
 obtain rfl:j=i:=by simpa using hj
 unfold wpOp;rw[hi];show if Region.wanted oi (yielded ops a.tmps) then _ else _
 rw[if_pos hwant];left;unfold Oper.wp;rw[hrun,Oper.upon_value];exact⟨hS,h⟩
end
theorem Zc {P:Program} {md:Region.Mode} {ops:Array Oper} {Q:Exit→Act→World→Prop} {S:World→Prop} {st:Nat} (i:Nat) (d:Option Tmp) (cs:List Nat) (v:Value) {oi:Oper} {fuel:Nat} {listed:Array Bool} {a:Act} {w:World} (hS:S w) (hrun:∀w,S w→(execOp a.eval oi).run P w=.ok (.value v) w) (h:Qma P md ops Q S st fuel (listed.setIfInBounds i true) (a.put d v) w) (hi:ops[i]? = some oi:=by rfl) (hs:Region.noSelect ops=true:=by kernel_rfl) (hf:Region.free md ops listed i=true:=by kernel_rfl) (hr:(Region.ready md ops listed).contains i=true:=by kernel_rfl) (hw:(QQe md ops st i cs&&cs.all fun c=>!listed.getD c true)=true:=by kernel_rfl) (hQ:∀c a w,Q (.panic c) (a.put oi.dst v) w→Q (.panic c) a w:=by exact fun _ _ _ h=>h) (hwant:Region.wanted oi (yielded ops a.tmps)=true:=by kernel_rfl) (hd:oi.dst=d:=by rfl):Qma P md ops Q S st (fuel+1) listed a w:=Qk i d cs v hi hs hf hr hw hQ hS hwant hd hrun h
theorem Zd {P:Program} {md:Region.Mode} {ops:Array Oper} {Q:Exit→Act→World→Prop} {S:World→Prop} {st:Nat} (i:Nat) (d:Option Tmp) (v:Value) {oi:Oper} {fuel:Nat} {listed:Array Bool} {a:Act} {w:World} (hS:S w) (hrun:∀w,S w→(execOp a.eval oi).run P w=.ok (.value v) w) (h:Qma P md ops Q S st fuel (listed.setIfInBounds i true) (a.put d v) w) (hi:ops[i]? = some oi:=by rfl) (hs:Region.noSelect ops=true:=by kernel_rfl) (hf:Region.free md ops listed i=true:=by kernel_rfl) (hr:(Region.ready md ops listed).contains i=true:=by kernel_rfl) (hw:Qcg md ops st i=true:=by kernel_rfl) (hQ:∀c a w,Q (.panic c) (a.put oi.dst v) w→Q (.panic c) a w:=by exact fun _ _ _ h=>h) (hwant:Region.wanted oi (yielded ops a.tmps)=true:=by kernel_rfl) (hd:oi.dst=d:=by rfl):Qma P md ops Q S st (fuel+1) listed a w:=Qm i d v hi hs hf hr hw hQ hS hwant hd hrun h
theorem Yc {P:Program} {md:Region.Mode} {ops:Array Oper} {Q:Exit→Act→World→Prop} {S:World→Prop} {st:Nat} (i d:Nat) (cs:List Nat) {v:Value} {oi:Oper} {fuel:Nat} {listed:Array Bool} {a:Act} {w:World} (h:Qma P md ops Q S st fuel (listed.setIfInBounds i true) (a.put (some d) v) w) (hi:ops[i]? = some oi:=by rfl) (hS:S w:=by exact hS0) (hrun:∀w,S w→(execOp a.eval oi).run P w=.ok (.value v) w:=by intro w hS;(try simp only[and_assoc] at hS);repeat (obtain⟨_,hS⟩:_∧_:=hS);go_simp;rfl) (hs:Region.noSelect ops=true:=by kernel_rfl) (hf:Region.free md ops listed i=true:=by kernel_rfl) (hr:(Region.ready md ops listed).contains i=true:=by kernel_rfl) (hw:(QQe md ops st i cs&&cs.all fun c=>!listed.getD c true)=true:=by kernel_rfl) (hQ:∀c a w,Q (.panic c) (a.put oi.dst v) w→Q (.panic c) a w:=by exact fun _ _ _ h=>h) (hwant:Region.wanted oi (yielded ops a.tmps)=true:=by kernel_rfl) (hd:oi.dst=some d:=by rfl):Qma P md ops Q S st (fuel+1) listed a w:=Qk i (some d) cs v hi hs hf hr hw hQ hS hwant hd hrun h
theorem Yd {P:Program} {md:Region.Mode} {ops:Array Oper} {Q:Exit→Act→World→Prop} {S:World→Prop} {st:Nat} (i d:Nat) {v:Value} {oi:Oper} {fuel:Nat} {listed:Array Bool} {a:Act} {w:World} (h:Qma P md ops Q S st fuel (listed.setIfInBounds i true) (a.put (some d) v) w) (hi:ops[i]? = some oi:=by rfl) (hS:S w:=by exact hS0) (hrun:∀w,S w→(execOp a.eval oi).run P w=.ok (.value v) w:=by intro w hS;(try simp only[and_assoc] at hS);repeat (obtain⟨_,hS⟩:_∧_:=hS);go_simp;rfl) (hs:Region.noSelect ops=true:=by kernel_rfl) (hf:Region.free md ops listed i=true:=by kernel_rfl) (hr:(Region.ready md ops listed).contains i=true:=by kernel_rfl) (hw:Qcg md ops st i=true:=by kernel_rfl) (hQ:∀c a w,Q (.panic c) (a.put oi.dst v) w→Q (.panic c) a w:=by exact fun _ _ _ h=>h) (hwant:Region.wanted oi (yielded ops a.tmps)=true:=by kernel_rfl) (hd:oi.dst=some d:=by rfl):Qma P md ops Q S st (fuel+1) listed a w:=Qm i (some d) v hi hs hf hr hw hQ hS hwant hd hrun h
theorem Zs {P:Program} {md:Region.Mode} {ops:Array Oper} {Q:Exit→Act→World→Prop} {S:World→Prop} {st:Nat} (i:Nat) (d:Option Tmp) {oi:Oper} {fuel:Nat} {listed:Array Bool} {a:Act} {w:World} (hS:S w) (h:Qma P md ops Q S st fuel (listed.setIfInBounds i true) (a.put d undef) w) (hi:ops[i]? = some oi:=by rfl) (hs:Region.noSelect ops=true:=by kernel_rfl) (hf:Region.free md ops listed i=true:=by kernel_rfl) (hr:(Region.ready md ops listed).contains i=true:=by kernel_rfl) (hw:Qcg md ops st i=true:=by kernel_rfl) (hQ:∀c a w,Q (.panic c) (a.put oi.dst undef) w→Q (.panic c) a w:=by exact fun _ _ _ h=>h) (hwant:Region.wanted oi (yielded ops a.tmps)=false:=by kernel_rfl) (hd:oi.dst=d:=by rfl):Qma P md ops Q S st (fuel+1) listed a w:=Qfi i d hi hs hf hr hw hQ hS hwant hd h
end
section
open Go.RowKit
variable [Base]
theorem QZp (l:List Str):(l.map sv).all Value.oneCell'=true:=by
 rw[List.all_eq_true];intro x hx;obtain⟨y,_,rfl⟩:=List.mem_map.1 hx;rfl
theorem QCn {B:Nat}{w:World}(kw:KwIn B w)(hB:B≤w.heap.size)(s:QD)(u t:Value)(hu:Qea w u s.uses)(ht:Qea w t s.targets)(hf:(s.uses.length+s.targets.length+1)*16≤140737488355328):
  Calls Tryz.prog 189 #[.agg #[iv s.op,sv s.dfn,u,t]] w (Qia (stmtB s) w):=by
 obtain⟨ua,uc,rfl,-,-⟩:=hu.cell;obtain⟨ta,tc,rfl,-,-⟩:=ht.cell;rw[QYi];obtain⟨op,d,us,ts⟩:=s;simp only[] at hu ht hf ⊢;have HP:=Zh (show QHh ⟨op,d,us,ts⟩=(opK op&&((dfnB op||d.isEmpty)&&(decide ((us.length:Int)=useN op us.length)&&(decide (useN op us.length≤4)&&(decide ((ts.length:Int)=tgtN op)&&(us++ts++(if dfnB op then [d] else [])).all QV))))) from rfl);obtain⟨R,hR⟩:=Ze (QHh ⟨op,d,us,ts⟩);rw[hR] at HP ⊢;clear hR;obtain⟨n,hn⟩:=Ze us.length;obtain⟨m,hm⟩:=Ze ts.length;rw[hn] at hu hf HP ⊢;rw[hm] at ht hf HP ⊢;have HU:=Zh hu;have HT:=Zh ht;have HN:=Zh hn;have HM:=Zh hm;have KK:=Zh kw;have HF:=Zh hf;obtain⟨W,hW⟩:=Ze (w.alloc (.cells #[iv op,sv d,.slice ua n uc,.slice ta m tc] 94));have HB0:=Zh (show W.heap[w.heap.size]? = some (.cells #[iv op,sv d,.slice ua n uc,.slice ta m tc] 94 (0,0)) by rw[←hW];exact heap_alloc_new _ _);have B0:=Zh (show Below w.heap.size w W by rw[←hW];exact Zb);have HW:=Zh hW;obtain⟨x0,x1,x2,x3⟩:=Qt HB0.o;clear hu ht hn hm kw hf hW;go_enter Tryz.func189,Tryz.ntmps189;go_upto_region 1 with(fail)
 rw[show w.alloc (.cells #[iv op,sv d,.slice ua n uc,.slice ta m tc] 94)=W from HW.o];go_quiet (fail);go_upto_block 0 with fail
 obtain⟨W1,hW1⟩:=Ze (W.drewN nq);have HB1:=Zh (show W1.heap[w.heap.size]? = some (.cells #[iv op,sv d,.slice ua n uc,.slice ta m tc] 94 (0,0)) by rw[←hW1];exact HB0.o);have B1:=Zh (show Below w.heap.size w W1 by rw[←hW1];exact below_drewN B0.o nq);rw[hW1];clear hW1 x0 x1 x2 x3;obtain⟨x0,x1,x2,x3⟩:=Qt HB1.o;go_cut [3,4,5] from 10 to 36 (fun s3 s4 s5 wx=>s3=iv (if dfnB op then 1 else 0)∧s4=iv (useN op n)∧s5=iv (tgtN op)∧opK op=true∧W1=wx)
 case first=>
  have hc:op=1∨op=2∨op=3∨op=4∨op=5∨op=6∨op=7∨op=8∨op=9∨¬(1≤op∧op≤9):=by omega
  rcases hc with rfl|rfl|rfl|rfl|rfl|rfl|rfl|rfl|rfl|hc
  rotate_left 9
  ·have h1:op≠1:=by omega
   have h2:op≠2:=by omega
   have h3:op≠3:=by omega
   have h4:op≠4:=by omega
   have h5:op≠5:=by omega
   have h6:op≠6:=by omega
   have h7:op≠7:=by omega
   have h8:op≠8:=by omega
   have h9:op≠9:=by omega
   have HR:=Zh (show R=false by
    rw[HP.o,show opK op=false from by unfold opK;rw[Bool.eq_false_iff];simp;omega];rfl)
   clear hc;go_wp2;go_ret;exact⟨by rw[HR.o];rfl,B1.o⟩
  all_goals go_wp2
  all_goals
   go_meet
   case rel=>exact⟨rfl,by first|rfl|(unfold useN;simp;try omega),rfl,rfl,rfl⟩
 case rest=>
  obtain⟨rfl,rfl,rfl,hok,rfl⟩:=hcut;have HOK:=Zh hok;have hWz:w.heap.size<W1.heap.size:=Qb HB1.o;have HUW:=Zh (Qg.same HU.o (Qf.below B1.o));have HTW:=Zh (Qg.same HT.o (Qf.below B1.o));have CL:=Zh (fun k=>Qor (.slice ua n uc) n (us.map sv) (W1.drewN k) (Qg.same HUW.o Qf.drewN) (by have:=HN.o;rw[List.length_map];omega) (QZp us) (by have:=HF.o;omega));clear hok;obtain⟨D,hD⟩:=Ze (dfnB op);rw[hD] at HP ⊢;clear hD;obtain⟨q,hq⟩:∃q:Int,(if D=true then 1 else 0)=q:=⟨_,rfl⟩;have HQ:=Zh hq;rw[hq];clear hq;go_upto_region 24 with(fail)
  refine QK (S:=(fun w'=>w'.cell? ⟨w.heap.size,2,none⟩=some (.slice ua n uc)∧w'.cell? ⟨w.heap.size,3,none⟩=some (.slice ta m tc))) (st:=6) ZK ?_;refine Qr 0 ?z1 rfl ZK ZK ZK ZK (fun _ _ _ h=>h) ⟨x2,x3⟩ rfl ?rz1 ?sz1
  case rz1=>intro w hS;have hS1:=hS.1;have hS2:=hS.2;go_simp;rfl
  case sz1=>
  refine Qr 1 ?z2 rfl ZK ZK ZK ZK (fun _ _ _ h=>h) ⟨x2,x3⟩ rfl ?rz2 ?sz2
  case rz2=>intro w hS;have hS1:=hS.1;have hS2:=hS.2;go_simp;rfl
  case sz2=>
  refine Qr 3 ?z3 rfl ZK ZK ZK ZK (fun _ _ _ h=>h) ⟨x2,x3⟩ rfl ?rz3 ?sz3
  case rz3=>intro w hS;have hS1:=hS.1;have hS2:=hS.2;go_simp;rfl
  case sz3=>
  refine Qr 4 ?z4 rfl ZK ZK ZK ZK (fun _ _ _ h=>h) ⟨x2,x3⟩ rfl ?rz4 ?sz4
  case rz4=>intro w hS;have hS1:=hS.1;have hS2:=hS.2;go_simp;rfl
  case sz4=>
  refine Zt 2 ?_;refine Ql rfl ?_;go_wp2_with fail;refine(CL.o 1).mono ?_;rintro e w2 ⟨ga,gc,rfl,own2,b2⟩;have B2:Hid (Below W1.heap.size W1 w2):=⟨b2.os,b2.tape,b2.output,b2.size,b2.block⟩;have OW2:Hid (w2.ownsRow W1.heap.size 9 1 (.slice ga n gc) n (us.map sv)):=own2;have HB2:=Zh ((B2.o.block _ hWz).trans HB1.o);clear own2 b2 x0 x1 x2 x3 CL;obtain⟨x0,x1,x2,x3⟩:=Qt HB2.o;go_wp2;refine⟨fun _=>⟨x2,x3⟩,?_⟩;refine Zt 5 ?_;refine Ql rfl ?_;refine wpList_append_sl rfl _ _ 86 rfl W1.heap.size 9 _ 1 16 Tryz.underlying86 Qph rfl ZD _ _ _ OW2.o rfl _ m (ts.map sv) rfl (Qg.same HTW.o (Qf.below B2.o)) (by have:=HM.o;rw[List.length_map];omega) (QZp ts) (by have:=HF.o;unfold maxLen;omega) (by have:=HF.o;omega) (by have:=B2.o.size;omega) ?_;intro g d3 w3 own3 gr3;have OW3:Hid (w3.ownsRow W1.heap.size 9 1 (.slice g (n+m) d3) (n+m) (us.map sv++ts.map sv)):=own3;have B3:=Zh (Below.of_grown gr3 OW2.o (by have:=B2.o.size;omega));have HB3:=Zh ((B3.o.block _ hWz).trans HB2.o);clear own3 gr3 x0 x1 x2 x3;obtain⟨x0,x1,x2,x3⟩:=Qt HB3.o;go_wp2;refine⟨fun _=>⟨x2,x3⟩,?_⟩;refine Zt 6 ?_;refine Ql rfl ?_;go_wp2;refine⟨fun h=>absurd rfl h,?_⟩;refine Qu ZK ?_ _;have BW:=Zh (B1.o.trans ((B2.o.trans B3.o).mono (Nat.le_of_lt hWz)));have hz3:W1.heap.size≤w3.heap.size:=Nat.le_trans B2.o.size B3.o.size;have HSA:=Zh (show Qea w3 (.slice g (n+m) d3) (us++ts) from by have h2:=Qg.of_owns OW3.o;unfold Qea;rw[List.map_append];exact h2);obtain⟨un,hun⟩:=Ze (useN op n);obtain⟨tn,htn⟩:=Ze (tgtN op);rw[hun,htn,HOK.o] at HP;rw[hun,htn];clear hun htn;have hq:=HQ.o
  cases D with
 |false=>
   obtain rfl:(0:Int)=q:=hq;clear HQ;go_wp2_with fail
   ·have h0:d=[]:=by assumption
    have h1:(n:Int)=un:=by assumption
    have h2:un≤4:=by assumption
    have h3:(m:Int)=tn:=by assumption
    have HR:=Zh (show R=(us++ts).all QV by rw[HP.o,h0,decide_eq_true h1,decide_eq_true h2,decide_eq_true h3];simp);refine(Qhg (us++ts) _ _ HSA.o (KK.o.at_ (BW.o.mono hB))).mono ?_;rintro e w5 ⟨rfl,k5,rfl⟩;rw[←HR.o];clear h0 h1 h2 h3 HR
    cases R
    ·go_wp2;go_ret;exact⟨rfl,below_drewN BW.o k5⟩
    ·go_wp2;go_ret;exact⟨rfl,below_drewN BW.o k5⟩
   ·have BW4:=Zh BW.o;have h3:¬(m:Int)=tn:=by assumption
    have HR:=Zh (show R=false by rw[HP.o,decide_eq_false h3];simp);go_ret;exact⟨by rw[HR.o];rfl,BW4.o⟩
   ·have BW4:=Zh BW.o;have h3:4<un:=by assumption
    have HR:=Zh (show R=false by rw[HP.o,decide_eq_false (show ¬un≤4 by omega)];simp);go_ret;exact⟨by rw[HR.o];rfl,BW4.o⟩
   ·have BW4:=Zh BW.o;have h3:¬(n:Int)=un:=by assumption
    have HR:=Zh (show R=false by rw[HP.o,decide_eq_false h3];simp);go_ret;exact⟨by rw[HR.o];rfl,BW4.o⟩
   ·have BW4:=Zh BW.o;have h3:¬d=[]:=by assumption
    have HR:=Zh (show R=false by rw[HP.o,show d.isEmpty=false by cases d;exact absurd rfl h3;rfl];simp);go_ret;exact⟨by rw[HR.o];rfl,BW4.o⟩
 |true=>
   obtain rfl:(1:Int)=q:=hq;clear HQ;go_wp2_with (at_builtin;refine Qcb [sv d] rfl _ _ 86 rfl W1.heap.size 9 _ 1 16 Tryz.underlying86 Qph rfl ZD _ _ _ OW3.o rfl _ rfl ZS rfl rfl (by have:=HF.o;unfold maxLen;omega) (by have:=HF.o;omega) ZO ?_;intro g4 c4 w4 own4 g1 g2 g3;have OW4:=Zh own4;have B4:=Zh (Below.of_grown g1 OW3.o ZO);have HB4:=Zh ((B4.o.block _ hWz).trans HB3.o);clear own4 g1 g2 g3 x0 x1 x2 x3;obtain⟨x0,x1,x2,x3⟩:=Qt HB4.o)
   ·have BW4:=Zh (BW.o.trans (B4.o.mono (Nat.le_of_lt hWz)));have h1:(n:Int)=un:=by assumption
    have h2:un≤4:=by assumption
    have h3:(m:Int)=tn:=by assumption
    have HR:=Zh (show R=(us++ts++[d]).all QV by rw[HP.o,decide_eq_true h1,decide_eq_true h2,decide_eq_true h3];simp);refine(Qhg (us++ts++[d]) _ _ ?_ (KK.o.at_ (BW4.o.mono hB))).mono ?_
    ·have h2:=Qg.of_owns OW4.o;unfold Qea
     simpa using h2
    rintro e w5 ⟨rfl,k5,rfl⟩;rw[←HR.o];clear h1 h2 h3 HR
    cases R
    ·go_wp2;go_ret;exact⟨rfl,below_drewN BW4.o k5⟩
    ·go_wp2;go_ret;exact⟨rfl,below_drewN BW4.o k5⟩
   ·have BW4:=Zh (BW.o.trans (B4.o.mono (Nat.le_of_lt hWz)));have h3:¬(m:Int)=tn:=by assumption
    have HR:=Zh (show R=false by rw[HP.o,decide_eq_false h3];simp);go_ret;exact⟨by rw[HR.o];rfl,BW4.o⟩
   ·have BW4:=Zh (BW.o.trans (B4.o.mono (Nat.le_of_lt hWz)));have h3:4<un:=by assumption
    have HR:=Zh (show R=false by rw[HP.o,decide_eq_false (show ¬un≤4 by omega)];simp);go_ret;exact⟨by rw[HR.o];rfl,BW4.o⟩
   ·have BW4:=Zh (BW.o.trans (B4.o.mono (Nat.le_of_lt hWz)));have h3:¬(n:Int)=un:=by assumption
    have HR:=Zh (show R=false by rw[HP.o,decide_eq_false h3];simp);go_ret;exact⟨by rw[HR.o];rfl,BW4.o⟩
end
section
open Go.RowKit
variable [Base]
theorem rname_sv (s:Str)(w:World):Calls Tryz.prog 175 #[sv s] w (Qde (QV s) w):=Qsk ⟨s.toArray⟩ w
theorem QLo {f:Qo}(h:QV f.name=false):QNc f=false:=by unfold QNc;rw[h];rfl
theorem Qer (f:Qo)(h:f.blocks.length<1):QNc f=false:=by
 unfold QNc;rw[show decide (1≤f.blocks.length)=false from decide_eq_false ZO];simp
theorem QMo (f:Qo)(h:16<f.blocks.length):QNc f=false:=by
 unfold QNc;rw[show decide (f.blocks.length≤16)=false from decide_eq_false ZO];simp
theorem Qys (f:Qo)(h:QV f.name=true)(h1:1≤f.blocks.length)(h2:f.blocks.length≤16):QNc f=f.blocks.all Qoc:=by
 unfold QNc;rw[h];simp[h1,h2]
theorem Qon {f:QI}(h:QV f.name=false):Qoc f=false:=by unfold Qoc;rw[h];rfl
theorem QZo (f:QI)(h:f.stmts.length<1):Qoc f=false:=by
 unfold Qoc;rw[show decide (1≤f.stmts.length)=false from decide_eq_false ZO];simp
theorem Qpn (f:QI)(h:32<f.stmts.length):Qoc f=false:=by
 unfold Qoc;rw[show decide (f.stmts.length≤32)=false from decide_eq_false ZO];simp
theorem Qtr (f:QI)(h:QV f.name=true)(h1:1≤f.stmts.length)(h2:f.stmts.length≤32):Qoc f=f.stmts.all stmtB:=by
 unfold Qoc;rw[h];simp[h1,h2]
end
section
open Go.RowKit
variable [Base]
def FitS (s:QD):Prop:=(s.uses.length+s.targets.length+1)*16≤140737488355328
theorem Qkm {B:Nat}{w:World}(kw:KwIn B w)(hB:B≤w.heap.size)(s:QD)(u t:Value)(hu:Qea w u s.uses)(ht:Qea w t s.targets)(hf:FitS s):
  Calls Tryz.prog 188 #[.agg #[iv s.op,sv s.dfn,u,t]] w (Qia (!stmtB s) w):=by
 have B0:=(Below.refl w.heap.size w).alloc (Nat.le_refl _) (.cells #[iv s.op,sv s.dfn,u,t] 94);have HB0:=Zh B0;have K:=Zh (QCn (kw.keep fun k hk=>B0.block k (Nat.lt_of_lt_of_le hk hB)) (Nat.le_trans hB B0.size) s u t (Qg.same hu (Qf.below B0)) (Qg.same ht (Qf.below B0)) hf);clear B0;obtain⟨r,hr⟩:=Ze (stmtB s);rw[hr] at K ⊢;obtain⟨a1,c1,rfl,-,-⟩:=hu.cell;obtain⟨a2,c2,rfl,-,-⟩:=ht.cell;clear kw hr hu ht;go_enter Tryz.func188,Tryz.ntmps188;go_wp2_with fail;refine K.o.mono ?_;rintro e w' ⟨rfl,b⟩;have HB:=Zh (HB0.o.trans (b.mono HB0.o.size));clear b;go_wp2;go_ret;exact⟨rfl,HB.o⟩
def QDu (l:List QD)(w:World)(e:Ending)(w':World):Prop:=∃z:Int,e=.returned (iv z)∧-1≤z∧l.all stmtB=decide (z<0)∧Below w.heap.size w w'
theorem QAo {B:Nat}{w:World}(kw:KwIn B w)(hB:B≤w.heap.size)(l:List QD)(v:Value)(h:QDd w v l)(hf:∀s∈l,FitS s):
  Calls Tryz.prog 231 #[v,.func (.func 188) #[] #[]] w (QDu l w):=by
 obtain⟨a,c,rfl,hn,hc⟩:=h.cell;have HC:=Zh hc;have KW:=Zh kw;have HF:=Zh hf;obtain⟨n,hl⟩:=Ze l.length;rw[hl] at hn ⊢;have HL:=Zh hl;clear hc h hl kw hf;unfold maxLen at hn;go_enter Tryz.func231,Tryz.ntmps231;go_wp2;go_loopw [8] (fun x wr=>∃k:Nat,k≤n∧x=.int .i64 k∧Hid (Below w.heap.size w wr)∧Hid (l.all stmtB=(l.drop k).all stmtB)) (fun x _=>n-(intOf x).toNat)
 case atStart=>exact⟨0,Nat.zero_le _,rfl,by first|exact Below.refl _ _|exact below_draw (Below.refl _ _) _|exact(Below.refl _ _).drewN _,by unfold Hid;simp⟩
 case round=>
  obtain⟨k,hk,rfl,HB,HA⟩:=hrel;by_cases hlt:k<n
  ·obtain⟨s,hs⟩:∃s,l[k]? = some s:=⟨_,List.getElem?_eq_getElem (show k<l.length by have:=HL.o;omega)⟩;obtain⟨jb,joff,su,tu,rfl,hjb,g0,g1,g2,g3,hsu,htu⟩:=HC.o k s hs;have g0:=(HB.o.cell (p:=⟨jb,joff+k*4,none⟩) hjb).trans g0;have g1:=(HB.o.cell (p:=⟨jb,joff+k*4+1,none⟩) hjb).trans g1;have g2:=(HB.o.cell (p:=⟨jb,joff+k*4+2,none⟩) hjb).trans g2;have g3:=(HB.o.cell (p:=⟨jb,joff+k*4+3,none⟩) hjb).trans g3;have K:=Zh (fun (w2:World) (b:Below w.heap.size w w2)=>Qkm (KwIn.keep KW.o fun k hk=>b.block k (Nat.lt_of_lt_of_le hk hB)) (Nat.le_trans hB b.size) s su tu (Qg.same hsu (Qf.below b)) (Qg.same htu (Qf.below b)) (HF.o s (List.mem_of_getElem? hs)));have HS:=Zh (Qzd l k s hs stmtB);obtain⟨r,hr⟩:=Ze (stmtB s);rw[hr] at K HS;clear hs hr hsu htu
   cases r with
  |false=>
    have HG:=Zh (show l.all stmtB=false by rw[HA.o,HS.o];rfl);go_wp2_with fail;refine(K.o _ HB.o).mono ?_;rintro e w' ⟨rfl,b⟩;have HB2:=Zh (HB.o.trans (b.mono HB.o.size));clear b g0 g1 g2 g3;go_wp2;go_ret;exact⟨(k:Int),rfl,by omega,by rw[HG.o];simp,HB2.o⟩
  |true=>
    have HG:=Zh (show l.all stmtB=(l.drop (k+1)).all stmtB by rw[HA.o,HS.o];rfl);go_wp2_with fail;refine(K.o _ HB.o).mono ?_;rintro e w' ⟨rfl,b⟩;have HB2:=Zh (HB.o.trans (b.mono HB.o.size));clear b g0 g1 g2 g3;go_wp2;go_roundw
    case rel=>exact⟨k+1,by omega,by go_num,HB2,HG⟩
    case measure=>simp[intOf];omega
  ·have HG:=Zh (show l.all stmtB=true by rw[HA.o,List.drop_eq_nil_of_le (by rw[HL.o];omega)];rfl);go_wp2;go_ret;exact⟨-1,rfl,by omega,by rw[HG.o];rfl,HB.o⟩
theorem Qck {B:Nat}{w:World}(kw:KwIn B w)(hB:B≤w.heap.size)(l:List QD)(v:Value)(h:QDd w v l)(hf:∀s∈l,FitS s):
  Calls Tryz.prog 187 #[v,.func (.func 188) #[] #[]] w (Qia (!l.all stmtB) w):=by
 obtain⟨a,c,rfl,-,-⟩:=h.cell;have K:=Zh (QAo kw hB l _ h hf);clear h kw;go_enter Tryz.func187,Tryz.ntmps187;go_wp2_with fail;refine K.o.mono ?_;rintro e w' ⟨z,rfl,hz,ha,b⟩;have HA:=Zh (show(!l.all stmtB)=decide (0≤z) by rw[ha,Bool.eq_iff_iff];simp);have HB:=Zh b;clear ha b;go_wp2;go_ret;exact⟨by rw[HA.o];rfl,HB.o⟩
end
section
open Go.RowKit
variable [Base]
theorem QIm {B:Nat}{w0 w:World}(kw:KwIn B w0)(hB:B≤w0.heap.size)(b:Below w0.heap.size w0 w)(s:Str):Calls Tryz.prog 186 #[sv s] w (QTj (QV s) w):=
 (Qzj ⟨s.toArray⟩ w (kw.at_ (b.mono hB))).mono fun e w' ⟨h,k,h2⟩=>⟨h,by rw[h2];exact below_drewN (Below.refl _ _) k⟩
theorem QDq {B:Nat}{w:World}(kw:KwIn B w)(hB:B≤w.heap.size)(p:List Qo)(v:Value)(h:QAa w v p)(hf:∀f∈p,∀b∈f.blocks,∀s∈b.stmts,FitS s)(h1:1≤p.length)(h8:p.length≤8):
  Calls Tryz.prog 154 #[.agg #[v]] w (QTj (p.all QNc) w):=by
 obtain⟨a,c,rfl,hn,hc⟩:=h.cell;have HC:=Zh hc;obtain⟨n,hl⟩:=Ze p.length;rw[hl] at hn h1 h8 ⊢;have HL:=Zh hl;have KK:=Zh kw;have HFF:=Zh hf;clear hc h hl hn kw hf;go_enter Tryz.func154,Tryz.ntmps154;go_wp2;have B0:=Zh ((Below.refl w.heap.size w).alloc (Nat.le_refl _) (.cells #[.slice a n c] 25));go_loopw [20] (fun x wr=>∃i:Nat,i≤n∧x=.int .i64 i∧Hid (Below w.heap.size w wr)∧w.heap.size<wr.heap.size∧wr.cell? ⟨w.heap.size,0,none⟩=some (.slice a n c)∧Hid (p.all QNc=(p.drop i).all QNc)) (fun x _=>n-(intOf x).toNat)
 case atStart=>exact⟨0,Nat.zero_le _,rfl,B0,by simp,World.cell?_alloc_new _ _ _ _,by unfold Hid;simp⟩
 case round=>
  obtain⟨i,hi,rfl,HB,hz,hp0,hs⟩:=hrel;by_cases hlt:i<n
  ·obtain⟨f,hf2⟩:∃f,p[i]? = some f:=⟨_,List.getElem?_eq_getElem (show i<p.length by have:=HL.o;omega)⟩;obtain⟨fb,off,bv,rfl,hfb,g0,g1,hbl⟩:=HC.o i f hf2;have g0:=(HB.o.cell (p:=⟨fb,off+i*2,none⟩) hfb).trans g0;have g1:=(HB.o.cell (p:=⟨fb,off+i*2+1,none⟩) hfb).trans g1;have st:=Zh (Qzd p i f hf2 QNc);obtain⟨ba,bc,rfl,hbn,hbc⟩:=hbl.cell;have HBC:=Zh hbc;obtain⟨bn,hbl2⟩:=Ze f.blocks.length;rw[hbl2] at hbn g1;unfold maxLen at hbn;have HBL:=Zh hbl2;have HIF:=Zh (List.mem_of_getElem? hf2);clear hf2 hbl hbc hbl2 B0;have hR:=Zh (fun (w2:World) (b:Below w.heap.size w w2)=>QIm KK.o hB b f.name);go_wp2_with fail;refine(hR.o _ (HB.o.trans ((Zb).mono ZO))).mono ?_;rintro e w2 ⟨rfl,hb2⟩;have hsz:=hb2.size;simp at hsz;have q0:w2.cell? ⟨wr.heap.size,0,none⟩=some (sv f.name):=(hb2.cell (p:=⟨wr.heap.size,0,none⟩) ZS).trans (World.cell?_alloc_new _ _ _ _);have q1:w2.cell? ⟨wr.heap.size,1,none⟩=some (.slice ba bn bc):=(hb2.cell (p:=⟨wr.heap.size,1,none⟩) ZS).trans (World.cell?_alloc_new _ _ _ _);have ba1:=(Below.refl wr.heap.size wr).alloc (Nat.le_refl _) (.cells #[sv f.name,.slice ba bn bc] 89);have hp0:=(hb2.cell (p:=⟨w.heap.size,0,none⟩) (by simp;omega)).trans ((ba1.cell (p:=⟨w.heap.size,0,none⟩) hz).trans hp0);have HB2:=Zh ((HB.o.trans (ba1.mono ZO)).trans (hb2.mono (by simp;omega)));obtain⟨bf,hbf⟩:=Ze wr.heap.size;rw[hbf] at q0 q1 hsz hz;rw[hbf];clear hb2 HB g0 g1 ba1 hbf hR
   cases e:QV f.name
   ·have hF:=Zh (QLo e);go_wp2;go_ret;exact⟨Qgb (by rw[hs.o,st.o,hF.o];rfl),HB2.o⟩
   have E:=Zh e;clear e;by_cases hb1:(bn:Int)<1
   ·have hF:=Zh (Qer f (by rw[HBL.o];omega));go_wp2;go_ret;exact⟨Qgb (by rw[hs.o,st.o,hF.o];rfl),HB2.o⟩
   by_cases hb16:(16:Int)<(bn:Int)
   ·have hF:=Zh (QMo f (by rw[HBL.o];omega));go_wp2;go_ret;exact⟨Qgb (by rw[hs.o,st.o,hF.o];rfl),HB2.o⟩
   have hF:=Zh (Qys f E.o (by rw[HBL.o];omega) (by rw[HBL.o];omega));go_wp2;obtain⟨wo,rfl⟩:∃wo:World,wo=w2:=⟨_,rfl⟩;go_loopw [43] (fun x wi=>∃k:Nat,k≤bn∧x=.int .i64 k∧Hid (Below w.heap.size w wi)∧bf<wi.heap.size∧wi.cell? ⟨w.heap.size,0,none⟩=some (.slice (some ⟨fb,off,none⟩) n c)∧wi.cell? ⟨bf,1,none⟩=some (.slice ba bn bc)∧Hid (f.blocks.all Qoc=(f.blocks.drop k).all Qoc)) (fun x _=>bn-(intOf x).toNat)
   case atStart=>exact⟨0,Nat.zero_le _,rfl,HB2,by omega,hp0,q1,by unfold Hid;simp⟩
   case round=>
    obtain⟨k,hk,rfl,HB,hbz,hp0,q1,hs2⟩:=hrel;by_cases hlt2:k<bn
    ·obtain⟨b,hb⟩:∃b,f.blocks[k]? = some b:=⟨_,List.getElem?_eq_getElem (show k<f.blocks.length by have:=HBL.o;omega)⟩;obtain⟨kb,koff,sv1,rfl,hkb,g0,g1,hsl⟩:=HBC.o k b hb;have g0:=(HB.o.cell (p:=⟨kb,koff+k*2,none⟩) hkb).trans g0;have g1:=(HB.o.cell (p:=⟨kb,koff+k*2+1,none⟩) hkb).trans g1;have st2:=Zh (Qzd f.blocks k b hb Qoc);obtain⟨sa,sc,rfl,hsn,hsc⟩:=hsl.cell;have HST:=Zh (fun (w2:World) (b2:Below w.heap.size w w2)=>QDd.keep (Qf.below b2) (Qf.below b2) hsl);have HFS:=Zh (fun s hs=>HFF.o f HIF.o b (List.mem_of_getElem? hb) s hs);obtain⟨sn,hsl2⟩:=Ze b.stmts.length;rw[hsl2] at hsn g1 HST;unfold maxLen at hsn;have HSL:=Zh hsl2;clear hb hsl hsc hsl2;have hR:=Zh (fun (w2:World) (b2:Below w.heap.size w w2)=>QIm KK.o hB b2 b.name);go_wp2_with fail;refine(hR.o _ (HB.o.trans ((Zb).mono ZO))).mono ?_;rintro e w2 ⟨rfl,hb2⟩;have hsz:=hb2.size;simp at hsz;have r0:w2.cell? ⟨wr.heap.size,0,none⟩=some (sv b.name):=(hb2.cell (p:=⟨wr.heap.size,0,none⟩) ZS).trans (World.cell?_alloc_new _ _ _ _);have r1:w2.cell? ⟨wr.heap.size,1,none⟩=some (.slice sa sn sc):=(hb2.cell (p:=⟨wr.heap.size,1,none⟩) ZS).trans (World.cell?_alloc_new _ _ _ _);have ba1:=(Below.refl wr.heap.size wr).alloc (Nat.le_refl _) (.cells #[sv b.name,.slice sa sn sc] 92);have hp0:=(hb2.cell (p:=⟨w.heap.size,0,none⟩) (by simp;omega)).trans ((ba1.cell (p:=⟨w.heap.size,0,none⟩) (by show w.heap.size<_;omega)).trans hp0);have q1:=(hb2.cell (p:=⟨bf,1,none⟩) (by simp;omega)).trans ((ba1.cell (p:=⟨bf,1,none⟩) hbz).trans q1);have HB2:=Zh ((HB.o.trans (ba1.mono ZO)).trans (hb2.mono (by simp;omega)));obtain⟨bb,hbb⟩:=Ze wr.heap.size;rw[hbb] at r0 r1 hsz hbz;rw[hbb];clear hb2 HB g0 g1 ba1 hbb hR
     cases e:QV b.name
     ·have hK:=Zh (Qon e);go_wp2;go_ret;exact⟨Qgb (by rw[hs.o,st.o,hF.o,hs2.o,st2.o,hK.o];rfl),HB2.o⟩
     have E:=Zh e;clear e;by_cases hc1:(sn:Int)<1
     ·have hK:=Zh (QZo b (by rw[HSL.o];omega));go_wp2;go_ret;exact⟨Qgb (by rw[hs.o,st.o,hF.o,hs2.o,st2.o,hK.o];rfl),HB2.o⟩
     by_cases hc32:(32:Int)<(sn:Int)
     ·have hK:=Zh (Qpn b (by rw[HSL.o];omega));go_wp2;go_ret;exact⟨Qgb (by rw[hs.o,st.o,hF.o,hs2.o,st2.o,hK.o];rfl),HB2.o⟩
     have hK:=Zh (Qtr b E.o (by rw[HSL.o];omega) (by rw[HSL.o];omega));have K:=Zh (Qck (w:=w2) (KwIn.keep KK.o fun k hk=>HB2.o.block k (Nat.lt_of_lt_of_le hk hB)) (Nat.le_trans hB HB2.o.size) b.stmts (.slice sa sn sc) (HST.o _ HB2.o) (HFS.o));obtain⟨r,hr⟩:=Ze (b.stmts.all stmtB);rw[hr] at K hK;clear hr;go_wp2_with fail;refine K.o.mono ?_;rintro e w3 ⟨rfl,hb3⟩;have hsz3:=hb3.size;have hp0:=(hb3.cell (p:=⟨w.heap.size,0,none⟩) (by show w.heap.size<_;omega)).trans hp0;have q1:=(hb3.cell (p:=⟨bf,1,none⟩) (by show bf<_;omega)).trans q1;have HB3:=Zh (HB2.o.trans (hb3.mono ZO));clear hb3 r0 r1 HB2
     cases r
     ·go_wp2;go_ret;exact⟨Qgb (by rw[hs.o,st.o,hF.o,hs2.o,st2.o,hK.o];rfl),HB3.o⟩
     ·go_wp2;go_roundw
      case rel=>exact⟨k+1,by omega,by go_num,HB3,by omega,hp0,q1,by unfold Hid;rw[hs2.o,st2.o,hK.o];rfl⟩
      case measure=>simp[intOf];omega
    ·have hall:Hid (QNc f=true):=by unfold Hid;rw[hF.o,hs2.o,List.drop_of_length_le (by have:=HBL.o;omega)];rfl
     go_wp2;go_roundw
     case rel=>exact⟨i+1,by omega,by go_num,HB,by omega,hp0,by unfold Hid;rw[hs.o,st.o,hall.o];rfl⟩
     case measure=>simp[intOf];omega
  ·go_wp2;go_ret;exact⟨Qgb (by rw[hs.o,List.drop_of_length_le (by have:=HL.o;omega)];rfl),HB.o⟩
theorem QFe {B:Nat}{w:World}(kw:KwIn B w)(hB:B≤w.heap.size)(p:List Qo)(v:Value)(h:QAa w v p)(hf:∀f∈p,∀b∈f.blocks,∀s∈b.stmts,FitS s):
  Calls Tryz.prog 154 #[.agg #[v]] w (QTj (QMa p) w):=by
 by_cases h1:1≤p.length
 ·by_cases h8:p.length≤8
  ·have e:QMa p=p.all QNc:=by unfold QMa;simp[h1,h8]
   rw[e];exact QDq kw hB p v h hf h1 h8
  ·have e:QMa p=false:=by unfold QMa;simp[h8]
   rw[e];obtain⟨a,c,rfl,hn,_⟩:=h.cell;have g1:decide ((p.length:Int)<1)=false:=by simp;omega
   have g8:decide ((8:Int)<(p.length:Int))=true:=by simp;omega
   clear h h1 h8 e hn;go_enter Tryz.func154,Tryz.ntmps154;go_wp2;go_ret;exact⟨rfl,Zb⟩
 ·have e:QMa p=false:=by unfold QMa;simp[h1]
  rw[e];obtain⟨a,c,rfl,hn,_⟩:=h.cell;have g1:decide ((p.length:Int)<1)=true:=by simp;omega
  clear h h1 e hn;go_enter Tryz.func154,Tryz.ntmps154;go_wp2;go_ret;exact⟨rfl,Zb⟩
end
section
open Go.RowKit
variable [Base]
structure Two (z nb eb:Nat)(x y:Int)(w w':World):Prop where
 below:Below z w w'
 rest:∀k,k<w.heap.size→k≠nb→k≠eb→w'.heap[k]? = w.heap[k]?
 nat:w'.heap[nb]? = some (.cells #[iv x] 3 (0,0))
 eat:w'.heap[eb]? = some (.cells #[iv y] 3 (0,0))
theorem Qej {w:World}{b:Nat}{a0:Value}{t:TypeId}{fr:Nat×Nat}(h:w.heap[b]? = some (.cells #[a0] t fr))(x:Value):(w.setCell ⟨b,0,none⟩ x).heap[b]? = some (.cells #[x] t fr):=by
 simp[World.setCell,Array.getElem?_modify,h]
theorem Qud {w:World}{b k:Nat}(h:b≠k)(x:Value):(w.setCell ⟨b,0,none⟩ x).heap[k]? = w.heap[k]?:=by
 simp[World.setCell,Array.getElem?_modify,h]
theorem Two.setN {z nb eb:Nat}{x y:Int}{w w':World}(h:Two z nb eb x y w w')(hz:z≤nb)(hne:nb≠eb)(x':Int):Two z nb eb x' y w (w'.setCell ⟨nb,0,none⟩ (iv x')):=
 ⟨h.below.setCell (p:=⟨nb,0,none⟩) hz _,fun k hk h1 h2=>(Qud (fun e=>h1 e.symm) _).trans (h.rest k hk h1 h2),Qej h.nat _,(Qud hne _).trans h.eat⟩
theorem Two.setE {z nb eb:Nat}{x y:Int}{w w':World}(h:Two z nb eb x y w w')(hz:z≤eb)(hne:nb≠eb)(y':Int):Two z nb eb x y' w (w'.setCell ⟨eb,0,none⟩ (iv y')):=
 ⟨h.below.setCell (p:=⟨eb,0,none⟩) hz _,fun k hk h1 h2=>(Qud (fun e=>h2 e.symm) _).trans (h.rest k hk h1 h2),(Qud (fun e=>hne e.symm) _).trans h.nat,Qej h.eat _⟩
theorem QJn (z nb eb:Nat)(s:QD)(u t:Value)(w:World)(x y:Int)(hz:z≤nb∧z≤eb∧nb≠eb)(hx:w.heap[nb]? = some (.cells #[iv x] 3 (0,0)))(hy:w.heap[eb]? = some (.cells #[iv y] 3 (0,0)))(h0:0≤x∧x≤1000000∧0≤y∧y≤1000000):
  Calls Tryz.prog 193 #[.agg #[iv s.op,sv s.dfn,u,t],.pointer (some ⟨nb,0,none⟩),.pointer (some ⟨eb,0,none⟩)] w (fun e w'=>e=.returned (.tuple #[])∧Two z nb eb (x+QHd s) (y+Qod s) w w'):=by
 have hnb:=Qb hx;have heb:=Qb hy;obtain⟨hz1,hz2,hne⟩:=hz;obtain⟨op,d,us,ts⟩:=s;obtain⟨W,hW⟩:=Ze (w.alloc (.cells #[iv op,sv d,u,t] 94));have T0:Two z nb eb x y w W:=by
  rw[←hW];exact⟨(Below.refl _ _).alloc ZO _,fun k hk _ _=>((Below.refl w.heap.size w).alloc (Nat.le_refl _) _).block k hk,Qfa _ hx,Qfa _ hy⟩
 have T:=Zh T0;have T1:=Zh (T0.setN hz1 hne (x+1));have x0:=(Qd T0.nat).1 0;have y0:=(Qd T0.eat).1 0;have xf:=(Qd T0.nat).2 0;have yf:=(Qd T0.eat).2 0;have s0:W.cell? ⟨w.heap.size,0,none⟩=some (iv op):=by rw[←hW];exact World.cell?_alloc_new _ _ _ _
 have HW:=Zh hW;clear T0 hW hx hy;simp at x0 y0;go_enter Tryz.func193,Tryz.ntmps193;go_upto_region 1 with(fail)
 rw[show w.alloc (.cells #[iv op,sv d,u,t] 94)=W from HW.o];go_upto_region 2 with(fail)
 have ws:w.heap.size<W.heap.size:=by rw[←HW.o];simp
 have hs1:W.heap[w.heap.size]? = some (.cells #[iv op,sv d,u,t] 94 (0,0)):=by rw[←HW.o];exact heap_alloc_new _ _
 have HS1:=Zh ((Qud (b:=nb) (k:=w.heap.size) (w:=W) ZO (iv (x+1))).trans hs1);obtain⟨W1,hW1⟩:=Ze (W.setCell ⟨nb,0,none⟩ (iv (x+1)));rw[show W.setCell ⟨nb,0,none⟩ (.int .i64 (x+1))=W1 from hW1];rw[hW1] at T1 HS1;clear x0 y0 xf yf s0 hW1 hs1 ws HW T;have x0:=(Qd T1.o.nat).1 0;have y0:=(Qd T1.o.eat).1 0;have xf:=(Qd T1.o.nat).2 0;have yf:=(Qd T1.o.eat).2 0;simp at x0 y0;obtain⟨s0,s1,s2,s3⟩:=Qt HS1.o;by_cases h3:op=3
 ·subst h3;have T2:=Zh ((T1.o.setN hz1 hne (x+1+1)).setE hz2 hne (y+3));have yy:=(Qd (T1.o.setN hz1 hne (x+1+1)).eat).1 0;have yz:=(Qd (T1.o.setN hz1 hne (x+1+1)).eat).2 0;simp at yy;go_wp2;exact bodyPost_end (v:=.tuple #[]) (by simp[results,Tryz.results193,go_sem]) rfl ⟨rfl,by rw[show x+QHd ⟨3,d,us,ts⟩=x+1+1 by unfold QHd;simp;omega,show y+Qod ⟨3,d,us,ts⟩=y+3 by unfold Qod;simp];exact T2.o⟩
 ·by_cases h8:op=8
  ·subst h8;have T2:=Zh (T1.o.setE hz2 hne (y+2));go_wp2;exact bodyPost_end (v:=.tuple #[]) (by simp[results,Tryz.results193,go_sem]) rfl ⟨rfl,by rw[show x+QHd ⟨8,d,us,ts⟩=x+1 by unfold QHd;simp,show y+Qod ⟨8,d,us,ts⟩=y+2 by unfold Qod;simp];exact T2.o⟩
  ·have T2:=Zh (T1.o.setE hz2 hne (y+1));go_wp2;exact bodyPost_end (v:=.tuple #[]) (by simp[results,Tryz.results193,go_sem]) rfl ⟨rfl,by rw[show x+QHd ⟨op,d,us,ts⟩=x+1 by unfold QHd;simp[h3],show y+Qod ⟨op,d,us,ts⟩=y+1 by unfold Qod;simp[h3,h8]];exact T2.o⟩
end
end Go.Proofs.YtijekimobahgpaaGreatDoor
