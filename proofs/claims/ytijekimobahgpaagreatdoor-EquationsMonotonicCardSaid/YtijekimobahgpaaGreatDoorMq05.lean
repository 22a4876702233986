/- A part of the proof. -/
import Derived.Test.YtijekimobahgpaaGreatDoorMq03
import Derived.Deep.CutBlock
import Derived.Deep.Light
set_option linter.unusedVariables false
set_option linter.unusedSimpArgs false
set_option linter.unusedSectionVars false
set_option maxRecDepth 100000
set_option maxHeartbeats 16000000
namespace Go.Proofs.YtijekimobahgpaaGreatDoor
section
open Go.RowKit
variable [Base]
abbrev TS:TypeId:=9
theorem Qmt:Tryz.prog.underlying TS=some .string:=Tryz.underlying9
theorem QCe:Tryz.prog.underlying 163=some (.map TS 4):=Tryz.underlying163
theorem zeroB (w:World):(zeroValue 4).run Tryz.prog w=.ok (.bool false) w:=by kernel_rfl
noncomputable abbrev strK:KeyE Tryz.prog TS (List UInt8):=Qgu Qmt
def Qnb (w:World) (b n:Nat) (l:List Str):Prop:=∃th,MapG strK Qbc w b n (fun x=>l.contains x) th
theorem Qnb.below {w w':World} {b n:Nat} {l:List Str} (h:Qnb w b n l) (hb:Below w.heap.size w w'):Qnb w' b n l:=by
 obtain⟨th,h⟩:=h;exact⟨th,h.below hb⟩
theorem Qnb.lt {w:World} {b n:Nat} {l:List Str} (h:Qnb w b n l):b<w.heap.size:=by
 obtain⟨th,h⟩:=h;exact h.lt
theorem Qnb.look {w:World} {b n:Nat} {l:List Str} (h:Qnb w b n l) {x:Str} (hx:x.length≤maxLen):(Instr.lookup 163 (.map (some b)) (sv x) false).run Tryz.prog w=.ok (.bool (l.contains x)) w:=by
 obtain⟨th,h⟩:=h;exact h.look QCe (zeroB w) hx
def DupQ (l:List Str) (w:World) (e:Ending) (w':World):Prop:=∃b,e=.returned (.tuple #[iv (dupI l),.map (some b)])∧Qnb w' b l.length l∧w.heap.size≤b∧Below w.heap.size w w'
def Qif (l:List Str) (i:Nat) (a:Int):Prop:=(a = -1∧dupI l=QKj (l.take i) (l.drop i) i)∨(0≤a∧dupI l=a)
theorem Qif.start (l:List Str):Qif l 0 (-1):=.inl ⟨rfl,by simp [dupI]⟩
theorem Qif.step {l:List Str} {i:Nat} {a:Int} {x:Str} (h:Qif l i a) (hx:l[i]? = some x):Qif l (i+1) (if (l.take i).contains x=true∧a<0 then (i:Int) else a):=by
 obtain⟨hi,rfl⟩:=List.getElem?_eq_some_iff.1 hx;rcases h with⟨rfl,h⟩|⟨h0,h⟩
 ·rw [List.drop_eq_getElem_cons hi] at h;unfold QKj at h;by_cases hc:(l.take i).contains l[i]=true
  ·rw [if_pos hc] at h;rw [if_pos ⟨hc,by omega⟩];exact .inr ⟨by omega,h⟩
  ·rw [if_neg hc] at h;rw [if_neg (fun q=>hc q.1)];refine .inl ⟨rfl,?_⟩;rw [h,List.take_add_one,List.getElem?_eq_getElem hi];rfl
 ·rw [if_neg (by omega)];exact .inr ⟨h0,h⟩
theorem Qif.fin {l:List Str} {a:Int} (h:Qif l l.length a):dupI l=a:=by
 rcases h with⟨rfl,h⟩|⟨_,h⟩
 ·rw [h];simp [QKj]
 ·exact h
theorem Qyd {w w':World} {b B:Nat} (hg:w.grownBy w' (some b)) (hlt:b<w.heap.size) (hb:B≤b):Below B w w':=
 ⟨hg.os,hg.tape,hg.output,hg.size,fun k hk=>by
  rcases Nat.lt_or_ge k w.heap.size with h|h
  ·exact hg.block k h (by intro e;injection e with e;omega)
  ·omega⟩
theorem QFs (p:List Qo) (hp:∀f∈p,f.name.length≤1000) (v:Value) (w:World) (h:QAa w v p):Calls Tryz.prog 155 #[v,.func (.func 156) #[] #[]] w (DupQ (p.map Qo.name) w):=by
 obtain⟨a,c,rfl,hn,hc⟩:=h.cell;have HC:=Zh hc;have HP:=Zh (show ∀f∈p,f.name.length≤maxLen from fun f hf=>Nat.le_trans (hp f hf) (by unfold maxLen;omega));obtain⟨n,hl⟩:=Ze p.length;rw [hl] at hn ⊢;unfold maxLen at hn;have HL:=Zh hl;obtain⟨l,hln⟩:=Ze (p.map Qo.name);have HNM:=Zh hln;have HLL:=Zh (show l.length=n by rw [←hln,List.length_map,hl]);rw [hln];obtain⟨mb,hmb⟩:=Ze w.heap.size;have HMB:=Zh hmb;obtain⟨W,hW⟩:=Ze (w.alloc (.map #[] 0));have HWW:=Zh hW;have HM0:=Zh (show Qnb W mb 0 (l.take 0) by rw [←hW,←hmb];exact⟨_,(MapG.made strK Qbc w).congr (fun x=>by simp [Qbc]) (fun _=>rfl)⟩);have HB0:=Zh (show Below mb w W by rw [←hW,←hmb];exact Zb);clear hc h hl hln hp hW;have hmm:=@run_makeMap Tryz.prog;go_enter Tryz.func155,Tryz.ntmps155;go_upto_region 2 with(fail)
 rw [show w.alloc (.map #[] 0)=W from HWW.o]
 try rw [hmb]
 clear hmb hmm;go_wp2;go_loopw [7,13] (fun y7 y13 wr=>∃(i:Nat) (q:Int),i≤n∧y13=.int .i64 i∧y7=.int .i64 q∧-1≤q∧q≤n∧Hid (Qif l i q)∧Hid (Qnb wr mb i (l.take i))∧Hid (Below mb w wr)) (fun _ y _=>n-(intOf y).toNat)
 case atStart=>exact⟨0,-1,Nat.zero_le _,rfl,rfl,Int.le_refl _,by omega,Qif.start l,HM0.o,HB0.o⟩
 case round=>
  obtain⟨i,q,hi,rfl,rfl,hq1,hq2,HD,HM,HB⟩:=hrel;by_cases hlt:i<n;rotate_left
  ·have hin:i=n:=by omega
   have HF:=Zh (show dupI l=q from Qif.fin (by rw [HLL.o,←hin];exact HD.o));have HM2:=Zh (show Qnb wr mb l.length l by have h1:=HM.o;rw [hin,←HLL.o,List.take_length] at h1;exact h1);clear hin;go_wp2;rw [←HF.o];exact bodyPost_ret (v:=.tuple #[iv (dupI l),.map (some mb)]) (by simp [results,Tryz.results155,go_sem,HF.o]) rfl ⟨mb,rfl,HM2.o,by rw [HMB.o];exact Nat.le_refl _,by rw [HMB.o];exact HB.o⟩
  ·obtain⟨f,hf⟩:∃f,p[i]? = some f:=⟨_,List.getElem?_eq_getElem (by rw [HL.o];exact hlt)⟩;obtain⟨fb,off,bv,rfl,hfb,g0,g1,hbl⟩:=HC.o i f hf;obtain⟨ba,bc,rfl,-,-⟩:=hbl.cell;obtain⟨bn,hbn⟩:=Ze (List.length f.blocks);rw [hbn] at g1;clear hbl hbn;have hmw:=HMB.o;have g0:=(HB.o.cell (p:=⟨fb,off+i*2,none⟩) (by show fb<mb;omega)).trans g0;have g1:=(HB.o.cell (p:=⟨fb,off+i*2+1,none⟩) (by show fb<mb;omega)).trans g1;have HX:=Zh (show l[i]? = some f.name by rw [←HNM.o,List.getElem?_map,hf];rfl);have HFL:=Zh (HP.o f (List.mem_of_getElem? hf));obtain⟨x,hx⟩:=Ze f.name;rw [hx] at g0 HX HFL;have hin:(i:Int)<(n:Int):=by omega
   obtain⟨U,hU⟩:=Ze (wr.alloc (.cells #[sv x,.slice ba bn bc] 89));have HXB:=Zh (show U.heap[wr.heap.size]? = some (.cells #[sv x,.slice ba bn bc] 89 (0,0)) by rw [←hU];exact heap_alloc_new _ _);have BU:=Zh (show Below wr.heap.size wr U by rw [←hU];exact Zb);have HUU:=Zh hU;have hml:mb<wr.heap.size:=HM.o.lt;obtain⟨xb,hxb⟩:=Ze wr.heap.size;rw [hxb] at HXB BU hml;have HXE:=Zh hxb;clear hf hx hU hmw;go_upto_region 6 with(fail)
   rw [show wr.alloc (.cells #[sv x,.slice ba bn bc] 89)=U from HUU.o]
   try rw [hxb]
   clear hxb g0 g1;obtain⟨x0,x1⟩:=Qq HXB.o;have HM1:=Zh (HM.o.below (by rw [HXE.o];exact BU.o));go_wp2_with fail;refine(QWf U x (.slice ba bn bc)).mono ?_;rintro e w1 ⟨rfl,b1⟩;have HM2:=Zh (HM1.o.below b1);have HXB2:=Zh (Qc HXB.o b1 (Qb HXB.o));have HB2:=Zh (HB.o.trans ((BU.o.trans (b1.mono (by have:=BU.o.size;have:=HXE.o;omega))).mono (by omega)));clear b1 x0 x1;obtain⟨x0,x1⟩:=Qq HXB2.o;have lk:=HM2.o.look (x:=x) HFL.o;obtain⟨r,hr⟩:=Ze ((l.take i).contains x);rw [hr] at lk;have HR:=Zh hr;clear hr;have HDS:=Zh (HD.o.step HX.o);rw [HR.o] at HDS
   cases r with
  |false=>
    rw [if_neg (by simp)] at HDS;go_wp2_with fail;refine(QWf _ x (.slice ba bn bc)).mono ?_;rintro e w3 ⟨rfl,b3⟩;have HM3:=Zh (HM2.o.below b3);have HB3:=Zh (HB2.o.trans (b3.mono (by have:=HM2.o.lt;omega)));clear b3;obtain⟨th,hth⟩:=HM3.o;have HTH:=Zh hth;clear hth;go_wp2_with (at_mapUpdate;refine QHb (Ky:=strK) Qbc rfl _ _ _ _ rfl QCe rfl HTH.o (by unfold maxLen;omega) (k:=x) rfl HFL.o true rfl ?_;intro w4 hm hg;have HM4:=Zh hm;have HG4:=Zh hg;clear hm hg);go_roundw
    case rel=>exact⟨i+1,q,by omega,by go_num,rfl,by omega,by omega,HDS,⟨_,HM4.o.congr (fun y=>by have:=HX.o;simp [List.take_add_one,this];by_cases e:y=x <;> simp [e]) (fun _=>rfl)⟩,(HB3.o.trans (Qyd HG4.o HM3.o.lt (Nat.le_refl _)))⟩
    case measure=>simp [intOf];omega
  |true=>
    by_cases hq0:q<0
    ·rw [if_pos ⟨rfl,hq0⟩] at HDS;go_wp2_with fail;refine(QWf _ x (.slice ba bn bc)).mono ?_;rintro e w3 ⟨rfl,b3⟩;have HM3:=Zh (HM2.o.below b3);have HB3:=Zh (HB2.o.trans (b3.mono (by have:=HM2.o.lt;omega)));clear b3;obtain⟨th,hth⟩:=HM3.o;have HTH:=Zh hth;clear hth;go_wp2_with (at_mapUpdate;refine QHb (Ky:=strK) Qbc rfl _ _ _ _ rfl QCe rfl HTH.o (by unfold maxLen;omega) (k:=x) rfl HFL.o true rfl ?_;intro w4 hm hg;have HM4:=Zh hm;have HG4:=Zh hg;clear hm hg);go_roundw
     case rel=>exact⟨i+1,(i:Int),by omega,by go_num,rfl,by omega,by omega,HDS,⟨_,HM4.o.congr (fun y=>by have:=HX.o;simp [List.take_add_one,this];by_cases e:y=x <;> simp [e]) (fun _=>rfl)⟩,(HB3.o.trans (Qyd HG4.o HM3.o.lt (Nat.le_refl _)))⟩
     case measure=>simp [intOf];omega
    ·rw [if_neg (fun h=>hq0 h.2)] at HDS;go_wp2_with fail;refine(QWf _ x (.slice ba bn bc)).mono ?_;rintro e w3 ⟨rfl,b3⟩;have HM3:=Zh (HM2.o.below b3);have HB3:=Zh (HB2.o.trans (b3.mono (by have:=HM2.o.lt;omega)));clear b3;obtain⟨th,hth⟩:=HM3.o;have HTH:=Zh hth;clear hth;go_wp2_with (at_mapUpdate;refine QHb (Ky:=strK) Qbc rfl _ _ _ _ rfl QCe rfl HTH.o (by unfold maxLen;omega) (k:=x) rfl HFL.o true rfl ?_;intro w4 hm hg;have HM4:=Zh hm;have HG4:=Zh hg;clear hm hg);go_roundw
     case rel=>exact⟨i+1,q,by omega,by go_num,rfl,by omega,by omega,HDS,⟨_,HM4.o.congr (fun y=>by have:=HX.o;simp [List.take_add_one,this];by_cases e:y=x <;> simp [e]) (fun _=>rfl)⟩,(HB3.o.trans (Qyd HG4.o HM3.o.lt (Nat.le_refl _)))⟩
     case measure=>simp [intOf];omega
theorem QGs (p:List QI) (hp:∀f∈p,f.name.length≤1000) (v:Value) (w:World) (h:QOc w v p):Calls Tryz.prog 190 #[v,.func (.func 191) #[] #[]] w (DupQ (p.map QI.name) w):=by
 obtain⟨a,c,rfl,hn,hc⟩:=h.cell;have HC:=Zh hc;have HP:=Zh (show ∀f∈p,f.name.length≤maxLen from fun f hf=>Nat.le_trans (hp f hf) (by unfold maxLen;omega));obtain⟨n,hl⟩:=Ze p.length;rw [hl] at hn ⊢;unfold maxLen at hn;have HL:=Zh hl;obtain⟨l,hln⟩:=Ze (p.map QI.name);have HNM:=Zh hln;have HLL:=Zh (show l.length=n by rw [←hln,List.length_map,hl]);rw [hln];obtain⟨mb,hmb⟩:=Ze w.heap.size;have HMB:=Zh hmb;obtain⟨W,hW⟩:=Ze (w.alloc (.map #[] 0));have HWW:=Zh hW;have HM0:=Zh (show Qnb W mb 0 (l.take 0) by rw [←hW,←hmb];exact⟨_,(MapG.made strK Qbc w).congr (fun x=>by simp [Qbc]) (fun _=>rfl)⟩);have HB0:=Zh (show Below mb w W by rw [←hW,←hmb];exact Zb);clear hc h hl hln hp hW;have hmm:=@run_makeMap Tryz.prog;go_enter Tryz.func190,Tryz.ntmps190;go_upto_region 2 with(fail)
 rw [show w.alloc (.map #[] 0)=W from HWW.o]
 try rw [hmb]
 clear hmb hmm;go_wp2;go_loopw [7,13] (fun y7 y13 wr=>∃(i:Nat) (q:Int),i≤n∧y13=.int .i64 i∧y7=.int .i64 q∧-1≤q∧q≤n∧Hid (Qif l i q)∧Hid (Qnb wr mb i (l.take i))∧Hid (Below mb w wr)) (fun _ y _=>n-(intOf y).toNat)
 case atStart=>exact⟨0,-1,Nat.zero_le _,rfl,rfl,Int.le_refl _,by omega,Qif.start l,HM0.o,HB0.o⟩
 case round=>
  obtain⟨i,q,hi,rfl,rfl,hq1,hq2,HD,HM,HB⟩:=hrel;by_cases hlt:i<n;rotate_left
  ·have hin:i=n:=by omega
   have HF:=Zh (show dupI l=q from Qif.fin (by rw [HLL.o,←hin];exact HD.o));have HM2:=Zh (show Qnb wr mb l.length l by have h1:=HM.o;rw [hin,←HLL.o,List.take_length] at h1;exact h1);clear hin;go_wp2;rw [←HF.o];exact bodyPost_ret (v:=.tuple #[iv (dupI l),.map (some mb)]) (by simp [results,Tryz.results190,go_sem,HF.o]) rfl ⟨mb,rfl,HM2.o,by rw [HMB.o];exact Nat.le_refl _,by rw [HMB.o];exact HB.o⟩
  ·obtain⟨f,hf⟩:∃f,p[i]? = some f:=⟨_,List.getElem?_eq_getElem (by rw [HL.o];exact hlt)⟩;obtain⟨fb,off,bv,rfl,hfb,g0,g1,hbl⟩:=HC.o i f hf;obtain⟨ba,bc,rfl,-,-⟩:=hbl.cell;obtain⟨bn,hbn⟩:=Ze (List.length f.stmts);rw [hbn] at g1;clear hbl hbn;have hmw:=HMB.o;have g0:=(HB.o.cell (p:=⟨fb,off+i*2,none⟩) (by show fb<mb;omega)).trans g0;have g1:=(HB.o.cell (p:=⟨fb,off+i*2+1,none⟩) (by show fb<mb;omega)).trans g1;have HX:=Zh (show l[i]? = some f.name by rw [←HNM.o,List.getElem?_map,hf];rfl);have HFL:=Zh (HP.o f (List.mem_of_getElem? hf));obtain⟨x,hx⟩:=Ze f.name;rw [hx] at g0 HX HFL;have hin:(i:Int)<(n:Int):=by omega
   obtain⟨U,hU⟩:=Ze (wr.alloc (.cells #[sv x,.slice ba bn bc] 92));have HXB:=Zh (show U.heap[wr.heap.size]? = some (.cells #[sv x,.slice ba bn bc] 92 (0,0)) by rw [←hU];exact heap_alloc_new _ _);have BU:=Zh (show Below wr.heap.size wr U by rw [←hU];exact Zb);have HUU:=Zh hU;have hml:mb<wr.heap.size:=HM.o.lt;obtain⟨xb,hxb⟩:=Ze wr.heap.size;rw [hxb] at HXB BU hml;have HXE:=Zh hxb;clear hf hx hU hmw;go_upto_region 6 with(fail)
   rw [show wr.alloc (.cells #[sv x,.slice ba bn bc] 92)=U from HUU.o]
   try rw [hxb]
   clear hxb g0 g1;obtain⟨x0,x1⟩:=Qq HXB.o;have HM1:=Zh (HM.o.below (by rw [HXE.o];exact BU.o));go_wp2_with fail;refine(QZf U x (.slice ba bn bc)).mono ?_;rintro e w1 ⟨rfl,b1⟩;have HM2:=Zh (HM1.o.below b1);have HXB2:=Zh (Qc HXB.o b1 (Qb HXB.o));have HB2:=Zh (HB.o.trans ((BU.o.trans (b1.mono (by have:=BU.o.size;have:=HXE.o;omega))).mono (by omega)));clear b1 x0 x1;obtain⟨x0,x1⟩:=Qq HXB2.o;have lk:=HM2.o.look (x:=x) HFL.o;obtain⟨r,hr⟩:=Ze ((l.take i).contains x);rw [hr] at lk;have HR:=Zh hr;clear hr;have HDS:=Zh (HD.o.step HX.o);rw [HR.o] at HDS
   cases r with
  |false=>
    rw [if_neg (by simp)] at HDS;go_wp2_with fail;refine(QZf _ x (.slice ba bn bc)).mono ?_;rintro e w3 ⟨rfl,b3⟩;have HM3:=Zh (HM2.o.below b3);have HB3:=Zh (HB2.o.trans (b3.mono (by have:=HM2.o.lt;omega)));clear b3;obtain⟨th,hth⟩:=HM3.o;have HTH:=Zh hth;clear hth;go_wp2_with (at_mapUpdate;refine QHb (Ky:=strK) Qbc rfl _ _ _ _ rfl QCe rfl HTH.o (by unfold maxLen;omega) (k:=x) rfl HFL.o true rfl ?_;intro w4 hm hg;have HM4:=Zh hm;have HG4:=Zh hg;clear hm hg);go_roundw
    case rel=>exact⟨i+1,q,by omega,by go_num,rfl,by omega,by omega,HDS,⟨_,HM4.o.congr (fun y=>by have:=HX.o;simp [List.take_add_one,this];by_cases e:y=x <;> simp [e]) (fun _=>rfl)⟩,(HB3.o.trans (Qyd HG4.o HM3.o.lt (Nat.le_refl _)))⟩
    case measure=>simp [intOf];omega
  |true=>
    by_cases hq0:q<0
    ·rw [if_pos ⟨rfl,hq0⟩] at HDS;go_wp2_with fail;refine(QZf _ x (.slice ba bn bc)).mono ?_;rintro e w3 ⟨rfl,b3⟩;have HM3:=Zh (HM2.o.below b3);have HB3:=Zh (HB2.o.trans (b3.mono (by have:=HM2.o.lt;omega)));clear b3;obtain⟨th,hth⟩:=HM3.o;have HTH:=Zh hth;clear hth;go_wp2_with (at_mapUpdate;refine QHb (Ky:=strK) Qbc rfl _ _ _ _ rfl QCe rfl HTH.o (by unfold maxLen;omega) (k:=x) rfl HFL.o true rfl ?_;intro w4 hm hg;have HM4:=Zh hm;have HG4:=Zh hg;clear hm hg);go_roundw
     case rel=>exact⟨i+1,(i:Int),by omega,by go_num,rfl,by omega,by omega,HDS,⟨_,HM4.o.congr (fun y=>by have:=HX.o;simp [List.take_add_one,this];by_cases e:y=x <;> simp [e]) (fun _=>rfl)⟩,(HB3.o.trans (Qyd HG4.o HM3.o.lt (Nat.le_refl _)))⟩
     case measure=>simp [intOf];omega
    ·rw [if_neg (fun h=>hq0 h.2)] at HDS;go_wp2_with fail;refine(QZf _ x (.slice ba bn bc)).mono ?_;rintro e w3 ⟨rfl,b3⟩;have HM3:=Zh (HM2.o.below b3);have HB3:=Zh (HB2.o.trans (b3.mono (by have:=HM2.o.lt;omega)));clear b3;obtain⟨th,hth⟩:=HM3.o;have HTH:=Zh hth;clear hth;go_wp2_with (at_mapUpdate;refine QHb (Ky:=strK) Qbc rfl _ _ _ _ rfl QCe rfl HTH.o (by unfold maxLen;omega) (k:=x) rfl HFL.o true rfl ?_;intro w4 hm hg;have HM4:=Zh hm;have HG4:=Zh hg;clear hm hg);go_roundw
     case rel=>exact⟨i+1,q,by omega,by go_num,rfl,by omega,by omega,HDS,⟨_,HM4.o.congr (fun y=>by have:=HX.o;simp [List.take_add_one,this];by_cases e:y=x <;> simp [e]) (fun _=>rfl)⟩,(HB3.o.trans (Qyd HG4.o HM3.o.lt (Nat.le_refl _)))⟩
     case measure=>simp [intOf];omega
end
section
open Go.RowKit
variable [Base]
def tgtE (l:List Str) (s:QD) (last:Bool):Int:=if QTg s.op != last then 4 else if s.targets.all (fun t=>l.contains t) then 0 else 5
theorem Qmq (fs bs:List Str) (s:QD) (last:Bool):QXi fs bs s last=tgtE (if s.op==3 then fs else bs) s last:=rfl
theorem Qsn {α:Type} (p:α→Bool) {l:List α} {i:Nat} {x:α} (h:l[i]? = some x):(l.drop i).all p=(p x&&(l.drop (i+1)).all p):=by
 obtain⟨hi,rfl⟩:=List.getElem?_eq_some_iff.1 h;rw [List.drop_eq_getElem_cons hi,List.all_cons]
theorem QZj (s:QD) (last:Bool) (l:List Str) (mb n:Nat) (ua:Option Addr) (un uc:Nat) (t:Value) (w:World) (ht:Qea w t s.targets) (hlen:∀x∈s.targets,x.length≤maxLen) (hm:Qnb w mb n l):
  Calls Tryz.prog 192 #[.agg #[iv s.op,sv s.dfn,.slice ua un uc,t],.bool last,.map (some mb)] w (IntQ (tgtE l s last) w):=by
 obtain⟨ta,tc,rfl,htn,htc⟩:=ht.cell;have HTC:=Zh htc;have HLEN:=Zh hlen;obtain⟨k,hk⟩:=Ze s.targets.length;rw [hk] at htn ⊢;unfold maxLen at htn;have HK:=Zh hk;obtain⟨W,hW⟩:=Ze (w.alloc (.cells #[iv s.op,sv s.dfn,.slice ua un uc,.slice ta k tc] 94));obtain⟨sb,hsb⟩:=Ze w.heap.size;have HSB:=Zh (show W.heap[sb]? = some (.cells #[iv s.op,sv s.dfn,.slice ua un uc,.slice ta k tc] 94 (0,0)) by rw [←hW,←hsb];exact heap_alloc_new _ _);have BW:=Zh (show Below w.heap.size w W by rw [←hW];exact Zb);have HM:=Zh (hm.below BW.o);have HWW:=Zh hW;have HSE:=Zh hsb;obtain⟨x0,x1,x2,x3⟩:=Qt HSB.o;have HTM:=Zh (show Calls Tryz.prog 235 #[.agg #[iv s.op,sv s.dfn,.slice ua un uc,.slice ta k tc]] W (Qia (QTg s.op) W) from QUi s _ _ W);obtain⟨tb,htb⟩:=Ze (QTg s.op);rw [htb] at HTM;have HE:=Zh (show tgtE l s last=if tb != last then 4 else if s.targets.all (fun t=>l.contains t) then 0 else 5 by rw [←htb];rfl);clear ht hlen htc hk hW hm htb;go_enter Tryz.func192,Tryz.ntmps192;go_upto_region 1 with(fail)
 rw [show w.alloc (.cells #[iv s.op,sv s.dfn,.slice ua un uc,.slice ta k tc] 94)=W from HWW.o]
 try rw [hsb]
 clear hsb;go_wp2_with fail;refine HTM.o.mono ?_;rintro e w1 ⟨rfl,b1⟩;have B1:=Zh (BW.o.trans (b1.mono BW.o.size));have HM1:=Zh (HM.o.below b1);have HSB1:=Zh (Qc HSB.o b1 (Qb HSB.o));clear b1 x0 x1 x2 x3;obtain⟨x0,x1,x2,x3⟩:=Qt HSB1.o;have HE2:=Zh (show tgtE l s last=if (!(tb==last))=true then 4 else if s.targets.all (fun t=>l.contains t) then 0 else 5 from HE.o);clear HE;have HE:=HE2;clear HE2
 cases htl:(tb==last) with
|false=>
  rw [htl] at HE;go_wp2;go_ret;exact⟨by rw [HE.o];rfl,B1.o⟩
|true=>
  rw [htl] at HE;go_wp2;go_loopw [16] (fun y wr=>∃i:Nat,i≤k∧y=.int .i64 i∧wr=w1∧Hid (s.targets.all (fun t=>l.contains t)=(s.targets.drop i).all (fun t=>l.contains t))) (fun y _=>k-(intOf y).toNat)
  case atStart=>exact⟨0,Nat.zero_le _,rfl,rfl,by unfold Hid;simp⟩
  case round=>
   obtain⟨i,hi,rfl,rfl,HA⟩:=hrel;by_cases hlt:i<k;rotate_left
   ·have HF:=Zh (show s.targets.all (fun t=>l.contains t)=true by rw [HA.o,List.drop_eq_nil_of_le (by rw [HK.o];omega)];rfl);go_wp2;go_ret;exact⟨by rw [HE.o,HF.o];rfl,B1.o⟩
   ·obtain⟨x,hx⟩:∃x,s.targets[i]? = some x:=⟨_,List.getElem?_eq_getElem (by rw [HK.o];exact hlt)⟩;obtain⟨b,off,rfl,hb,hc⟩:=HTC.o i x hx;have hc:=(B1.o.cell (p:=⟨b,off+i,none⟩) hb).trans hc;have lk:=HM1.o.look (HLEN.o x (List.mem_of_getElem? hx));have HS:=Zh (Qsn (fun t=>l.contains t) hx);have hin:(i:Int)<(k:Int):=by omega
    obtain⟨r,hr⟩:=Ze (l.contains x);rw [hr] at lk HS;clear hr hx
    cases r with
   |false=>
     have HF:=Zh (show s.targets.all (fun t=>l.contains t)=false by rw [HA.o,HS.o];rfl);go_wp2;go_ret;exact⟨by rw [HE.o,HF.o];rfl,B1.o⟩
   |true=>
     have HF:=Zh (show s.targets.all (fun t=>l.contains t)=(s.targets.drop (i+1)).all (fun t=>l.contains t) by rw [HA.o,HS.o];rfl);go_wp2;go_roundw
     case rel=>exact⟨i+1,by omega,by go_num,trivial,HF⟩
     case measure=>simp [intOf];omega
end
section
open Go.RowKit
variable [Base]
def Qbu (e:Int) (w:World) (x:Ending) (w':World):Prop:=∃a b c d:Int,x=.returned (.tuple #[.agg #[iv a,iv b,iv c,iv d],iv e])∧Below w.heap.size w w'
def Qct (f:Qo):Prop:=(∀b∈f.blocks,b.name.length≤1000)∧∀b∈f.blocks,∀s∈b.stmts,∀t∈s.targets,t.length≤maxLen
theorem Qzl {fs bs:List Str} {l:List QI} {k:Nat} {b:QI} (h:l[k]? = some b):QCd fs bs (l.drop k)=Qte (QIc fs bs b.stmts) (QCd fs bs (l.drop (k+1))):=by
 obtain⟨hk,rfl⟩:=List.getElem?_eq_some_iff.1 h;rw [List.drop_eq_getElem_cons hk];rfl
theorem QNl {fs bs:List Str} {l:List QD} {k:Nat} {s:QD} (h:l[k]? = some s):QIc fs bs (l.drop k)=Qte (QXi fs bs s (decide (k+1=l.length))) (QIc fs bs (l.drop (k+1))):=by
 obtain⟨hk,rfl⟩:=List.getElem?_eq_some_iff.1 h;rw [List.drop_eq_getElem_cons hk];show Qte (QXi fs bs l[k] (List.drop (k+1) l).isEmpty) (QIc fs bs (List.drop (k+1) l))=_
 congr 2
 rw [Bool.eq_iff_iff,List.isEmpty_iff];simp [List.drop_eq_nil_iff];omega
theorem QUh {e a:Int} (h:e≠0):Qte e a=e:=if_neg h
theorem QXj (f:Qo) (fi:Int) (fs:List Str) (mb n:Nat) (v:Value) (w:World) (hb:QOc w v f.blocks) (hs:Qct f) (hm:Qnb w mb n fs):
  Calls Tryz.prog 157 #[.agg #[sv f.name,v],iv fi,.map (some mb)] w (Qbu (Qxf fs f) w):=by
 obtain⟨ba,bc,rfl,hbn,hbc⟩:=hb.cell;have HBA:=Zh hb;have HBC:=Zh hbc;have HS:=Zh hs;obtain⟨bn,hbl⟩:=Ze f.blocks.length;rw [hbl] at hbn HBA ⊢;unfold maxLen at hbn;have HBL:=Zh hbl;obtain⟨fb,hfb⟩:=Ze w.heap.size;obtain⟨W,hW⟩:=Ze ((w.alloc (.cells #[sv f.name,.slice ba bn bc] 89)).alloc (.cells #[iv 0,iv 0,iv 0,iv 0] 108));have HFB:=Zh (show W.heap[fb]? = some (.cells #[sv f.name,.slice ba bn bc] 89 (0,0)) by rw [←hW,←hfb];exact Qfa _ (heap_alloc_new _ _));have HRB:=Zh (show W.heap[fb+1]? = some (.cells #[iv 0,iv 0,iv 0,iv 0] 108 (0,0)) by rw [←hW,←hfb];have:=heap_alloc_new (w.alloc (.cells #[sv f.name,.slice ba bn bc] 89)) (.cells #[iv 0,iv 0,iv 0,iv 0] 108);rwa [World.size_alloc] at this);have BW:=Zh (show Below w.heap.size w W by rw [←hW];exact(Zb).alloc (by simp) _);have HWW:=Zh hW;have HFE:=Zh hfb;have HM:=Zh (hm.below BW.o);have HMW:=Zh hm;obtain⟨x0,x1⟩:=Qq HFB.o;obtain⟨bs,hbs⟩:=Ze (QPb f);have HD:=Zh (show Calls Tryz.prog 190 #[.slice ba bn bc,.func (.func 191) #[] #[]] W (DupQ bs W) from by rw [←hbs];exact QGs f.blocks HS.o.1 _ W (HBA.o.keep (Qf.below BW.o) (Qf.below BW.o) (Qf.below BW.o)));have HFN:=Zh (show Qxf fs f=if 0≤dupI bs then 6 else QCd fs bs f.blocks by unfold Qxf;rw [hbs]);have HBS:=Zh hbs;clear hb hbc hs hbl hW hm hbs;go_enter Tryz.func157,Tryz.ntmps157;go_upto_region 1 with(fail)
 rw [show(w.alloc (.cells #[sv f.name,.slice ba bn bc] 89)).alloc (.cells #[iv 0,iv 0,iv 0,iv 0] 108)=W from HWW.o]
 try rw [hfb]
 clear hfb;go_wp2_with fail;refine HD.o.mono ?_;rintro e w1 ⟨b2,rfl,hm2,hb2,b1⟩;have HM1:=Zh (HM.o.below b1);have HM2:=Zh hm2;have HFB1:=Zh (Qc HFB.o b1 (Qb HFB.o));have HRB1:=Zh (Qc HRB.o b1 (Qb HRB.o));have B1:=Zh (BW.o.trans (b1.mono BW.o.size));clear b1 hm2 hb2 x0 x1;obtain⟨x0,x1⟩:=Qq HFB1.o;obtain⟨r0,r1,r2,r3⟩:=Qt HRB1.o;have fr:=(Qa HRB1.o).2;obtain⟨d,hd⟩:=Ze (dupI bs);rw [hd] at HFN ⊢;clear hd;by_cases hd0:0≤d
 ·rw [if_pos hd0] at HFN;go_wp2;rw [HFN.o];obtain⟨z0,z1,z2,z3⟩:=Qt (set4 HRB1.o (iv 3) (iv fi) (iv d) (iv (-1)));exact bodyPost_ret (v:=.tuple #[.agg #[iv 3,iv fi,iv d,iv (-1)],iv 6]) (by simp [results,Tryz.results157,go_sem,z0,z1,z2,z3]) rfl ⟨_,_,_,_,rfl,by(first|exact(B1.o)|exact((((B1.o).setCell (by show w.heap.size≤fb+1;have:=HFE.o;omega) _).setCell (by show w.heap.size≤fb+1;have:=HFE.o;omega) _).setCell (by show w.heap.size≤fb+1;have:=HFE.o;omega) _).setCell (by show w.heap.size≤fb+1;have:=HFE.o;omega) _)⟩
 rw [if_neg hd0] at HFN;go_wp2;go_loopw [30] (fun y wr=>∃k:Nat,k≤bn∧y=.int .i64 k∧Hid (Below w.heap.size w wr)∧Hid (Qnb wr b2 bs.length bs)∧Hid (wr.heap[fb+1]? = some (.cells #[iv 0,iv 0,iv 0,iv 0] 108 (0,0)))∧Hid (Qxf fs f=QCd fs bs (f.blocks.drop k))) (fun y _=>bn-(intOf y).toNat)
 case atStart=>exact⟨0,Nat.zero_le _,rfl,B1.o,HM2.o,HRB1.o,HFN.o⟩
 case round=>
  obtain⟨k,hk,rfl,HB,HN2,HR,HE⟩:=hrel;clear x0 x1 r0 r1 r2 r3 fr;obtain⟨r0,r1,r2,r3⟩:=Qt HR.o;have fr:=(Qa HR.o).2;by_cases hlt:k<bn;rotate_left
  ·have HF:=Zh (show Qxf fs f=0 by rw [HE.o,List.drop_eq_nil_of_le (by rw [HBL.o];omega)];rfl);go_wp2;rw [HF.o];obtain⟨z0,z1,z2,z3⟩:=Qt (set4 HR.o (iv 0) (iv 0) (iv 0) (iv 0));exact bodyPost_ret (v:=.tuple #[.agg #[iv 0,iv 0,iv 0,iv 0],iv 0]) (by simp [results,Tryz.results157,go_sem,z0,z1,z2,z3]) rfl ⟨_,_,_,_,rfl,by(first|exact(HB.o)|exact((((HB.o).setCell (by show w.heap.size≤fb+1;have:=HFE.o;omega) _).setCell (by show w.heap.size≤fb+1;have:=HFE.o;omega) _).setCell (by show w.heap.size≤fb+1;have:=HFE.o;omega) _).setCell (by show w.heap.size≤fb+1;have:=HFE.o;omega) _)⟩
  ·obtain⟨b,hb⟩:∃b,f.blocks[k]? = some b:=⟨_,List.getElem?_eq_getElem (by rw [HBL.o];exact hlt)⟩;obtain⟨kb,ko,sv0,rfl,hkb,g0,g1,hsl⟩:=HBC.o k b hb;have g0:=(HB.o.cell (p:=⟨kb,ko+k*2,none⟩) hkb).trans g0;have g1:=(HB.o.cell (p:=⟨kb,ko+k*2+1,none⟩) hkb).trans g1;obtain⟨sa,sc,rfl,hsn,hsc⟩:=hsl.cell;have HSC:=Zh hsc;obtain⟨sn,hsl2⟩:=Ze b.stmts.length;rw [hsl2] at hsn g1;unfold maxLen at hsn;have HSL:=Zh hsl2;have HBD:=Zh (HE.o.trans (Qzl hb));have HSH:=Zh (fun s hs t ht=>HS.o.2 b (List.mem_of_getElem? hb) s hs t ht);have hin:(k:Int)<(bn:Int):=by omega
   obtain⟨bb,hbb⟩:=Ze wr.heap.size;obtain⟨V,hV⟩:=Ze (wr.alloc (.cells #[sv b.name,.slice sa sn sc] 92));have HBB:=Zh (show V.heap[bb]? = some (.cells #[sv b.name,.slice sa sn sc] 92 (0,0)) by rw [←hV,←hbb];exact heap_alloc_new _ _);have BV:=Zh (show Below wr.heap.size wr V by rw [←hV];exact Zb);have HVV:=Zh hV;have HB2:=Zh (HB.o.trans (BV.o.mono HB.o.size));have HN3:=Zh (HN2.o.below BV.o);have HR3:=Zh (Qc HR.o BV.o (Qb HR.o));clear hb hsl hsc hsl2 hV;go_upto_region 7 with(fail)
   rw [show wr.alloc (.cells #[sv b.name,.slice sa sn sc] 92)=V from HVV.o]
   try rw [hbb]
   clear hbb g0 g1 r0 r1 r2 r3 fr;obtain⟨x0,x1⟩:=Qq HBB.o;go_wp2;obtain⟨V0,hV0⟩:∃V0,V0=V:=⟨_,rfl⟩;go_loopw [38] (fun y wr=>∃j:Nat,j≤sn∧y=.int .i64 j∧Hid (Below w.heap.size w wr)∧Hid (Qnb wr b2 bs.length bs)∧Hid (wr.heap[fb+1]? = some (.cells #[iv 0,iv 0,iv 0,iv 0] 108 (0,0)))∧Hid (wr.heap[bb]? = some (.cells #[sv b.name,.slice sa sn sc] 92 (0,0)))∧Hid (QIc fs bs b.stmts=QIc fs bs (b.stmts.drop j))) (fun y _=>sn-(intOf y).toNat)
   case atStart=>exact⟨0,Nat.zero_le _,rfl,HB2.o,HN3.o,HR3.o,HBB.o,by unfold Hid;simp⟩
   case round=>
    clear x0 x1;obtain⟨j,hj,rfl,HB4,HN4,HR4,HBB4,HE4⟩:=hrel;obtain⟨x0,x1⟩:=Qq HBB4.o;by_cases hlt2:j<sn;rotate_left
    ·have HF:=Zh (show QIc fs bs b.stmts=0 by rw [HE4.o,List.drop_eq_nil_of_le (by rw [HSL.o];omega)];rfl);have HF2:=Zh (show Qxf fs f=QCd fs bs (f.blocks.drop (k+1)) by rw [HBD.o,HF.o];rfl);go_wp2;go_roundw
     case rel=>exact⟨k+1,by omega,by go_num,HB4,HN4,HR4,HF2⟩
     case measure=>simp [intOf];omega
    ·obtain⟨s,hs⟩:∃s,b.stmts[j]? = some s:=⟨_,List.getElem?_eq_getElem (by rw [HSL.o];exact hlt2)⟩;obtain⟨jb,jo,su,tu,rfl,hjb,q0,q1,q2,q3,hsu,htu⟩:=HSC.o j s hs;have q0:=(HB4.o.cell (p:=⟨jb,jo+j*4,none⟩) hjb).trans q0;have q1:=(HB4.o.cell (p:=⟨jb,jo+j*4+1,none⟩) hjb).trans q1;have q2:=(HB4.o.cell (p:=⟨jb,jo+j*4+2,none⟩) hjb).trans q2;have q3:=(HB4.o.cell (p:=⟨jb,jo+j*4+3,none⟩) hjb).trans q3;obtain⟨sua,suc,rfl,-,-⟩:=hsu.cell;have HTU:=Zh htu;obtain⟨tua,tuc,rfl,-,-⟩:=htu.cell;obtain⟨un,hun⟩:=Ze s.uses.length;obtain⟨tn,htn⟩:=Ze s.targets.length;rw [hun] at q2;rw [htn] at q3 HTU;have HSD:=Zh (HE4.o.trans (QNl hs));have HSM:=Zh (List.mem_of_getElem? hs);have hjn:(j:Int)<(sn:Int):=by omega
     have hls:(decide (j+1=b.stmts.length))=((j:Int)==(sn:Int)-1):=by rw [HSL.o,Bool.eq_iff_iff];simp;omega
     rw [hls,Qmq] at HSD;obtain⟨sb,hsb⟩:=Ze wr.heap.size;obtain⟨U,hU⟩:=Ze (wr.alloc (.cells #[iv s.op,sv s.dfn,.slice sua un suc,.slice tua tn tuc] 94));have HSB:=Zh (show U.heap[sb]? = some (.cells #[iv s.op,sv s.dfn,.slice sua un suc,.slice tua tn tuc] 94 (0,0)) by rw [←hU,←hsb];exact heap_alloc_new _ _);have BU:=Zh (show Below wr.heap.size wr U by rw [←hU];exact Zb);have HUU:=Zh hU;have HB5:=Zh (HB4.o.trans (BU.o.mono HB4.o.size));have HN5:=Zh (HN4.o.below BU.o);have HM5:=Zh (show Qnb U mb n fs from(HMW.o.below HB5.o));have HR5:=Zh (Qc HR4.o BU.o (Qb HR4.o));have HBB5:=Zh (Qc HBB4.o BU.o (Qb HBB4.o));have HTU5:=Zh (show Qea U (.slice tua tn tuc) s.targets from HTU.o.same (Qf.below HB5.o));clear hs hsu htu hun htn hU x0 x1 hls;go_upto_region 10 with(fail)
     rw [show wr.alloc (.cells #[iv s.op,sv s.dfn,.slice sua un suc,.slice tua tn tuc] 94)=U from HUU.o]
     try rw [hsb]
     clear hsb q0 q1 q2 q3;obtain⟨x0,x1⟩:=Qq HBB5.o;obtain⟨y0,y1,y2,y3⟩:=Qt HSB.o;obtain⟨lst,hlst⟩:=Ze (((j:Int)==(sn:Int)-1));rw [hlst] at HSD;have HLST:=Zh hlst;go_upto_if 46 with(fail)
     go_cut [14] from 43 to 47 (fun s14 wx=>∃(q nq:Nat) (ql:List Str),s14=.map (some q)∧U=wx∧Hid (Qnb U q nq ql)∧Hid (QIc fs bs b.stmts=Qte (tgtE ql s lst) (QIc fs bs (b.stmts.drop (j+1)))))
     case first=>
      by_cases h3:s.op=3
      ·have h3b:(s.op==3)=true:=by simpa using h3
       rw [h3b,if_pos rfl] at HSD;go_wp2;go_meet
       case rel=>exact⟨mb,n,fs,rfl,rfl,HM5,HSD⟩
      ·have h3b:(s.op==3)=false:=by simpa using h3
       rw [h3b,if_neg (by simp)] at HSD;go_wp2;go_meet
       case rel=>exact⟨b2,bs.length,bs,rfl,rfl,HN5,HSD⟩
     case rest=>
      obtain⟨q,nq,ql,rfl,rfl,HQM,HSQ⟩:=hcut;clear HSD;have HSD:=HSQ;clear HSQ;obtain⟨er,her⟩:=Ze (tgtE ql s lst);have HST:=Zh (show Calls Tryz.prog 192 #[.agg #[iv s.op,sv s.dfn,.slice sua un suc,.slice tua tn tuc],.bool lst,.map (some q)] U (IntQ er U) from by rw [←her];exact QZj s lst ql _ _ _ _ _ _ U HTU5.o (fun t ht=>HSH.o s HSM.o t ht) HQM.o);rw [her] at HSD;clear her;go_wp2_with fail;refine HST.o.mono ?_;rintro e w6 ⟨rfl,b6⟩;have HB6:=Zh (HB5.o.trans (b6.mono HB5.o.size));have HN6:=Zh (HN5.o.below b6);have HR6:=Zh (Qc HR5.o b6 (Qb HR5.o));have HBB6:=Zh (Qc HBB5.o b6 (Qb HBB5.o));clear b6 x0 x1 y0 y1 y2 y3 hlst;obtain⟨r0,r1,r2,r3⟩:=Qt HR6.o;have fr:=(Qa HR6.o).2;by_cases her0:er=0
      ·have HF:=Zh (show QIc fs bs b.stmts=QIc fs bs (b.stmts.drop (j+1)) by rw [HSD.o,her0];rfl);have hne0:(er != 0)=false:=by simpa using her0
       clear her0;go_wp2;go_roundw
       case rel=>exact⟨j+1,by omega,by go_num,HB6,HN6,HR6,HBB6,HF⟩
       case measure=>simp [intOf];omega
      ·have HF:=Zh (show Qxf fs f=er by rw [HBD.o,HSD.o,QUh her0,QUh her0]);have hne0:(er != 0)=true:=by simpa using her0
       clear her0;go_wp2;rw [HF.o];obtain⟨z0,z1,z2,z3⟩:=Qt (set4 HR6.o (iv 3) (iv fi) (iv k) (iv j));exact bodyPost_ret (v:=.tuple #[.agg #[iv 3,iv fi,iv k,iv j],iv er]) (by simp [results,Tryz.results157,go_sem,z0,z1,z2,z3]) rfl ⟨_,_,_,_,rfl,by(first|exact(HB6.o)|exact((((HB6.o).setCell (by show w.heap.size≤fb+1;have:=HFE.o;omega) _).setCell (by show w.heap.size≤fb+1;have:=HFE.o;omega) _).setCell (by show w.heap.size≤fb+1;have:=HFE.o;omega) _).setCell (by show w.heap.size≤fb+1;have:=HFE.o;omega) _)⟩
end
section
open Go.RowKit
variable [Base]
theorem Qph:(Tryz.prog.info? 9).map (fun i=>(i.zero,i.size,i.bytes))=some (some (Value.string ⟨#[]⟩),1,16):=by kernel_rfl
def QAu (w:World) (n:Nat) (xs:List Value) (e:Ending) (w':World):Prop:=
 ∃a c,e=.returned (.slice a n c)∧w'.ownsRow w.heap.size 9 1 (.slice a n c) n xs∧Below w.heap.size w w'
theorem Qlr (w:World):(w.alloc (.cells #[] 9)).ownsRow w.heap.size 9 1 (.slice (some ⟨w.heap.size,0,none⟩) 0 0) 0 []:=
 ⟨rfl,.inr ⟨w.heap.size,0,#[],rfl,Nat.le_refl _,heap_alloc_new w _,Nat.le_refl _,Nat.zero_le _,rfl,rfl⟩⟩
theorem Qor (v:Value) (n:Nat) (xs:List Value) (w:World) (h:Qg w 9 1 v xs) (hl:xs.length=n*1) (ho:xs.all Value.oneCell'=true) (hn:n≤8796093022208):
  Calls Tryz.prog 232 #[v] w (QAu w n xs):=by
 have H:=Zh h;have L:=Zh hl;have O:=Zh ho;obtain⟨m,cap,e1,e2,e3,h4⟩:=h;have hm:m=n:=by omega
 subst hm;obtain⟨oa,oc,rfl,hoc,hnil⟩:∃oa oc,v=.slice oa m oc∧oc≤maxLen∧(oa=none→m=0∧oc=0):=by
  rcases h4 with⟨⟨a,rfl⟩,rfl⟩|⟨b,off,c,fr,rfl,hb,hc⟩
  ·exact⟨a,0,rfl,Nat.zero_le _,fun _=>⟨rfl,rfl⟩⟩
  ·exact⟨_,cap,rfl,e3,fun h=>by cases h⟩
 clear h4;rcases oa with _|oa
 ·obtain⟨rfl,rfl⟩:=hnil rfl;have hx:xs=[]:=List.length_eq_zero_iff.1 (by omega);subst hx;clear hl ho e1 H L O;have q:=fun (w:World) (a:Option Addr) (n c n' c':Nat)=>Lib.run_eql_slice_nil (P:=Tryz.prog) w 86 9 a n c n' c' Tryz.underlying86
  go_enter Tryz.func232,Tryz.ntmps232;go_wp2;go_ret;exact⟨none,0,rfl,World.ownsRow_nil _ _ _ _,Below.refl _ _⟩
 ·unfold maxLen at e3 hoc;have OW:=Zh (Qlr w);clear hl ho e1 hnil;have q:=fun (w:World) (a:Option Addr) (n c n' c':Nat)=>Lib.run_eql_slice_nil (P:=Tryz.prog) w 86 9 a n c n' c' Tryz.underlying86
  go_enter Tryz.func232,Tryz.ntmps232;go_wp2_with (at_builtin;refine wpList_append_sl rfl _ _ 86 rfl w.heap.size 9 _ 1 16 Tryz.underlying86 Qph rfl (by decide) _ _ _ OW.o rfl _ m _ rfl (Qg.same H.o Qf.alloc) L.o O.o (by unfold maxLen;omega) (by omega) (by simp) ?_;intro g d w1 own1 gr1;simp only [Nat.zero_add,List.nil_append] at own1;have OW1:=Zh own1;have B1:=Zh (((Below.refl w.heap.size w).alloc (Nat.le_refl _) _).trans (Below.of_grown gr1 OW.o (by simp)));clear own1 gr1);go_ret;exact⟨_,_,by simp,OW1.o,B1.o⟩
end
section
open Go.RowKit
variable [Base]
def Qyr (ls:List (List UInt8)) (l:List UInt8) (w:World) (e:Ending) (w':World):Prop:=
 ∃r:Int,e=.returned (.int .i64 r)∧Hid (decide (0≤r)=hasB ls l)∧∃k,w'=w.drewN k
theorem Qar (ls:List (List UInt8)) (l:List UInt8) (n c:Nat) (a:Option Addr) (w:World) (hx:Hid (ls.length=n)) (hn:n≤9223372036854775807) (F:Hid (Qvn w a ls)):
  Calls Tryz.prog 160 #[.slice a n c,.string ⟨l.toArray⟩] w (Qyr ls l w):=by
 go_enter Tryz.func160,Tryz.ntmps160;go_wp2;go_loopw [8] (fun v wr=>∃k m:Nat,k≤n∧v=.int .i64 k∧wr=w.drewN m∧Hid (hasB ls l=hasB (ls.drop k) l)) (fun v _=>n-(intOf v).toNat)
 case atStart=>exact⟨0,0,Nat.zero_le _,rfl,rfl,by unfold Hid;simp⟩
 case round=>
  obtain⟨k,m,hk,rfl,rfl,hs⟩:=hrel;by_cases hlt:k<n
  ·obtain⟨t,ht⟩:∃t,ls[k]? = some t:=⟨ls[k]'(by have:=hx.o;omega),by simp⟩;obtain⟨b,off,rfl,g⟩:=F.o k t ht;have st:=Zh (Qig ls k t l ht);clear ht
   cases e:l==t
   ·go_wp2;go_roundw
    case rel=>exact⟨k+1,_,by omega,by go_num,rfl,by unfold Hid;rw [hs.o,st.o,e];rfl⟩
    case measure=>simp [intOf];omega
   ·go_wp2;go_ret;exact⟨k,rfl,by unfold Hid;rw [hs.o,st.o,e];simp,_,rfl⟩
  ·go_wp2;go_ret;exact⟨-1,rfl,by unfold Hid;rw [hs.o,List.drop_of_length_le (by have:=hx.o;omega)];rfl,_,rfl⟩
end
section
open Go.RowKit
variable [Base]
theorem Quh (ls:List (List UInt8)) (l:List UInt8) (n c:Nat) (a:Option Addr) (w:World) (hx:Hid (ls.length=n)) (hn:n≤9223372036854775807) (F:Hid (Qvn w a ls)):
  Calls Tryz.prog 229 #[.slice a n c,.string ⟨l.toArray⟩] w fun e w'=>e=.returned (.bool (hasB ls l))∧∃k,w'=w.drewN k:=by
 go_enter Tryz.func229,Tryz.ntmps229;go_wp2_with (go_at_call 160;refine(Qar ls l n c a _ hx hn F).mono ?_;rintro e w' ⟨r,rfl,hr,k,rfl⟩);go_ret;exact⟨Qgb hr.o,_,rfl⟩
def KwAt (w:World):Prop:=∃a c,w.cell? ⟨2,0,none⟩=some (.slice a 11 c)∧Qvn w a kws
theorem Qqo (w:World):
  Calls Tryz.prog 186 #[.string ⟨#[]⟩] w fun e w'=>e=.returned (.bool (QV []))∧∃k,w'=w.drewN k:=by
 go_enter Tryz.func186,Tryz.ntmps186;go_wp2;go_ret;exact⟨Qgb rfl,0,rfl⟩
theorem QBm (c:UInt8) (r:List UInt8) (w:World) (h0:16<(c::r).length):
  Calls Tryz.prog 186 #[.string ⟨(c::r).toArray⟩] w fun e w'=>e=.returned (.bool (QV (c::r)))∧∃k,w'=w.drewN k:=by
 rw [Qxk h0];have h:decide ((16:Int)<(r.length:Int)+1)=true:=by simp at h0 ⊢;omega
 clear h0;go_enter Tryz.func186,Tryz.ntmps186;go_wp2;go_ret;exact⟨rfl,0,rfl⟩
theorem Qol (c:UInt8) (r:List UInt8) (w:World) (h0:(c::r).length≤16) (h1:Qjb (c.toNat:Int)=false):
  Calls Tryz.prog 186 #[.string ⟨(c::r).toArray⟩] w fun e w'=>e=.returned (.bool (QV (c::r)))∧∃k,w'=w.drewN k:=by
 rw [Qtj (show QGg (c::r)=false from h1)];have h:decide ((16:Int)<(r.length:Int)+1)=false:=by simp at h0 ⊢;omega
 clear h0;have h2:Qjb (((⟨(c::r).toArray⟩:ByteArray)[0]'(by rw [Qbl];simp)).toNat:Int)=false:=h1;clear h1;go_enter Tryz.func186,Tryz.ntmps186;go_wp2_with (go_at_call 228;refine(Qqe _ _).mono ?_;rintro e w' ⟨rfl,rfl⟩);go_ret;exact⟨rfl,0,rfl⟩
theorem QUq (c:UInt8) (r:List UInt8) (w:World) (h0:(c::r).length≤16) (h1:Qjb (c.toNat:Int)=true) (KW:KwAt w):
  Calls Tryz.prog 186 #[.string ⟨(c::r).toArray⟩] w fun e w'=>e=.returned (.bool (QV (c::r)))∧∃k,w'=w.drewN k:=by
 obtain⟨a,cp,hk,hF⟩:=KW;have F:=Zh hF;clear hF;have hl:(⟨(c::r).toArray⟩:ByteArray).size=r.length+1:=by rw [Qbl];simp
 have WE:=Zh (fun w=>QEl ⟨(c::r).toArray⟩ 0 w (by rw [hl];unfold maxLen;simp at h0;omega) (Nat.zero_le _));clear hl;have h:decide ((16:Int)<(r.length:Int)+1)=false:=by simp at h0 ⊢;omega
 have h2:Qjb (((⟨(c::r).toArray⟩:ByteArray)[0]'(by rw [Qbl];simp)).toNat:Int)=true:=h1;have H0:=Zh h0;have H1:=Zh h1;clear h0 h1
 cases e:hasB kws (c::r)
 ·have EE:=Zh e;go_enter Tryz.func186,Tryz.ntmps186;go_wp2_with (first
  |(go_at_call 228;refine(Qqe _ _).mono ?_;rintro e w' ⟨rfl,rfl⟩)
  |(go_at_call 229;refine(Quh kws (c::r) 11 cp a _ rfl (by omega) F).mono ?_;rintro e w' ⟨rfl,k,rfl⟩)
  |(go_at_call 230;refine(WE.o _).mono ?_;rintro e w' ⟨rfl,rfl⟩))
  go_ret;refine⟨Qgb ?_,_,rfl⟩;rw [Qwk H0.o H1.o EE.o];have ht:=QCr Qha (c::r);have hw:wlen ⟨(c::r).toArray⟩ 0=((c::r).takeWhile Qha).length:=rfl;rw [←hw] at ht;rw [Bool.eq_iff_iff,←ht];have hs:((0+wlen ⟨(c::r).toArray⟩ 0:Nat):Int)=(wlen ⟨(c::r).toArray⟩ 0:Int):=by simp
  simp;omega
 ·rw [QFp e];go_enter Tryz.func186,Tryz.ntmps186;go_wp2_with (first
  |(go_at_call 228;refine(Qqe _ _).mono ?_;rintro e w' ⟨rfl,rfl⟩)
  |(go_at_call 229;refine(Quh kws (c::r) 11 cp a _ rfl (by omega) F).mono ?_;rintro e w' ⟨rfl,k,rfl⟩))
  go_ret;exact⟨rfl,_,rfl⟩
theorem Qzj (s:ByteArray) (w:World) (KW:KwAt w):
  Calls Tryz.prog 186 #[.string s] w fun e w'=>e=.returned (.bool (QV s.data.toList))∧∃k,w'=w.drewN k:=by
 obtain⟨⟨l⟩⟩:=s
 match l with
|[]=>exact Qqo w
|c::r=>
  show Calls Tryz.prog 186 #[.string ⟨(c::r).toArray⟩] w fun e w'=>e=.returned (.bool (QV (c::r)))∧∃k,w'=w.drewN k
  by_cases h0:16<(c::r).length
  ·exact QBm c r w h0
  cases h1:Qjb (c.toNat:Int)
  ·exact Qol c r w (by omega) h1
  ·exact QUq c r w (by omega) h1 KW
end
section
open Go.RowKit
variable [Base]
def KwIn (B:Nat) (w:World):Prop:=(2<B∧Base.b≤B)∧∃b off c,b<B∧w.cell? ⟨2,0,none⟩=some (.slice (some ⟨b,off,none⟩) 11 c)∧Qvn w (some ⟨b,off,none⟩) kws
theorem KwIn.at_ {B:Nat} {w w':World} (h:KwIn B w) (hb:Below B w w'):KwAt w':=by
 obtain⟨h0,b,off,c,h1,h2,h3⟩:=h;refine⟨some ⟨b,off,none⟩,c,(hb.cell (p:=⟨2,0,none⟩) (by show 2<B;omega)).trans h2,fun k s hk=>?_⟩;obtain⟨b',off',e,hc⟩:=h3 k s hk;injection e with e
 injection e with e1 e2
 subst e1 e2;exact⟨b,off,rfl,(hb.cell (p:=⟨b,off+k,none⟩) h1).trans hc⟩
theorem KwIn.keep {B:Nat} {w w':World} (h:KwIn B w) (hB:∀k,k<B→w'.heap[k]? = w.heap[k]?):KwIn B w':=by
 obtain⟨h0,b,off,c,h1,h2,h3⟩:=h;refine⟨h0,b,off,c,h1,(World.cell?_of_block (hB 2 (by omega))).trans h2,fun k s hk=>?_⟩;obtain⟨b',off',e,hc⟩:=h3 k s hk;injection e with e
 injection e with e1 e2
 subst e1 e2;exact⟨b,off,rfl,(World.cell?_of_block (hB b h1)).trans hc⟩
theorem KwIn.bs {B:Nat} {w:World} (h:KwIn B w):Base.b≤B:=h.1.2
end
section
open Go.RowKit
variable [Base]
def Qcu (b:Bool) (w:World) (e:Ending) (w':World):Prop:=e=.returned (.bool b)∧∃k,w'=w.drewN k
theorem Qmm (s:Str) (w:World) (kw:KwAt w):Calls Tryz.prog 234 #[sv s] w (Qcu (!QV s) w):=by
 have K:=Zh (Qzj ⟨s.toArray⟩ w kw);obtain⟨r,hr⟩:=Ze (QV s);have HR:=Zh (show QV (ByteArray.mk s.toArray).data.toList=r from hr);rw [hr];clear kw hr;go_enter Tryz.func234,Tryz.ntmps234;go_wp2_with fail;refine K.o.mono ?_;rintro e w' ⟨rfl,k,rfl⟩;rw [HR.o];go_wp2;go_ret;exact⟨rfl,k,rfl⟩
def QEu (l:List Str) (w:World) (e:Ending) (w':World):Prop:=∃z:Int,e=.returned (iv z)∧-1≤z∧l.all QV=decide (z<0)∧∃k,w'=w.drewN k
theorem QBo (l:List Str) (v:Value) (w:World) (h:Qea w v l) (kw:KwAt w):
  Calls Tryz.prog 251 #[v,.func (.func 234) #[] #[]] w (QEu l w):=by
 obtain⟨a,c,rfl,hn,hc⟩:=h.cell;have HC:=Zh hc;have KW:=Zh kw;obtain⟨n,hl⟩:=Ze l.length;rw [hl] at hn ⊢;have HL:=Zh hl;clear hc h hl kw;unfold maxLen at hn;go_enter Tryz.func251,Tryz.ntmps251;go_wp2;go_loopw [8] (fun x wr=>∃k m:Nat,k≤n∧x=.int .i64 k∧wr=w.drewN m∧Hid (l.all QV=(l.drop k).all QV)) (fun x _=>n-(intOf x).toNat)
 case atStart=>exact⟨0,0,Nat.zero_le _,rfl,rfl,by unfold Hid;simp⟩
 case round=>
  obtain⟨k,m,hk,rfl,rfl,HA⟩:=hrel;by_cases hlt:k<n
  ·obtain⟨t,ht⟩:∃t,l[k]? = some t:=⟨_,List.getElem?_eq_getElem (show k<l.length by have:=HL.o;omega)⟩;obtain⟨b1,o1,rfl,_,g1⟩:=HC.o k t ht;have K:=Zh (Qmm t (w.drewN m) KW.o);have HS:=Zh (Qsn QV ht);obtain⟨r,hr⟩:=Ze (QV t);rw [hr] at K HS;clear ht hr
   cases r with
  |false=>
    have HF:=Zh (show l.all QV=false by rw [HA.o,HS.o];rfl);go_wp2_with fail;refine K.o.mono ?_;rintro e w' ⟨rfl,k2,rfl⟩;go_wp2;go_ret;exact⟨(k:Int),rfl,by omega,by rw [HF.o];simp,_,rfl⟩
  |true=>
    have HF:=Zh (show l.all QV=(l.drop (k+1)).all QV by rw [HA.o,HS.o];rfl);go_wp2_with fail;refine K.o.mono ?_;rintro e w' ⟨rfl,k2,rfl⟩;go_wp2;go_roundw
    case rel=>exact⟨k+1,_,by omega,by go_num,rfl,HF⟩
    case measure=>simp [intOf];omega
  ·have HF:=Zh (show l.all QV=true by rw [HA.o,List.drop_eq_nil_of_le (by rw [HL.o];omega)];rfl);go_wp2;go_ret;exact⟨-1,rfl,by omega,by rw [HF.o];rfl,_,rfl⟩
theorem Qhg (l:List Str) (v:Value) (w:World) (h:Qea w v l) (kw:KwAt w):
  Calls Tryz.prog 233 #[v,.func (.func 234) #[] #[]] w (Qcu (!l.all QV) w):=by
 obtain⟨a,c,rfl,-,-⟩:=h.cell;have K:=Zh (QBo l _ w h kw);clear h kw;go_enter Tryz.func233,Tryz.ntmps233;go_wp2_with fail;refine K.o.mono ?_;rintro e w' ⟨z,rfl,hz,ha,k,rfl⟩;have HA:=Zh (show(!l.all QV)=decide (0≤z) by rw [ha,Bool.eq_iff_iff];simp);clear ha;go_wp2;go_ret;exact⟨by rw [HA.o];rfl,k,rfl⟩
end
section
def useN (op:Int) (n:Nat):Int:=if op=1 then n else if op=2 then max n 1 else if op=5∨op=8 then 1 else 0
def tgtN (op:Int):Int:=if op=8 then 2 else if op=3∨op=7 then 1 else 0
def opK (op:Int):Bool:=decide (1≤op)&&decide (op≤9)
def Qhh (s:QD):List Str:=s.uses++s.targets++(if dfnB s.op then [s.dfn] else [])
def QHh (s:QD):Bool:=
 opK s.op&&((dfnB s.op||s.dfn.isEmpty)&&(decide ((s.uses.length:Int)=useN s.op s.uses.length)&&(decide (useN s.op s.uses.length≤4)&&(decide ((s.targets.length:Int)=tgtN s.op)&&(Qhh s).all QV))))
theorem Qtn (s:QD):(Qhh s).all QV=(s.uses.all QV&&s.targets.all QV&&(!dfnB s.op||QV s.dfn)):=by
 unfold Qhh;rw [List.all_append,List.all_append]
 cases dfnB s.op <;> simp
theorem QYi (s:QD):stmtB s=QHh s:=by
 unfold stmtB QHh;rw [Qtn];obtain⟨op,d,us,ts⟩:=s;unfold opB opK Qjl useN tgtN dfnB;simp only [];generalize us.all QV=a;generalize ts.all QV=b;generalize QV d=c;generalize d.isEmpty=e;generalize us.length=n;generalize ts.length=m;have hc:op=1∨op=2∨op=3∨op=4∨op=5∨op=6∨op=7∨op=8∨op=9∨¬(1≤op∧op≤9):=by omega
 rcases hc with rfl|rfl|rfl|rfl|rfl|rfl|rfl|rfl|rfl|hc
 rotate_left 9
 ·have h1:op≠1:=by omega
  have h2:op≠2:=by omega
  have h3:op≠3:=by omega
  have h4:op≠4:=by omega
  have h5:op≠5:=by omega
  have h6:op≠6:=by omega
  have h7:op≠7:=by omega
  have h8:op≠8:=by omega
  have h9:op≠9:=by omega
  have h10:(decide (1≤op)&&decide (op≤9))=false:=by rw [Bool.eq_false_iff];simp;omega
  rw [h10];simp [h1,h2,h3,h4,h5,h6,h7,h8,h9]
 all_goals
  rw [Bool.eq_iff_iff]
  cases a <;> cases b <;> cases c <;> cases e <;> simp <;> omega
end
section
open Go.RowKit
variable [Base]
theorem QZp (l:List Str):(l.map sv).all Value.oneCell'=true:=by
 rw [List.all_eq_true];intro x hx;obtain⟨y,_,rfl⟩:=List.mem_map.1 hx;rfl
theorem QCn {B:Nat} {w:World} (kw:KwIn B w) (hB:B≤w.heap.size) (s:QD) (u t:Value) (hu:Qea w u s.uses) (ht:Qea w t s.targets) (hf:(s.uses.length+s.targets.length+1)*16≤140737488355328):
  Calls Tryz.prog 189 #[.agg #[iv s.op,sv s.dfn,u,t]] w (Qia (stmtB s) w):=by
 obtain⟨ua,uc,rfl,-,-⟩:=hu.cell;obtain⟨ta,tc,rfl,-,-⟩:=ht.cell;rw [QYi];obtain⟨op,d,us,ts⟩:=s;simp only [] at hu ht hf ⊢;have HP:=Zh (show QHh ⟨op,d,us,ts⟩=(opK op&&((dfnB op||d.isEmpty)&&(decide ((us.length:Int)=useN op us.length)&&(decide (useN op us.length≤4)&&(decide ((ts.length:Int)=tgtN op)&&(us++ts++(if dfnB op then [d] else [])).all QV))))) from rfl);obtain⟨R,hR⟩:=Ze (QHh ⟨op,d,us,ts⟩);rw [hR] at HP ⊢;clear hR;obtain⟨n,hn⟩:=Ze us.length;obtain⟨m,hm⟩:=Ze ts.length;rw [hn] at hu hf HP ⊢;rw [hm] at ht hf HP ⊢;have HU:=Zh hu;have HT:=Zh ht;have HN:=Zh hn;have HM:=Zh hm;have KK:=Zh kw;have HF:=Zh hf;obtain⟨W,hW⟩:=Ze (w.alloc (.cells #[iv op,sv d,.slice ua n uc,.slice ta m tc] 94));have HB0:=Zh (show W.heap[w.heap.size]? = some (.cells #[iv op,sv d,.slice ua n uc,.slice ta m tc] 94 (0,0)) by rw [←hW];exact heap_alloc_new _ _);have B0:=Zh (show Below w.heap.size w W by rw [←hW];exact Zb);have HW:=Zh hW;obtain⟨x0,x1,x2,x3⟩:=Qt HB0.o;clear hu ht hn hm kw hf hW;go_enter Tryz.func189,Tryz.ntmps189;go_upto_region 1 with(fail)
 rw [show w.alloc (.cells #[iv op,sv d,.slice ua n uc,.slice ta m tc] 94)=W from HW.o];go_quiet (fail);go_upto_block 0 with fail
 obtain⟨W1,hW1⟩:=Ze (W.drewN nq);have HB1:=Zh (show W1.heap[w.heap.size]? = some (.cells #[iv op,sv d,.slice ua n uc,.slice ta m tc] 94 (0,0)) by rw [←hW1];exact HB0.o);have B1:=Zh (show Below w.heap.size w W1 by rw [←hW1];exact below_drewN B0.o nq);rw [hW1];clear hW1 x0 x1 x2 x3;obtain⟨x0,x1,x2,x3⟩:=Qt HB1.o;go_cut [3,4,5] from 10 to 36 (fun s3 s4 s5 wx=>s3=iv (if dfnB op then 1 else 0)∧s4=iv (useN op n)∧s5=iv (tgtN op)∧opK op=true∧W1=wx)
 case first=>
  have hc:op=1∨op=2∨op=3∨op=4∨op=5∨op=6∨op=7∨op=8∨op=9∨¬(1≤op∧op≤9):=by omega
  rcases hc with rfl|rfl|rfl|rfl|rfl|rfl|rfl|rfl|rfl|hc
  rotate_left 9
  ·have h1:op≠1:=by omega
   have h2:op≠2:=by omega
   have h3:op≠3:=by omega
   have h4:op≠4:=by omega
   have h5:op≠5:=by omega
   have h6:op≠6:=by omega
   have h7:op≠7:=by omega
   have h8:op≠8:=by omega
   have h9:op≠9:=by omega
   have HR:=Zh (show R=false by
    rw [HP.o,show opK op=false from by unfold opK;rw [Bool.eq_false_iff];simp;omega];rfl)
   clear hc;go_wp2;go_ret;exact⟨by rw [HR.o];rfl,B1.o⟩
  all_goals go_wp2
  all_goals
   go_meet
   case rel=>exact⟨rfl,by first|rfl|(unfold useN;simp;try omega),rfl,rfl,rfl⟩
 case rest=>
  obtain⟨rfl,rfl,rfl,hok,rfl⟩:=hcut;have HOK:=Zh hok;have hWz:w.heap.size<W1.heap.size:=Qb HB1.o;have HUW:=Zh (Qg.same HU.o (Qf.below B1.o));have HTW:=Zh (Qg.same HT.o (Qf.below B1.o));have CL:=Zh (fun k=>Qor (.slice ua n uc) n (us.map sv) (W1.drewN k) (Qg.same HUW.o Qf.drewN) (by have:=HN.o;rw [List.length_map];omega) (QZp us) (by have:=HF.o;omega));clear hok;obtain⟨D,hD⟩:=Ze (dfnB op);rw [hD] at HP ⊢;clear hD;obtain⟨q,hq⟩:∃q:Int,(if D=true then 1 else 0)=q:=⟨_,rfl⟩;have HQ:=Zh hq;rw [hq];clear hq;go_upto_region 24 with(fail)
  refine QK (S:=(fun w'=>w'.cell? ⟨w.heap.size,2,none⟩=some (.slice ua n uc)∧w'.cell? ⟨w.heap.size,3,none⟩=some (.slice ta m tc))) (st:=6) (by kernel_rfl) ?_;refine Qr 0 ?z1 rfl (by kernel_rfl) (by kernel_rfl) (by kernel_rfl) (by kernel_rfl) (fun _ _ _ h=>h) ⟨x2,x3⟩ rfl ?rz1 ?sz1
  case rz1=>intro w hS;have hS1:=hS.1;have hS2:=hS.2;go_simp;rfl
  case sz1=>
  refine Qr 1 ?z2 rfl (by kernel_rfl) (by kernel_rfl) (by kernel_rfl) (by kernel_rfl) (fun _ _ _ h=>h) ⟨x2,x3⟩ rfl ?rz2 ?sz2
  case rz2=>intro w hS;have hS1:=hS.1;have hS2:=hS.2;go_simp;rfl
  case sz2=>
  refine Qr 3 ?z3 rfl (by kernel_rfl) (by kernel_rfl) (by kernel_rfl) (by kernel_rfl) (fun _ _ _ h=>h) ⟨x2,x3⟩ rfl ?rz3 ?sz3
  case rz3=>intro w hS;have hS1:=hS.1;have hS2:=hS.2;go_simp;rfl
  case sz3=>
  refine Qr 4 ?z4 rfl (by kernel_rfl) (by kernel_rfl) (by kernel_rfl) (by kernel_rfl) (fun _ _ _ h=>h) ⟨x2,x3⟩ rfl ?rz4 ?sz4
  case rz4=>intro w hS;have hS1:=hS.1;have hS2:=hS.2;go_simp;rfl
  case sz4=>
  refine Zt 2 ?_;refine Ql rfl ?_;go_wp2_with fail;refine(CL.o 1).mono ?_;rintro e w2 ⟨ga,gc,rfl,own2,b2⟩;have B2:Hid (Below W1.heap.size W1 w2):=⟨b2.os,b2.tape,b2.output,b2.size,b2.block⟩;have OW2:Hid (w2.ownsRow W1.heap.size 9 1 (.slice ga n gc) n (us.map sv)):=own2;have HB2:=Zh ((B2.o.block _ hWz).trans HB1.o);clear own2 b2 x0 x1 x2 x3 CL;obtain⟨x0,x1,x2,x3⟩:=Qt HB2.o;go_wp2;refine⟨fun _=>⟨x2,x3⟩,?_⟩;refine Zt 5 ?_;refine Ql rfl ?_;refine wpList_append_sl rfl _ _ 86 rfl W1.heap.size 9 _ 1 16 Tryz.underlying86 Qph rfl (by decide) _ _ _ OW2.o rfl _ m (ts.map sv) rfl (Qg.same HTW.o (Qf.below B2.o)) (by have:=HM.o;rw [List.length_map];omega) (QZp ts) (by have:=HF.o;unfold maxLen;omega) (by have:=HF.o;omega) (by have:=B2.o.size;omega) ?_;intro g d3 w3 own3 gr3;have OW3:Hid (w3.ownsRow W1.heap.size 9 1 (.slice g (n+m) d3) (n+m) (us.map sv++ts.map sv)):=own3;have B3:=Zh (Below.of_grown gr3 OW2.o (by have:=B2.o.size;omega));have HB3:=Zh ((B3.o.block _ hWz).trans HB2.o);clear own3 gr3 x0 x1 x2 x3;obtain⟨x0,x1,x2,x3⟩:=Qt HB3.o;go_wp2;refine⟨fun _=>⟨x2,x3⟩,?_⟩;refine Zt 6 ?_;refine Ql rfl ?_;go_wp2;refine⟨fun h=>absurd rfl h,?_⟩;refine Qu (by kernel_rfl) ?_ _;have BW:=Zh (B1.o.trans ((B2.o.trans B3.o).mono (Nat.le_of_lt hWz)));have hz3:W1.heap.size≤w3.heap.size:=Nat.le_trans B2.o.size B3.o.size;have HSA:=Zh (show Qea w3 (.slice g (n+m) d3) (us++ts) from by have h2:=Qg.of_owns OW3.o;unfold Qea;rw [List.map_append];exact h2);obtain⟨un,hun⟩:=Ze (useN op n);obtain⟨tn,htn⟩:=Ze (tgtN op);rw [hun,htn,HOK.o] at HP;rw [hun,htn];clear hun htn;have hq:=HQ.o
  cases D with
 |false=>
   obtain rfl:(0:Int)=q:=hq;clear HQ;go_wp2_with fail
   ·have h0:d=[]:=by assumption
    have h1:(n:Int)=un:=by assumption
    have h2:un≤4:=by assumption
    have h3:(m:Int)=tn:=by assumption
    have HR:=Zh (show R=(us++ts).all QV by rw [HP.o,h0,decide_eq_true h1,decide_eq_true h2,decide_eq_true h3];simp);refine(Qhg (us++ts) _ _ HSA.o (KK.o.at_ (BW.o.mono hB))).mono ?_;rintro e w5 ⟨rfl,k5,rfl⟩;rw [←HR.o];clear h0 h1 h2 h3 HR
    cases R
    ·go_wp2;go_ret;exact⟨rfl,below_drewN BW.o k5⟩
    ·go_wp2;go_ret;exact⟨rfl,below_drewN BW.o k5⟩
   ·have BW4:=Zh BW.o;have h3:¬(m:Int)=tn:=by assumption
    have HR:=Zh (show R=false by rw [HP.o,decide_eq_false h3];simp);go_ret;exact⟨by rw [HR.o];rfl,BW4.o⟩
   ·have BW4:=Zh BW.o;have h3:4<un:=by assumption
    have HR:=Zh (show R=false by rw [HP.o,decide_eq_false (show ¬un≤4 by omega)];simp);go_ret;exact⟨by rw [HR.o];rfl,BW4.o⟩
   ·have BW4:=Zh BW.o;have h3:¬(n:Int)=un:=by assumption
    have HR:=Zh (show R=false by rw [HP.o,decide_eq_false h3];simp);go_ret;exact⟨by rw [HR.o];rfl,BW4.o⟩
   ·have BW4:=Zh BW.o;have h3:¬d=[]:=by assumption
    have HR:=Zh (show R=false by rw [HP.o,show d.isEmpty=false by cases d;exact absurd rfl h3;rfl];simp);go_ret;exact⟨by rw [HR.o];rfl,BW4.o⟩
 |true=>
   obtain rfl:(1:Int)=q:=hq;clear HQ;go_wp2_with (at_builtin;refine Qcb [sv d] rfl _ _ 86 rfl W1.heap.size 9 _ 1 16 Tryz.underlying86 Qph rfl (by decide) _ _ _ OW3.o rfl _ rfl (by simp) rfl rfl (by have:=HF.o;unfold maxLen;omega) (by have:=HF.o;omega) (by omega) ?_;intro g4 c4 w4 own4 g1 g2 g3;have OW4:=Zh own4;have B4:=Zh (Below.of_grown g1 OW3.o (by omega));have HB4:=Zh ((B4.o.block _ hWz).trans HB3.o);clear own4 g1 g2 g3 x0 x1 x2 x3;obtain⟨x0,x1,x2,x3⟩:=Qt HB4.o)
   ·have BW4:=Zh (BW.o.trans (B4.o.mono (Nat.le_of_lt hWz)));have h1:(n:Int)=un:=by assumption
    have h2:un≤4:=by assumption
    have h3:(m:Int)=tn:=by assumption
    have HR:=Zh (show R=(us++ts++[d]).all QV by rw [HP.o,decide_eq_true h1,decide_eq_true h2,decide_eq_true h3];simp);refine(Qhg (us++ts++[d]) _ _ ?_ (KK.o.at_ (BW4.o.mono hB))).mono ?_
    ·have h2:=Qg.of_owns OW4.o;unfold Qea
     simpa using h2
    rintro e w5 ⟨rfl,k5,rfl⟩;rw [←HR.o];clear h1 h2 h3 HR
    cases R
    ·go_wp2;go_ret;exact⟨rfl,below_drewN BW4.o k5⟩
    ·go_wp2;go_ret;exact⟨rfl,below_drewN BW4.o k5⟩
   ·have BW4:=Zh (BW.o.trans (B4.o.mono (Nat.le_of_lt hWz)));have h3:¬(m:Int)=tn:=by assumption
    have HR:=Zh (show R=false by rw [HP.o,decide_eq_false h3];simp);go_ret;exact⟨by rw [HR.o];rfl,BW4.o⟩
   ·have BW4:=Zh (BW.o.trans (B4.o.mono (Nat.le_of_lt hWz)));have h3:4<un:=by assumption
    have HR:=Zh (show R=false by rw [HP.o,decide_eq_false (show ¬un≤4 by omega)];simp);go_ret;exact⟨by rw [HR.o];rfl,BW4.o⟩
   ·have BW4:=Zh (BW.o.trans (B4.o.mono (Nat.le_of_lt hWz)));have h3:¬(n:Int)=un:=by assumption
    have HR:=Zh (show R=false by rw [HP.o,decide_eq_false h3];simp);go_ret;exact⟨by rw [HR.o];rfl,BW4.o⟩
end
section
open Go.RowKit
variable [Base]
theorem rname_sv (s:Str) (w:World):Calls Tryz.prog 175 #[sv s] w (Qde (QV s) w):=Qsk ⟨s.toArray⟩ w
theorem QLo {f:Qo} (h:QV f.name=false):QNc f=false:=by unfold QNc;rw [h];rfl
theorem Qer (f:Qo) (h:f.blocks.length<1):QNc f=false:=by
 unfold QNc;rw [show decide (1≤f.blocks.length)=false from decide_eq_false (by omega)];simp
theorem QMo (f:Qo) (h:16<f.blocks.length):QNc f=false:=by
 unfold QNc;rw [show decide (f.blocks.length≤16)=false from decide_eq_false (by omega)];simp
theorem Qys (f:Qo) (h:QV f.name=true) (h1:1≤f.blocks.length) (h2:f.blocks.length≤16):QNc f=f.blocks.all Qoc:=by
 unfold QNc;rw [h];simp [h1,h2]
theorem Qon {f:QI} (h:QV f.name=false):Qoc f=false:=by unfold Qoc;rw [h];rfl
theorem QZo (f:QI) (h:f.stmts.length<1):Qoc f=false:=by
 unfold Qoc;rw [show decide (1≤f.stmts.length)=false from decide_eq_false (by omega)];simp
theorem Qpn (f:QI) (h:32<f.stmts.length):Qoc f=false:=by
 unfold Qoc;rw [show decide (f.stmts.length≤32)=false from decide_eq_false (by omega)];simp
theorem Qtr (f:QI) (h:QV f.name=true) (h1:1≤f.stmts.length) (h2:f.stmts.length≤32):Qoc f=f.stmts.all stmtB:=by
 unfold Qoc;rw [h];simp [h1,h2]
end
section
open Go.RowKit
variable [Base]
def FitS (s:QD):Prop:=(s.uses.length+s.targets.length+1)*16≤140737488355328
theorem Qkm {B:Nat} {w:World} (kw:KwIn B w) (hB:B≤w.heap.size) (s:QD) (u t:Value) (hu:Qea w u s.uses) (ht:Qea w t s.targets) (hf:FitS s):
  Calls Tryz.prog 188 #[.agg #[iv s.op,sv s.dfn,u,t]] w (Qia (!stmtB s) w):=by
 have B0:=(Below.refl w.heap.size w).alloc (Nat.le_refl _) (.cells #[iv s.op,sv s.dfn,u,t] 94);have HB0:=Zh B0;have K:=Zh (QCn (kw.keep fun k hk=>B0.block k (Nat.lt_of_lt_of_le hk hB)) (Nat.le_trans hB B0.size) s u t (Qg.same hu (Qf.below B0)) (Qg.same ht (Qf.below B0)) hf);clear B0;obtain⟨r,hr⟩:=Ze (stmtB s);rw [hr] at K ⊢;obtain⟨a1,c1,rfl,-,-⟩:=hu.cell;obtain⟨a2,c2,rfl,-,-⟩:=ht.cell;clear kw hr hu ht;go_enter Tryz.func188,Tryz.ntmps188;go_wp2_with fail;refine K.o.mono ?_;rintro e w' ⟨rfl,b⟩;have HB:=Zh (HB0.o.trans (b.mono HB0.o.size));clear b;go_wp2;go_ret;exact⟨rfl,HB.o⟩
def QDu (l:List QD) (w:World) (e:Ending) (w':World):Prop:=∃z:Int,e=.returned (iv z)∧-1≤z∧l.all stmtB=decide (z<0)∧Below w.heap.size w w'
theorem QAo {B:Nat} {w:World} (kw:KwIn B w) (hB:B≤w.heap.size) (l:List QD) (v:Value) (h:QDd w v l) (hf:∀s∈l,FitS s):
  Calls Tryz.prog 231 #[v,.func (.func 188) #[] #[]] w (QDu l w):=by
 obtain⟨a,c,rfl,hn,hc⟩:=h.cell;have HC:=Zh hc;have KW:=Zh kw;have HF:=Zh hf;obtain⟨n,hl⟩:=Ze l.length;rw [hl] at hn ⊢;have HL:=Zh hl;clear hc h hl kw hf;unfold maxLen at hn;go_enter Tryz.func231,Tryz.ntmps231;go_wp2;go_loopw [8] (fun x wr=>∃k:Nat,k≤n∧x=.int .i64 k∧Hid (Below w.heap.size w wr)∧Hid (l.all stmtB=(l.drop k).all stmtB)) (fun x _=>n-(intOf x).toNat)
 case atStart=>exact⟨0,Nat.zero_le _,rfl,by first|exact Below.refl _ _|exact below_draw (Below.refl _ _) _|exact(Below.refl _ _).drewN _,by unfold Hid;simp⟩
 case round=>
  obtain⟨k,hk,rfl,HB,HA⟩:=hrel;by_cases hlt:k<n
  ·obtain⟨s,hs⟩:∃s,l[k]? = some s:=⟨_,List.getElem?_eq_getElem (show k<l.length by have:=HL.o;omega)⟩;obtain⟨jb,joff,su,tu,rfl,hjb,g0,g1,g2,g3,hsu,htu⟩:=HC.o k s hs;have g0:=(HB.o.cell (p:=⟨jb,joff+k*4,none⟩) hjb).trans g0;have g1:=(HB.o.cell (p:=⟨jb,joff+k*4+1,none⟩) hjb).trans g1;have g2:=(HB.o.cell (p:=⟨jb,joff+k*4+2,none⟩) hjb).trans g2;have g3:=(HB.o.cell (p:=⟨jb,joff+k*4+3,none⟩) hjb).trans g3;have K:=Zh (fun (w2:World) (b:Below w.heap.size w w2)=>Qkm (KwIn.keep KW.o fun k hk=>b.block k (Nat.lt_of_lt_of_le hk hB)) (Nat.le_trans hB b.size) s su tu (Qg.same hsu (Qf.below b)) (Qg.same htu (Qf.below b)) (HF.o s (List.mem_of_getElem? hs)));have HS:=Zh (Qzd l k s hs stmtB);obtain⟨r,hr⟩:=Ze (stmtB s);rw [hr] at K HS;clear hs hr hsu htu
   cases r with
  |false=>
    have HG:=Zh (show l.all stmtB=false by rw [HA.o,HS.o];rfl);go_wp2_with fail;refine(K.o _ HB.o).mono ?_;rintro e w' ⟨rfl,b⟩;have HB2:=Zh (HB.o.trans (b.mono HB.o.size));clear b g0 g1 g2 g3;go_wp2;go_ret;exact⟨(k:Int),rfl,by omega,by rw [HG.o];simp,HB2.o⟩
  |true=>
    have HG:=Zh (show l.all stmtB=(l.drop (k+1)).all stmtB by rw [HA.o,HS.o];rfl);go_wp2_with fail;refine(K.o _ HB.o).mono ?_;rintro e w' ⟨rfl,b⟩;have HB2:=Zh (HB.o.trans (b.mono HB.o.size));clear b g0 g1 g2 g3;go_wp2;go_roundw
    case rel=>exact⟨k+1,by omega,by go_num,HB2,HG⟩
    case measure=>simp [intOf];omega
  ·have HG:=Zh (show l.all stmtB=true by rw [HA.o,List.drop_eq_nil_of_le (by rw [HL.o];omega)];rfl);go_wp2;go_ret;exact⟨-1,rfl,by omega,by rw [HG.o];rfl,HB.o⟩
theorem Qck {B:Nat} {w:World} (kw:KwIn B w) (hB:B≤w.heap.size) (l:List QD) (v:Value) (h:QDd w v l) (hf:∀s∈l,FitS s):
  Calls Tryz.prog 187 #[v,.func (.func 188) #[] #[]] w (Qia (!l.all stmtB) w):=by
 obtain⟨a,c,rfl,-,-⟩:=h.cell;have K:=Zh (QAo kw hB l _ h hf);clear h kw;go_enter Tryz.func187,Tryz.ntmps187;go_wp2_with fail;refine K.o.mono ?_;rintro e w' ⟨z,rfl,hz,ha,b⟩;have HA:=Zh (show(!l.all stmtB)=decide (0≤z) by rw [ha,Bool.eq_iff_iff];simp);have HB:=Zh b;clear ha b;go_wp2;go_ret;exact⟨by rw [HA.o];rfl,HB.o⟩
end
section
open Go.RowKit
variable [Base]
theorem QIm {B:Nat} {w0 w:World} (kw:KwIn B w0) (hB:B≤w0.heap.size) (b:Below w0.heap.size w0 w) (s:Str):Calls Tryz.prog 186 #[sv s] w (QTj (QV s) w):=
 (Qzj ⟨s.toArray⟩ w (kw.at_ (b.mono hB))).mono fun e w' ⟨h,k,h2⟩=>⟨h,by rw [h2];exact below_drewN (Below.refl _ _) k⟩
theorem QDq {B:Nat} {w:World} (kw:KwIn B w) (hB:B≤w.heap.size) (p:List Qo) (v:Value) (h:QAa w v p) (hf:∀f∈p,∀b∈f.blocks,∀s∈b.stmts,FitS s) (h1:1≤p.length) (h8:p.length≤8):
  Calls Tryz.prog 154 #[.agg #[v]] w (QTj (p.all QNc) w):=by
 obtain⟨a,c,rfl,hn,hc⟩:=h.cell;have HC:=Zh hc;obtain⟨n,hl⟩:=Ze p.length;rw [hl] at hn h1 h8 ⊢;have HL:=Zh hl;have KK:=Zh kw;have HFF:=Zh hf;clear hc h hl hn kw hf;go_enter Tryz.func154,Tryz.ntmps154;go_wp2;have B0:=Zh ((Below.refl w.heap.size w).alloc (Nat.le_refl _) (.cells #[.slice a n c] 25));go_loopw [20] (fun x wr=>∃i:Nat,i≤n∧x=.int .i64 i∧Hid (Below w.heap.size w wr)∧w.heap.size<wr.heap.size∧wr.cell? ⟨w.heap.size,0,none⟩=some (.slice a n c)∧Hid (p.all QNc=(p.drop i).all QNc)) (fun x _=>n-(intOf x).toNat)
 case atStart=>exact⟨0,Nat.zero_le _,rfl,B0,by simp,World.cell?_alloc_new _ _ _ _,by unfold Hid;simp⟩
 case round=>
  obtain⟨i,hi,rfl,HB,hz,hp0,hs⟩:=hrel;by_cases hlt:i<n
  ·obtain⟨f,hf2⟩:∃f,p[i]? = some f:=⟨_,List.getElem?_eq_getElem (show i<p.length by have:=HL.o;omega)⟩;obtain⟨fb,off,bv,rfl,hfb,g0,g1,hbl⟩:=HC.o i f hf2;have g0:=(HB.o.cell (p:=⟨fb,off+i*2,none⟩) hfb).trans g0;have g1:=(HB.o.cell (p:=⟨fb,off+i*2+1,none⟩) hfb).trans g1;have st:=Zh (Qzd p i f hf2 QNc);obtain⟨ba,bc,rfl,hbn,hbc⟩:=hbl.cell;have HBC:=Zh hbc;obtain⟨bn,hbl2⟩:=Ze f.blocks.length;rw [hbl2] at hbn g1;unfold maxLen at hbn;have HBL:=Zh hbl2;have HIF:=Zh (List.mem_of_getElem? hf2);clear hf2 hbl hbc hbl2 B0;have hR:=Zh (fun (w2:World) (b:Below w.heap.size w w2)=>QIm KK.o hB b f.name);go_wp2_with fail;refine(hR.o _ (HB.o.trans ((Zb).mono (by omega)))).mono ?_;rintro e w2 ⟨rfl,hb2⟩;have hsz:=hb2.size;simp at hsz;have q0:w2.cell? ⟨wr.heap.size,0,none⟩=some (sv f.name):=(hb2.cell (p:=⟨wr.heap.size,0,none⟩) (by simp)).trans (World.cell?_alloc_new _ _ _ _);have q1:w2.cell? ⟨wr.heap.size,1,none⟩=some (.slice ba bn bc):=(hb2.cell (p:=⟨wr.heap.size,1,none⟩) (by simp)).trans (World.cell?_alloc_new _ _ _ _);have ba1:=(Below.refl wr.heap.size wr).alloc (Nat.le_refl _) (.cells #[sv f.name,.slice ba bn bc] 89);have hp0:=(hb2.cell (p:=⟨w.heap.size,0,none⟩) (by simp;omega)).trans ((ba1.cell (p:=⟨w.heap.size,0,none⟩) hz).trans hp0);have HB2:=Zh ((HB.o.trans (ba1.mono (by omega))).trans (hb2.mono (by simp;omega)));obtain⟨bf,hbf⟩:=Ze wr.heap.size;rw [hbf] at q0 q1 hsz hz;rw [hbf];clear hb2 HB g0 g1 ba1 hbf hR
   cases e:QV f.name
   ·have hF:=Zh (QLo e);go_wp2;go_ret;exact⟨Qgb (by rw [hs.o,st.o,hF.o];rfl),HB2.o⟩
   have E:=Zh e;clear e;by_cases hb1:(bn:Int)<1
   ·have hF:=Zh (Qer f (by rw [HBL.o];omega));go_wp2;go_ret;exact⟨Qgb (by rw [hs.o,st.o,hF.o];rfl),HB2.o⟩
   by_cases hb16:(16:Int)<(bn:Int)
   ·have hF:=Zh (QMo f (by rw [HBL.o];omega));go_wp2;go_ret;exact⟨Qgb (by rw [hs.o,st.o,hF.o];rfl),HB2.o⟩
   have hF:=Zh (Qys f E.o (by rw [HBL.o];omega) (by rw [HBL.o];omega));go_wp2;obtain⟨wo,rfl⟩:∃wo:World,wo=w2:=⟨_,rfl⟩;go_loopw [43] (fun x wi=>∃k:Nat,k≤bn∧x=.int .i64 k∧Hid (Below w.heap.size w wi)∧bf<wi.heap.size∧wi.cell? ⟨w.heap.size,0,none⟩=some (.slice (some ⟨fb,off,none⟩) n c)∧wi.cell? ⟨bf,1,none⟩=some (.slice ba bn bc)∧Hid (f.blocks.all Qoc=(f.blocks.drop k).all Qoc)) (fun x _=>bn-(intOf x).toNat)
   case atStart=>exact⟨0,Nat.zero_le _,rfl,HB2,by omega,hp0,q1,by unfold Hid;simp⟩
   case round=>
    obtain⟨k,hk,rfl,HB,hbz,hp0,q1,hs2⟩:=hrel;by_cases hlt2:k<bn
    ·obtain⟨b,hb⟩:∃b,f.blocks[k]? = some b:=⟨_,List.getElem?_eq_getElem (show k<f.blocks.length by have:=HBL.o;omega)⟩;obtain⟨kb,koff,sv1,rfl,hkb,g0,g1,hsl⟩:=HBC.o k b hb;have g0:=(HB.o.cell (p:=⟨kb,koff+k*2,none⟩) hkb).trans g0;have g1:=(HB.o.cell (p:=⟨kb,koff+k*2+1,none⟩) hkb).trans g1;have st2:=Zh (Qzd f.blocks k b hb Qoc);obtain⟨sa,sc,rfl,hsn,hsc⟩:=hsl.cell;have HST:=Zh (fun (w2:World) (b2:Below w.heap.size w w2)=>QDd.keep (Qf.below b2) (Qf.below b2) hsl);have HFS:=Zh (fun s hs=>HFF.o f HIF.o b (List.mem_of_getElem? hb) s hs);obtain⟨sn,hsl2⟩:=Ze b.stmts.length;rw [hsl2] at hsn g1 HST;unfold maxLen at hsn;have HSL:=Zh hsl2;clear hb hsl hsc hsl2;have hR:=Zh (fun (w2:World) (b2:Below w.heap.size w w2)=>QIm KK.o hB b2 b.name);go_wp2_with fail;refine(hR.o _ (HB.o.trans ((Zb).mono (by omega)))).mono ?_;rintro e w2 ⟨rfl,hb2⟩;have hsz:=hb2.size;simp at hsz;have r0:w2.cell? ⟨wr.heap.size,0,none⟩=some (sv b.name):=(hb2.cell (p:=⟨wr.heap.size,0,none⟩) (by simp)).trans (World.cell?_alloc_new _ _ _ _);have r1:w2.cell? ⟨wr.heap.size,1,none⟩=some (.slice sa sn sc):=(hb2.cell (p:=⟨wr.heap.size,1,none⟩) (by simp)).trans (World.cell?_alloc_new _ _ _ _);have ba1:=(Below.refl wr.heap.size wr).alloc (Nat.le_refl _) (.cells #[sv b.name,.slice sa sn sc] 92);have hp0:=(hb2.cell (p:=⟨w.heap.size,0,none⟩) (by simp;omega)).trans ((ba1.cell (p:=⟨w.heap.size,0,none⟩) (by show w.heap.size<_;omega)).trans hp0);have q1:=(hb2.cell (p:=⟨bf,1,none⟩) (by simp;omega)).trans ((ba1.cell (p:=⟨bf,1,none⟩) hbz).trans q1);have HB2:=Zh ((HB.o.trans (ba1.mono (by omega))).trans (hb2.mono (by simp;omega)));obtain⟨bb,hbb⟩:=Ze wr.heap.size;rw [hbb] at r0 r1 hsz hbz;rw [hbb];clear hb2 HB g0 g1 ba1 hbb hR
     cases e:QV b.name
     ·have hK:=Zh (Qon e);go_wp2;go_ret;exact⟨Qgb (by rw [hs.o,st.o,hF.o,hs2.o,st2.o,hK.o];rfl),HB2.o⟩
     have E:=Zh e;clear e;by_cases hc1:(sn:Int)<1
     ·have hK:=Zh (QZo b (by rw [HSL.o];omega));go_wp2;go_ret;exact⟨Qgb (by rw [hs.o,st.o,hF.o,hs2.o,st2.o,hK.o];rfl),HB2.o⟩
     by_cases hc32:(32:Int)<(sn:Int)
     ·have hK:=Zh (Qpn b (by rw [HSL.o];omega));go_wp2;go_ret;exact⟨Qgb (by rw [hs.o,st.o,hF.o,hs2.o,st2.o,hK.o];rfl),HB2.o⟩
     have hK:=Zh (Qtr b E.o (by rw [HSL.o];omega) (by rw [HSL.o];omega));have K:=Zh (Qck (w:=w2) (KwIn.keep KK.o fun k hk=>HB2.o.block k (Nat.lt_of_lt_of_le hk hB)) (Nat.le_trans hB HB2.o.size) b.stmts (.slice sa sn sc) (HST.o _ HB2.o) (HFS.o));obtain⟨r,hr⟩:=Ze (b.stmts.all stmtB);rw [hr] at K hK;clear hr;go_wp2_with fail;refine K.o.mono ?_;rintro e w3 ⟨rfl,hb3⟩;have hsz3:=hb3.size;have hp0:=(hb3.cell (p:=⟨w.heap.size,0,none⟩) (by show w.heap.size<_;omega)).trans hp0;have q1:=(hb3.cell (p:=⟨bf,1,none⟩) (by show bf<_;omega)).trans q1;have HB3:=Zh (HB2.o.trans (hb3.mono (by omega)));clear hb3 r0 r1 HB2
     cases r
     ·go_wp2;go_ret;exact⟨Qgb (by rw [hs.o,st.o,hF.o,hs2.o,st2.o,hK.o];rfl),HB3.o⟩
     ·go_wp2;go_roundw
      case rel=>exact⟨k+1,by omega,by go_num,HB3,by omega,hp0,q1,by unfold Hid;rw [hs2.o,st2.o,hK.o];rfl⟩
      case measure=>simp [intOf];omega
    ·have hall:Hid (QNc f=true):=by unfold Hid;rw [hF.o,hs2.o,List.drop_of_length_le (by have:=HBL.o;omega)];rfl
     go_wp2;go_roundw
     case rel=>exact⟨i+1,by omega,by go_num,HB,by omega,hp0,by unfold Hid;rw [hs.o,st.o,hall.o];rfl⟩
     case measure=>simp [intOf];omega
  ·go_wp2;go_ret;exact⟨Qgb (by rw [hs.o,List.drop_of_length_le (by have:=HL.o;omega)];rfl),HB.o⟩
theorem QFe {B:Nat} {w:World} (kw:KwIn B w) (hB:B≤w.heap.size) (p:List Qo) (v:Value) (h:QAa w v p) (hf:∀f∈p,∀b∈f.blocks,∀s∈b.stmts,FitS s):
  Calls Tryz.prog 154 #[.agg #[v]] w (QTj (QMa p) w):=by
 by_cases h1:1≤p.length
 ·by_cases h8:p.length≤8
  ·have e:QMa p=p.all QNc:=by unfold QMa;simp [h1,h8]
   rw [e];exact QDq kw hB p v h hf h1 h8
  ·have e:QMa p=false:=by unfold QMa;simp [h8]
   rw [e];obtain⟨a,c,rfl,hn,_⟩:=h.cell;have g1:decide ((p.length:Int)<1)=false:=by simp;omega
   have g8:decide ((8:Int)<(p.length:Int))=true:=by simp;omega
   clear h h1 h8 e hn;go_enter Tryz.func154,Tryz.ntmps154;go_wp2;go_ret;exact⟨rfl,Zb⟩
 ·have e:QMa p=false:=by unfold QMa;simp [h1]
  rw [e];obtain⟨a,c,rfl,hn,_⟩:=h.cell;have g1:decide ((p.length:Int)<1)=true:=by simp;omega
  clear h h1 e hn;go_enter Tryz.func154,Tryz.ntmps154;go_wp2;go_ret;exact⟨rfl,Zb⟩
end
section
open Go.RowKit
variable [Base]
structure Two (z nb eb:Nat) (x y:Int) (w w':World):Prop where
 below:Below z w w'
 rest:∀k,k<w.heap.size→k≠nb→k≠eb→w'.heap[k]? = w.heap[k]?
 nat:w'.heap[nb]? = some (.cells #[iv x] 3 (0,0))
 eat:w'.heap[eb]? = some (.cells #[iv y] 3 (0,0))
theorem Qej {w:World} {b:Nat} {a0:Value} {t:TypeId} {fr:Nat×Nat} (h:w.heap[b]? = some (.cells #[a0] t fr)) (x:Value):(w.setCell ⟨b,0,none⟩ x).heap[b]? = some (.cells #[x] t fr):=by
 simp [World.setCell,Array.getElem?_modify,h]
theorem Qud {w:World} {b k:Nat} (h:b≠k) (x:Value):(w.setCell ⟨b,0,none⟩ x).heap[k]? = w.heap[k]?:=by
 simp [World.setCell,Array.getElem?_modify,h]
theorem Two.setN {z nb eb:Nat} {x y:Int} {w w':World} (h:Two z nb eb x y w w') (hz:z≤nb) (hne:nb≠eb) (x':Int):Two z nb eb x' y w (w'.setCell ⟨nb,0,none⟩ (iv x')):=
 ⟨h.below.setCell (p:=⟨nb,0,none⟩) hz _,fun k hk h1 h2=>(Qud (fun e=>h1 e.symm) _).trans (h.rest k hk h1 h2),Qej h.nat _,(Qud hne _).trans h.eat⟩
theorem Two.setE {z nb eb:Nat} {x y:Int} {w w':World} (h:Two z nb eb x y w w') (hz:z≤eb) (hne:nb≠eb) (y':Int):Two z nb eb x y' w (w'.setCell ⟨eb,0,none⟩ (iv y')):=
 ⟨h.below.setCell (p:=⟨eb,0,none⟩) hz _,fun k hk h1 h2=>(Qud (fun e=>h2 e.symm) _).trans (h.rest k hk h1 h2),(Qud (fun e=>hne e.symm) _).trans h.nat,Qej h.eat _⟩
theorem QJn (z nb eb:Nat) (s:QD) (u t:Value) (w:World) (x y:Int) (hz:z≤nb∧z≤eb∧nb≠eb) (hx:w.heap[nb]? = some (.cells #[iv x] 3 (0,0))) (hy:w.heap[eb]? = some (.cells #[iv y] 3 (0,0))) (h0:0≤x∧x≤1000000∧0≤y∧y≤1000000):
  Calls Tryz.prog 193 #[.agg #[iv s.op,sv s.dfn,u,t],.pointer (some ⟨nb,0,none⟩),.pointer (some ⟨eb,0,none⟩)] w (fun e w'=>e=.returned (.tuple #[])∧Two z nb eb (x+QHd s) (y+Qod s) w w'):=by
 have hnb:=Qb hx;have heb:=Qb hy;obtain⟨hz1,hz2,hne⟩:=hz;obtain⟨op,d,us,ts⟩:=s;obtain⟨W,hW⟩:=Ze (w.alloc (.cells #[iv op,sv d,u,t] 94));have T0:Two z nb eb x y w W:=by
  rw [←hW];exact⟨(Below.refl _ _).alloc (by omega) _,fun k hk _ _=>((Below.refl w.heap.size w).alloc (Nat.le_refl _) _).block k hk,Qfa _ hx,Qfa _ hy⟩
 have T:=Zh T0;have T1:=Zh (T0.setN hz1 hne (x+1));have x0:=(Qd T0.nat).1 0;have y0:=(Qd T0.eat).1 0;have xf:=(Qd T0.nat).2 0;have yf:=(Qd T0.eat).2 0;have s0:W.cell? ⟨w.heap.size,0,none⟩=some (iv op):=by rw [←hW];exact World.cell?_alloc_new _ _ _ _
 have HW:=Zh hW;clear T0 hW hx hy;simp at x0 y0;go_enter Tryz.func193,Tryz.ntmps193;go_upto_region 1 with(fail)
 rw [show w.alloc (.cells #[iv op,sv d,u,t] 94)=W from HW.o];go_upto_region 2 with(fail)
 have ws:w.heap.size<W.heap.size:=by rw [←HW.o];simp
 have hs1:W.heap[w.heap.size]? = some (.cells #[iv op,sv d,u,t] 94 (0,0)):=by rw [←HW.o];exact heap_alloc_new _ _
 have HS1:=Zh ((Qud (b:=nb) (k:=w.heap.size) (w:=W) (by omega) (iv (x+1))).trans hs1);obtain⟨W1,hW1⟩:=Ze (W.setCell ⟨nb,0,none⟩ (iv (x+1)));rw [show W.setCell ⟨nb,0,none⟩ (.int .i64 (x+1))=W1 from hW1];rw [hW1] at T1 HS1;clear x0 y0 xf yf s0 hW1 hs1 ws HW T;have x0:=(Qd T1.o.nat).1 0;have y0:=(Qd T1.o.eat).1 0;have xf:=(Qd T1.o.nat).2 0;have yf:=(Qd T1.o.eat).2 0;simp at x0 y0;obtain⟨s0,s1,s2,s3⟩:=Qt HS1.o;by_cases h3:op=3
 ·subst h3;have T2:=Zh ((T1.o.setN hz1 hne (x+1+1)).setE hz2 hne (y+3));have yy:=(Qd (T1.o.setN hz1 hne (x+1+1)).eat).1 0;have yz:=(Qd (T1.o.setN hz1 hne (x+1+1)).eat).2 0;simp at yy;go_wp2;exact bodyPost_end (v:=.tuple #[]) (by simp [results,Tryz.results193,go_sem]) rfl ⟨rfl,by rw [show x+QHd ⟨3,d,us,ts⟩=x+1+1 by unfold QHd;simp;omega,show y+Qod ⟨3,d,us,ts⟩=y+3 by unfold Qod;simp];exact T2.o⟩
 ·by_cases h8:op=8
  ·subst h8;have T2:=Zh (T1.o.setE hz2 hne (y+2));go_wp2;exact bodyPost_end (v:=.tuple #[]) (by simp [results,Tryz.results193,go_sem]) rfl ⟨rfl,by rw [show x+QHd ⟨8,d,us,ts⟩=x+1 by unfold QHd;simp,show y+Qod ⟨8,d,us,ts⟩=y+2 by unfold Qod;simp];exact T2.o⟩
  ·have T2:=Zh (T1.o.setE hz2 hne (y+1));go_wp2;exact bodyPost_end (v:=.tuple #[]) (by simp [results,Tryz.results193,go_sem]) rfl ⟨rfl,by rw [show x+QHd ⟨op,d,us,ts⟩=x+1 by unfold QHd;simp [h3],show y+Qod ⟨op,d,us,ts⟩=y+1 by unfold Qod;simp [h3,h8]];exact T2.o⟩
end
section
open Go.RowKit
variable [Base]
theorem QEr (l:List Int) (a:Int):l.foldl (· + ·) a=a+sumI l:=by
 unfold sumI
 induction l generalizing a with
|nil=>simp
|cons x r ih=>simp only [List.foldl_cons];rw [ih (a+x),ih (0+x)];omega
theorem QKl (l r:List Int):sumI (l++r)=sumI l+sumI r:=by
 unfold sumI;rw [List.foldl_append];exact QEr r _
end
section
open Go.RowKit
variable [Base]
theorem Qis (s:QD):1≤QHd s∧QHd s≤2∧1≤Qod s∧Qod s≤3:=by
 unfold QHd Qod
 repeat' split
 all_goals omega
def QDb (l:List QD):Int:=sumI (l.map QHd)
def QEb (l:List QD):Int:=sumI (l.map Qod)
theorem Qot (l:List QD):0≤QDb l∧QDb l≤2*(l.length:Int)∧0≤QEb l∧QEb l≤3*(l.length:Int):=by
 unfold QDb QEb
 induction l with
|nil=>simp [sumI]
|cons s r ih=>
  have h:=Qis s;simp only [List.map_cons,QGh,List.length_cons]
  push_cast
  omega
end
section
open Go.RowKit
variable [Base]
theorem QUc {p:List Qo} (hv:QMa p=true):p.length≤8∧∀f∈p,f.blocks.length≤16∧∀b∈f.blocks,b.stmts.length≤32:=by
 unfold QMa at hv;simp only [Bool.and_eq_true,decide_eq_true_eq,List.all_eq_true] at hv;refine⟨by omega,fun f hf=>?_⟩;have h:=hv.2.2 f hf;unfold QNc at h;simp only [Bool.and_eq_true,decide_eq_true_eq,List.all_eq_true] at h;refine⟨by omega,fun b hb=>?_⟩;have h2:=h.2.2.2 b hb;unfold Qoc at h2;simp only [Bool.and_eq_true,decide_eq_true_eq,List.all_eq_true] at h2;omega
theorem QRm {α:Type} (l:List (List α)) (c:Nat) (h:∀x∈l,x.length≤c):l.flatten.length≤c*l.length:=by
 induction l with
|nil=>simp
|cons x r ih=>
  have h1:=h x List.mem_cons_self;have h2:=ih fun y hy=>h y (List.mem_cons_of_mem _ hy)
  simp only [List.flatten_cons,List.length_append,List.length_cons,Nat.mul_succ];omega
def Qzf (f:Qo):List QD:=(f.blocks.map QI.stmts).flatten
theorem Qni {p:List Qo} {i:Nat} {f:Qo} (h:p[i]? = some f):QH (p.take (i+1))=QH (p.take i)++Qzf f:=by
 unfold QH Qzf;rw [List.take_add_one,h];simp
def Qga (l:List QI):List QD:=(l.map QI.stmts).flatten
theorem QWg {l:List QI} {i:Nat} {b:QI} (h:l[i]? = some b):Qga (l.take (i+1))=Qga (l.take i)++b.stmts:=by
 unfold Qga;rw [List.take_add_one,h];simp
theorem Qtm (a b:List QD):QDb (a++b)=QDb a+QDb b∧QEb (a++b)=QEb a+QEb b:=by
 unfold QDb QEb;simp [QKl]
theorem QFn {p:List Qo} (hv:QMa p=true) {f:Qo} (hf:f∈p):(Qzf f).length≤512:=by
 have h:=(QUc hv).2 f hf;have h2:=QRm (f.blocks.map QI.stmts) 32 (by intro x hx;obtain⟨b,hb,rfl⟩:=List.mem_map.1 hx;exact h.2 b hb);unfold Qzf;rw [List.length_map] at h2;omega
theorem QVi {p:List Qo} (hv:QMa p=true) (i:Nat):(QH (p.take i)).length≤4096:=by
 have h2:=QRm ((p.take i).map Qzf) 512 (by intro x hx;obtain⟨f,hf,rfl⟩:=List.mem_map.1 hx;exact QFn hv (List.mem_of_mem_take hf));have h3:=(QUc hv).1;rw [List.length_map,List.length_take] at h2;show((p.take i).map Qzf).flatten.length≤_;omega
end
section
open Go.RowKit
variable [Base]
theorem QVg {p:List Qo} {i k j:Nat} {f:Qo} {b:QI} {s:QD} (hf:p[i]? = some f) (hb:f.blocks[k]? = some b) (hs:b.stmts[j]? = some s):∃r,QH p=(QH (p.take i)++Qga (f.blocks.take k)++b.stmts.take j)++s::r:=by
 refine⟨b.stmts.drop (j+1)++Qga (f.blocks.drop (k+1))++QH (p.drop (i+1)),?_⟩;have e1:p=p.take i++f::p.drop (i+1):=by
  have hi:i<p.length:=(List.getElem?_eq_some_iff.1 hf).1;rw [←(List.getElem?_eq_some_iff.1 hf).2,List.getElem_cons_drop,List.take_append_drop]
 have e2:f.blocks=f.blocks.take k++b::f.blocks.drop (k+1):=by
  rw [←(List.getElem?_eq_some_iff.1 hb).2,List.getElem_cons_drop,List.take_append_drop]
 have e3:b.stmts=b.stmts.take j++s::b.stmts.drop (j+1):=by
  rw [←(List.getElem?_eq_some_iff.1 hs).2,List.getElem_cons_drop,List.take_append_drop]
 have h1:∀x y:List Qo,QH (x++y)=QH x++QH y:=fun x y=>by simp [QH]
 have h2:∀x y:List QI,Qga (x++y)=Qga x++Qga y:=fun x y=>by simp [Qga]
 have h3:∀x y,QH (x::y)=Qga x.blocks++QH y:=fun x y=>by simp [QH,Qga]
 have h4:∀x y,Qga (x::y)=x.stmts++Qga y:=fun x y=>by simp [Qga]
 conv=>lhs;rw [e1,h1,h3,e2,h2,h4,e3]
 simp
end
section
open Go.RowKit
variable [Base]
def QMg (kb ob nk:Nat) (w:World):Prop:=w.heap[nk]? = some (.cells #[.func (.func 103) #[] #[.pointer (some ⟨kb,0,none⟩),.pointer (some ⟨ob,0,none⟩)]] 164 (0,0))
structure Qcc (z kb ob nk:Nat) (l:List Str) (w:World):Prop where
 kz:z≤kb
 oz:z≤ob
 map:∃mb,z≤mb∧w.heap[kb]? = some (.cells #[.map (some mb)] 163 (0,0))∧Qnb w mb l.length l
 note:QMg kb ob nk w
 o:∃v,w.heap[ob]? = some (.cells #[v] 86 (0,0))∧w.ownsRow z TS 1 v l.length (l.map sv)
theorem Qcc.below {z kb ob nk:Nat} {l:List Str} {w w':World} (h:Qcc z kb ob nk l w) (b:Below w.heap.size w w'):Qcc z kb ob nk l w':=by
 obtain⟨h1,h2,⟨mb,h3,h4,h5⟩,hnk,⟨v,h6,h7⟩⟩:=h;exact⟨h1,h2,⟨mb,h3,(b.block _ (Qb h4)).trans h4,h5.below b⟩,(b.block _ (Qb hnk)).trans hnk,⟨v,(b.block _ (Qb h6)).trans h6,QZd h7 b⟩⟩
theorem Qdb {w:World} {base:Nat} {e:TypeId} {size:Nat} {v:Value} {n:Nat} {xs:List Value} (ho:w.ownsRow base e size v n xs) {k:Nat} {o:Obj} (hk:w.heap[k]? = some o) (hne:∀c fr,o≠.cells c e fr):some k≠v.ownBlock:=by
 intro hb;have hb:=hb.symm;rcases ho.2 with⟨rfl,_⟩|⟨g,cap,cur,rfl,_,hh,_⟩
 ·simp [Value.ownBlock] at hb
 ·simp [Value.ownBlock] at hb;subst hb;rw [hh] at hk;injection hk with hk
  exact hne _ _ hk.symm
theorem Qcc.mapped {z kb ob mb nk:Nat} {l:List Str} {n:Str} {v:Value} {w w4:World} {th:List UInt8→Bool} (h4:w.heap[kb]? = some (.cells #[.map (some mb)] 163 (0,0))) (h6:w.heap[ob]? = some (.cells #[v] 86 (0,0))) (h7:w.ownsRow z TS 1 v l.length (l.map sv)) (hm:∃es c,w.heap[mb]? = some (Obj.map es c)) (h3:z≤mb) (hnk:QMg kb ob nk w)
  (hM:MapG strK Qbc w4 mb (l.length+1) (fun q=>if q=n then true else l.contains q) th) (hg:w.grownBy w4 (some mb)):
  w4.heap[kb]? = some (.cells #[.map (some mb)] 163 (0,0))∧w4.heap[ob]? = some (.cells #[v] 86 (0,0))∧w4.ownsRow z TS 1 v l.length (l.map sv)∧Qnb w4 mb (l++[n]).length (l++[n])∧Below z w w4∧QMg kb ob nk w4∧Qf 94 w w4:=by
 obtain⟨es,c0,hm⟩:=hm;have hk:∀{k:Nat} {c:Array Value} {t:TypeId} {fr:Nat×Nat},w.heap[k]? = some (.cells c t fr)→w4.heap[k]? = some (.cells c t fr):=fun {k c t fr} h=>(hg.block k (Qb h) (by intro e;injection e with e;subst e;rw [hm] at h;cases h)).trans h
 refine⟨hk h4,hk h6,?_,⟨th,?_⟩,Qyd hg (Qb hm) h3,hk hnk,fun b c fr U _ e=>hk e⟩
 ·obtain⟨e1,e2⟩:=h7;refine⟨e1,?_⟩;rcases e2 with e2|⟨g,cap,cur,e2,e3,e4,e5⟩
  ·exact .inl e2
  ·exact .inr ⟨g,cap,cur,e2,e3,hk e4,e5⟩
 ·rw [List.length_append];refine hM.congr (fun k=>?_) (fun _=>rfl);by_cases e:k=n <;> simp [e]
theorem Qcc.grown {z kb ob mb g cap nk:Nat} {l:List Str} {n:Str} {v:Value} {w w4 w5:World} (h1:z≤kb) (h2:z≤ob) (h3:z≤mb) (h4:w4.heap[kb]? = some (.cells #[.map (some mb)] 163 (0,0))) (h6:w4.heap[ob]? = some (.cells #[v] 86 (0,0))) (h7:w4.ownsRow z TS 1 v l.length (l.map sv)) (h5:Qnb w4 mb (l++[n]).length (l++[n])) (hB:Below z w w4) (hzw:z≤w4.heap.size) (hnk:QMg kb ob nk w4) (hS:Qf 94 w w4) (hbz:Base.b≤z)
  (ho:w5.ownsRow z TS 1 (.slice (some ⟨g,0,none⟩) (l.length+1) cap) (l.length+1) (l.map sv++[sv n])) (hg:w4.grownBy w5 v.ownBlock):
  w5.heap[ob]? = some (.cells #[v] 86 (0,0))∧Qcc z kb ob nk (l++[n]) (w5.setCell ⟨ob,0,none⟩ (.slice (some ⟨g,0,none⟩) (l.length+1) cap))∧Below z w (w5.setCell ⟨ob,0,none⟩ (.slice (some ⟨g,0,none⟩) (l.length+1) cap))∧Qf 94 w (w5.setCell ⟨ob,0,none⟩ (.slice (some ⟨g,0,none⟩) (l.length+1) cap)):=by
 obtain⟨th,hM⟩:=h5;obtain⟨es,c0,hm⟩:=hM.isMap;have k6:=(hg.block ob (Qb h6) (Qdb h7 h6 (by intro c fr h;injection h with _ h;exact absurd h (by decide)))).trans h6;have k4:=(hg.block kb (Qb h4) (Qdb h7 h4 (by intro c fr h;injection h with _ h;exact absurd h (by decide)))).trans h4;have km:=hg.block mb (Qb hm) (Qdb h7 hm (by intro c fr h;cases h));have kn:=(hg.block nk (Qb hnk) (Qdb h7 hnk (by intro c fr h;injection h with _ h;exact absurd h (by decide)))).trans hnk;have hon:nk≠ob:=by
  intro e;subst e;unfold QMg at hnk;rw [hnk] at h6;injection h6 with h6
  injection h6 with _ h6
  exact absurd h6 (by decide)
 have hok:kb≠ob:=by
  intro e;subst e;rw [h4] at h6;injection h6 with h6
  injection h6 with _ h6
  exact absurd h6 (by decide)
 have hom:mb≠ob:=by
  intro e;subst e;rw [hm] at h6
  cases h6
 have hgo:g≠ob:=by
  rcases ho.2 with⟨e,_⟩|⟨g',cap',cur,e,_,hh,_⟩
  ·cases e
  ·injection e with e
   injection e with e
   injection e with e
   subst e;rintro rfl;rw [k6] at hh;injection hh with hh
   injection hh with _ hh
   exact absurd hh (by decide)
 refine⟨k6,⟨h1,h2,⟨mb,h3,(Qud hok.symm _).trans k4,⟨th,hM.block ((Qud hom.symm _).trans km)⟩⟩,(Qud hon.symm _).trans kn,⟨_,Qej k6 _,?_⟩⟩,?_,?_⟩
 ·rw [List.length_append,List.map_append];obtain⟨e1,e2⟩:=ho;refine⟨e1,?_⟩;rcases e2 with e2|⟨g',cap',cur,e2,e3,e4,e5⟩
  ·exact .inl e2
  ·injection e2 with e2 e6 e7
   injection e2 with e2
   injection e2 with e2
   subst e2;subst e7;exact .inr ⟨_,_,cur,rfl,e3,(Qud hgo.symm _).trans e4,e5⟩
 ·exact(hB.trans (Below.of_grown hg h7 hzw)).setCell (p:=⟨ob,0,none⟩) h2 _
 ·exact(hS.trans (Qf.grown hg h7 (by decide) hbz)).trans (Qf.setCell (U:=86) (Qv k6 (Nat.le_trans hbz h2)) (by decide))
theorem Qhq (z kb ob nk:Nat) (hbz:Base.b≤z) (l:List Str) (n:Str) (w:World) (h:Qcc z kb ob nk l w) (hn:n.length≤1000) (hl:l.length≤1000000):
  Calls Tryz.prog 103 #[sv n,.pointer (some ⟨kb,0,none⟩),.pointer (some ⟨ob,0,none⟩)] w (fun e w'=>e=.returned (.tuple #[])∧Qcc z kb ob nk (Qfc l n) w'∧Below z w w'∧Qf 94 w w'):=by
 obtain⟨h1,h2,⟨mb,h3,h4,h5⟩,hnk,⟨v,h6,h7⟩⟩:=h;have HNK:=Zh hnk;clear hnk;obtain⟨a,c,rfl,hc1,hc2⟩:=QXa h7;have zw:z≤w.heap.size:=by have:=Qb h4;omega
 have hlk:=h5.look (x:=n) (by unfold maxLen;omega);have k0:=(Qd h4).1 0;have o0:=(Qd h6).1 0;have kf:=(Qd h4).2 0;have of':=(Qd h6).2 0;simp at k0 o0;have H4:=Zh h4;have H5:=Zh h5;have H6:=Zh h6;have H7:=Zh h7;obtain⟨q,hq⟩:=Ze (l.contains n);rw [hq] at hlk;clear h4 h5 h6 h7;by_cases hne:n=[]
 ·subst hne;have HF:=Zh (show Qcc z kb ob nk (Qfc l []) w by rw [show Qfc l []=l from rfl];exact⟨h1,h2,⟨mb,h3,H4.o,H5.o⟩,HNK.o,⟨_,H6.o,H7.o⟩⟩);go_enter Tryz.func103,Tryz.ntmps103;go_wp2;exact bodyPost_end (v:=.tuple #[]) (by simp [results,Tryz.results103,go_sem]) rfl ⟨rfl,HF.o,(Below.refl _ _).mono zw,Qf.refl⟩
 ·have hie:List.isEmpty n=false:=by cases n <;> simp_all
  have HN:=Zh (show Qfc l n=if q=true then l else l++[n] by unfold Qfc;rw [hie,hq];simp);clear hne hq
  cases q with
 |true=>
   have HF:=Zh (show Qcc z kb ob nk (Qfc l n) w by rw [HN.o];exact⟨h1,h2,⟨mb,h3,H4.o,H5.o⟩,HNK.o,⟨_,H6.o,H7.o⟩⟩);go_enter Tryz.func103,Tryz.ntmps103;go_wp2;exact bodyPost_end (v:=.tuple #[]) (by simp [results,Tryz.results103,go_sem]) rfl ⟨rfl,HF.o,(Below.refl _ _).mono zw,Qf.refl⟩
 |false=>
   go_enter Tryz.func103,Tryz.ntmps103;obtain⟨th,hth⟩:=H5.o;have HTH:=Zh hth;have HNL:=Zh (show n.length≤maxLen by unfold maxLen;omega);have hml:=hth.lt;have HMI:=Zh hth.isMap;clear hth;go_upto_region 2 with(at_mapUpdate;refine QHb (Ky:=strK) Qbc rfl _ _ _ _ rfl QCe rfl HTH.o (by unfold maxLen;omega) (k:=n) rfl HNL.o true rfl ?_;intro w4 hm hg;have HM4:=Zh hm;have HG4:=Zh hg;clear hm hg)
   obtain⟨M4,M6,M7,M5,MB,MN,MS⟩:=Qcc.mapped H4.o H6.o H7.o HMI.o h3 HNK.o HM4.o HG4.o;have zw4:z≤w4.heap.size:=by have:=Qb M4;omega
   have A5:=Zh (fun (g cap:Nat) (w5:World) ho hg=>Qcc.grown (w:=w) (w5:=w5) (g:=g) (cap:=cap) h1 h2 h3 M4 M6 M7 M5 MB zw4 MN MS hbz ho hg);have M7:=Zh M7;have o1:=(Qd M6).1 0;simp at o1;clear HM4 HG4 HTH hlk k0 o0 kf of' M4 M6 M5 MB MN MS H4 H5 H6 H7;go_wp2_with (at_builtin;refine QL [sv n] rfl _ _ _ rfl z TS _ 1 16 Tryz.underlying86 Qph rfl (by omega) _ _ _ M7.o rfl rfl rfl rfl (by unfold maxLen;omega) (by omega) zw4 ?_;intro g cap w5 ho hg _ _;have A6:=Zh (A5.o g cap w5 ho hg);have o5:=(Qd A6.o.1).1 0;have f5:=(Qd A6.o.1).2 0;simp at o5;clear ho hg o1);exact bodyPost_end (v:=.tuple #[]) (by simp [results,Tryz.results103,go_sem]) rfl ⟨rfl,by rw [HN.o];exact A6.o.2.1,A6.o.2.2.1,A6.o.2.2.2⟩
theorem Qaf {x:Str} (h:QV x=true):x.length≤1000:=by
 unfold QV at h;simp only [Bool.and_eq_true,decide_eq_true_eq] at h;omega
theorem Qnm (out:List Str) (n:Str):(Qfc out n).length≤out.length+1:=by
 unfold Qfc
 split <;> simp
theorem QPh:∀(l out:List Str),(l.foldl Qfc out).length≤out.length+l.length
|[],out=>by simp
|x::r,out=>by
  have h1:=QPh r (Qfc out x)
  have h2:=Qnm out x
  simp only [List.foldl_cons,List.length_cons]
  omega
theorem QOl {s:QD} (h:stmtB s=true):s.uses.length≤4∧(∀u∈s.uses,u.length≤1000):=by
 obtain⟨h1,h2⟩:=Qje h;exact⟨h2,fun u hu=>Qaf (h1 u hu)⟩
theorem Qlq {s:QD} (h:stmtB s=true):s.dfn.length≤1000:=by
 rw [QYi] at h;unfold QHh at h;simp only [Bool.and_eq_true,Bool.or_eq_true] at h;obtain⟨-,hd,-,-,-,hn⟩:=h
 cases e:dfnB s.op
 ·rw [e] at hd;have:s.dfn=[]:=by simpa using hd
  rw [this];simp
 ·rw [List.all_eq_true] at hn;exact Qaf (hn s.dfn (by unfold Qhh;rw [e];simp))
theorem Qgq {z kb ob nk:Nat} {w0 w:World} (hz:w0.heap.size=z) (b0:Below z w0 w) (hbz:Base.b≤z) (l:List Str) (s:QD) (u t:Value) (h:Qcc z kb ob nk l w) (hu:Qea w0 u s.uses) (ht:∃a n c,t=.slice a n c) (hd:s.dfn.length≤1000) (hus:∀x∈s.uses,x.length≤1000) (hn:s.uses.length≤4) (hl:l.length≤100000):
  Calls Tryz.prog 105 #[.agg #[iv s.op,sv s.dfn,u,t],.pointer (some ⟨nk,0,none⟩)] w (fun e w'=>e=.returned (.tuple #[])∧Qcc z kb ob nk (QYe l s) w'∧Below z w w'):=by
 obtain⟨op,d,us,ts⟩:=s;obtain⟨ta,tn,tc,rfl⟩:=ht;obtain⟨ua,uc,rfl,-,hc⟩:=hu.cell;obtain⟨un,hun⟩:=Ze us.length;simp only at hun hu hc hd hus hn ⊢;rw [hun] at hn ⊢;have zw:z≤w.heap.size:=by have:=b0.size;omega
 have HC:=Zh hc;have HU:=Zh hun;have A1:=(Below.refl w.heap.size w).alloc (Nat.le_refl _) (.cells #[iv op,sv d,.slice ua un uc,.slice ta tn tc] 94);have V0:=Zh (h.below A1);have hb0:=Zh (heap_alloc_new w (.cells #[iv op,sv d,.slice ua un uc,.slice ta tn tc] 94));obtain⟨W,hW⟩:=Ze (w.alloc (.cells #[iv op,sv d,.slice ua un uc,.slice ta tn tc] 94));have HW:=Zh hW;have B0:=Zh (hW▸A1);rw [hW] at V0 hb0;obtain⟨sb,hsb⟩:=Ze w.heap.size;have HSB:=Zh hsb;rw [hsb] at hb0 B0;have K:=Zh (fun (l:List Str) (n:Str) (x:World) (h:Qcc z kb ob nk l x) (hn:n.length≤1000) (hl:l.length≤1000000)=>Qhq z kb ob nk hbz l n x h hn hl);have HL1:=Zh hl;have HUS:=Zh hus;have HZ0:=Zh b0;clear hW hsb hu hc hun h A1 hl hus b0;go_enter Tryz.func105,Tryz.ntmps105;go_upto_region 1 with(fail)
 rw [show w.alloc (.cells #[iv op,sv d,.slice ua un uc,.slice ta tn tc] 94)=W from HW.o,HSB.o];obtain⟨s0,s1,s2,s3⟩:=Qt hb0.o;have n0:=(Qd V0.o.note).1 0;simp at n0;go_wp2_with fail;refine(K.o l d W V0.o hd (Nat.le_trans HL1.o (by omega))).mono ?_;rintro e w1 ⟨rfl,V1,b1,t1⟩;have B1:=Zh ((B0.o.mono (show z≤sb by have:=HSB.o;omega)).trans b1);have hb1:=Zh (t1.own hb0.o);have HV1:=Zh V1;have zw1:z≤w1.heap.size:=by have:=B1.o.size;omega
 clear V1 b1 t1 s0 s1 s2 s3 n0 B0 V0;obtain⟨s0,s1,s2,s3⟩:=Qt hb1.o;go_wp2;clear s0 s1 s2 s3;go_loopw [12] (fun x wr=>∃k:Nat,k≤un∧x=.int .i64 k∧Hid (Below z w wr)∧Hid (Qcc z kb ob nk ((us.take k).foldl Qfc (Qfc l d)) wr)) (fun x _=>un-(intOf x).toNat)
 case atStart=>exact⟨0,Nat.zero_le _,rfl,B1,HV1⟩
 case round=>
  obtain⟨k,hk,rfl,HB,HV⟩:=hrel;by_cases hlt:k<un
  ·obtain⟨x,hx⟩:∃x,us[k]? = some x:=⟨_,List.getElem?_eq_getElem (show k<us.length by rw [HU.o];exact hlt)⟩;obtain⟨b1,o1,rfl,hb1,g1⟩:=HC.o k x hx;have g1:=((HZ0.o.trans HB.o).cell (p:=⟨b1,o1+k,none⟩) (by show b1<z;omega)).trans g1;have n0:=(Qd HV.o.note).1 0;simp at n0;have KK:=Zh (K.o _ x wr HV.o (HUS.o x (List.mem_of_getElem? hx)) (by have h1:=QPh (us.take k) (Qfc l d);have h2:=Qnm l d;have h3:=HL1.o;rw [List.length_take] at h1;omega));have HE:=Zh (show Qfc ((us.take k).foldl Qfc (Qfc l d)) x=(us.take (k+1)).foldl Qfc (Qfc l d) by rw [List.take_add_one,hx,List.foldl_append];rfl);clear hx;go_wp2_with fail;refine KK.o.mono ?_;rintro e w2 ⟨rfl,V2,b2,-⟩;have HB2:=Zh (HB.o.trans b2);have HV2:=Zh (HE.o▸V2);clear V2 b2 n0 g1 HB HV KK;go_wp2;go_roundw
   case rel=>exact⟨k+1,by omega,by go_num,HB2,HV2⟩
   case measure=>simp [intOf];omega
  ·have HF:=Zh (show Qcc z kb ob nk (QYe l ⟨op,d,us,ts⟩) wr by unfold QYe;rw [List.foldl_cons,←show us.take k=us from List.take_of_length_le (by rw [HU.o];omega)];exact HV.o);go_wp2;exact bodyPost_end (v:=.tuple #[]) (by simp [results,Tryz.results105,go_sem]) rfl ⟨rfl,HF.o,HB.o⟩
end
end Go.Proofs.YtijekimobahgpaaGreatDoor
