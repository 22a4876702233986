/- A part of the proof. -/
import Derived.Test.YtijekimobahgpaaGreatDoorWb07
set_option linter.unusedVariables false
set_option linter.unusedSimpArgs false
set_option linter.unusedSectionVars false
set_option maxRecDepth 100000
set_option maxHeartbeats 16000000
namespace Go.Proofs.YtijekimobahgpaaGreatDoor
section
open Go.RowKit
variable [Base]
def RowW (B:Nat)(w:World)(g cap:Nat)(l:List Nat):Prop:=w.ownsRow B 139 1 (.slice (some ⟨g,0,none⟩) l.length cap) l.length (l.map uv)
theorem RowW.own {B:Nat}{w:World}{g cap k:Nat}{l:List Nat}(h:RowW B w g cap l)(hk:l.length=k):w.ownsRow B 139 1 (.slice (some ⟨g,0,none⟩) k cap) k (l.map uv):=by subst hk;exact h
def PutR (B g cap:Nat)(s:QSet)(w:World)(e:Ending)(w':World):Prop:=e=.returned (.tuple #[])∧RowW B w' g cap s.words∧ButB g w w'
theorem QPs {B:Nat}(s:QSet)(b g cap:Nat)(w:World)(hf:QUb s)(hb:(b:Int)<s.width)(ho:RowW B w g cap s.words)(hbs:Base.b≤B):
  Calls Tryz.prog 118 #[setV s (.slice (some ⟨g,0,none⟩) s.words.length cap),.int .i64 b] w (PutR B g cap (putS s b) w):=by
 obtain⟨m,hm,hm2,hk⟩:=Qka hf;obtain⟨k,hk2⟩:=Ze s.words.length;have hbk:b / 64<k:=by rw[←hk2,hk];unfold Qj;omega
 have hk5:k≤4:=by rw[←hk2,hk];unfold Qj;omega
 obtain⟨x,hx⟩:∃x,s.words[b / 64]? = some x:=⟨_,List.getElem?_eq_getElem (show b / 64<s.words.length by omega)⟩;have hxl:x<18446744073709551616:=hf.2.2 x (List.mem_of_getElem? hx);obtain⟨g',hg',-,hlt,-,hgc,hgf⟩:=QWd ho ZO hbs;injection hg' with hg'
 injection hg' with hg'
 subst hg';have g0:=hgc (b / 64) (by rw[List.length_map];omega);have g1:=hgf (b / 64);rw[List.getElem?_map,hx] at g0;simp only[Option.map_some] at g0;have q1:0≤(b:Int) / 64:=by omega
 have q2:(b:Int) / 64<k:=by omega
 have q3:((b:Int) / 64).toNat=b / 64:=by omega
 have q4:0≤(b:Int) % 64:=by omega
 have q5:IntKind.u64.wrap (b:Int)=(b:Int):=by rw[IntKind.wrap_u64];omega
 have q6:((b:Int) % 64).toNat=b % 64:=by omega
 obtain⟨y,hy⟩:=Ze (x ||| 2 ^ (b % 64));have q7:bits .or .u64 (x:Int) (IntKind.u64.wrap (2 ^ (b % 64)))=(y:Int):=by
  have h1:IntKind.u64.wrap (2 ^ (b % 64))=((2 ^ (b % 64):Nat):Int):=by
   have:=Qjd b;rw[show((2:Int) ^ (b % 64))=((2 ^ (b % 64):Nat):Int) by simp,IntKind.wrap_u64];generalize 2 ^ (b % 64)=p at *;omega
  rw[h1,Qhl x _ hxl (Qjd b),hy]
 have HY:=Zh hy;have HX:=Zh hx;have HG:=Zh ho;have hne:w.heap.size≠g:=by omega
 rw[hk2];have HK2:=Zh hk2;clear hk2;clear hy hx ho hf hm hk hgc hgf;go_enter Tryz.func118,Tryz.ntmps118;go_wp2_with fail;have HP:=Zh (show(putS s b).words=s.words.set (b / 64) y by
  unfold putS;rw[List.getD_eq_getElem?_getD,HX.o];simp[←HY.o])
 go_end0;refine⟨rfl,?_,?_⟩
 ·have h:=Qvd (RowW.own HG.o HK2.o) (b / 64) (uv y);unfold RowW;rw[HP.o,List.map_set,List.length_set,HK2.o];exact h.alloc _
 ·exact((ButB.refl g w).setCell _ _).alloc _
def remS (s:QSet)(b:Nat):QSet:=⟨s.width,s.words.set (b / 64) (clr (s.words.getD (b / 64) 0) (2 ^ (b % 64)))⟩
theorem Qqh {s:QSet}(h:QUb s)(b:Nat):QUb (remS s b):=by
 obtain⟨h1,h2,h3⟩:=h;refine⟨h1,?_,fun x hx=>?_⟩
 ·unfold QId remS at *;simp only[List.length_set];exact h2
 ·rcases List.mem_or_eq_of_mem_set hx with hx|rfl
  ·exact h3 x hx
  ·refine Qvl ?_;rw[List.getD_eq_getElem?_getD];rcases Nat.lt_or_ge (b / 64) s.words.length with hl|hl
   ·rw[List.getElem?_eq_getElem hl];exact h3 _ (List.getElem_mem _)
   ·rw[List.getElem?_eq_none hl];decide
theorem QMt {l:List Nat}{k b:Nat}:QE (l.set (k / 64) (clr (l.getD (k / 64) 0) (2 ^ (k % 64)))) b=(QE l b&&!decide (b=k)):=by
 unfold QE;rw[List.getD_eq_getElem?_getD,List.getD_eq_getElem?_getD,List.getElem?_set];by_cases h:k / 64=b / 64
 ·rw[if_pos h];by_cases hl:k / 64<l.length
  ·rw[if_pos ZO];simp only[Option.getD_some];rw[QAl,Nat.testBit_two_pow,←h,List.getD_eq_getElem?_getD]
   congr 2
   rw[Bool.eq_iff_iff];simp only[decide_eq_true_eq];omega
  ·rw[if_neg hl,List.getD_eq_getElem?_getD,List.getElem?_eq_none ZO];simp
 ·rw[if_neg h];have:¬b=k:=by intro e;subst e;exact h rfl
  simp[this,List.getD_eq_getElem?_getD]
theorem Qwt (s:QSet)(hf:QUb s)(b:Nat)(hb:(b:Int)<s.width):putS (remS s b) b=putS s b:=by
 refine Qrp rfl (Qnd (Qqh hf b) b) (Qnd hf b) fun k=>?_
 rw[Qah (Qqh hf b) hb,Qah hf hb,show QE (remS s b).words k=_ from QMt]
 cases QE s.words k <;> cases hd:decide (k=b) <;> rfl
def chgS (s:QSet)(b:Int)(m:Bool):QSet×Int:=if setB s=true then (if 0≤b∧b<s.width then ((if m=true then putS s b.toNat else remS s b.toNat),0) else (Qrd,3)) else (Qrd,1)
def QAd (r:QSet×Int)(w:World)(e:Ending)(w':World):Prop:=∃u,e=.returned (.tuple #[setV r.1 u,.int .i64 r.2])∧Qi w' u r.1.words∧Below w.heap.size w w'
theorem QJd.words {n:Int}{w w':World}{e:Ending}(h:QJd n w e w'):QAd (Qrd,n) w e w':=⟨.slice none 0 0,h.1,Qi.nil,h.2⟩
structure ChIn (B r c g cap:Nat)(w wx:World)(d:Int)(ws:List Nat):Prop where
 below:Below w.heap.size w wx
 res:wx.heap[r]? = some (.cells #[.int .i64 0,.slice none 0 0] 52 (0,0))
 cur:wx.heap[c]? = some (.cells #[.int .i64 d,.slice (some ⟨g,0,none⟩) ws.length cap] 52 (0,0))
 own:RowW B wx g cap ws
 old:w.heap.size≤r∧w.heap.size≤c∧w.heap.size≤g∧r≠c∧r≠g∧c≠g
theorem ChIn.word {B r c g cap:Nat}{w wx:World}{d:Int}{ws:List Nat}(h:ChIn B r c g cap w wx d ws)(j y:Nat):ChIn B r c g cap w (wx.setCell ⟨g,j,none⟩ (uv y)) d (ws.set j y):=by
 obtain⟨o1,o2,o3,o4,o5,o6⟩:=h.old;refine⟨h.below.setCell (p:=⟨g,j,none⟩) o3 _,?_,?_,?_,h.old⟩
 ·rw[Below.heap_setCell _ _ _ _ (by exact o5)];exact h.res
 ·rw[Below.heap_setCell _ _ _ _ (by exact o6),List.length_set];exact h.cur
 ·unfold RowW;rw[List.length_set,List.map_set];exact Qvd h.own j _
theorem ChIn.but {B r c g cap:Nat}{w wx w':World}{d:Int}{ws ws':List Nat}(h:ChIn B r c g cap w wx d ws)(hb:ButB g wx w')(ho:RowW B w' g cap ws')(hl:ws'.length=ws.length):ChIn B r c g cap w w' d ws':=by
 obtain⟨o1,o2,o3,o4,o5,o6⟩:=h.old;refine⟨⟨hb.os.trans h.below.os,hb.tape.trans h.below.tape,hb.output.trans h.below.output,Nat.le_trans h.below.size hb.size,fun k hk=>(hb.block k (by have:=h.below.size;omega) ZO).trans (h.below.block k hk)⟩,?_,?_,ho,h.old⟩
 ·rw[hb.block r (Qb h.res) o5];exact h.res
 ·rw[hb.block c (Qb h.cur) o6,hl];exact h.cur
theorem ChIn.fin {B r c g cap:Nat}{w wx:World}{d:Int}{ws:List Nat}{x y:Value}(h:ChIn B r c g cap w wx d ws)(hok:QLa ws)(hbs:Base.b≤w.heap.size):Qi ((wx.setCell ⟨r,0,none⟩ x).setCell ⟨r,1,none⟩ y) (.slice (some ⟨g,0,none⟩) ws.length cap) ws∧Below w.heap.size w ((wx.setCell ⟨r,0,none⟩ x).setCell ⟨r,1,none⟩ y):=by
 obtain⟨o1,o2,o3,o4,o5,o6⟩:=h.old;have hty:=Qv h.res;exact⟨Qi.keep ⟨Qg.of_owns h.own,hok⟩ (Qf.trans (Qf.setCell (U:=52) hty ZD) (Qf.setCell (U:=52) ((QS r).trans hty) ZD)),
  (h.below.setCell (p:=⟨r,0,none⟩) o1 _).setCell (p:=⟨r,1,none⟩) o1 _⟩
theorem ChIn.mkA {r g cap:Nat}{w w3 v:World}{d:Int}{ws:List Nat}(h3:Below w.heap.size w w3)(hb:Below w3.heap.size w3 v)(hr:w3.heap[r]? = some (.cells #[.int .i64 0,.slice none 0 0] 52 (0,0)))(hw:w.heap.size≤r)(own:RowW w3.heap.size v g cap ws)(hg:w3.heap.size≤g∧g<v.heap.size):
  ChIn w3.heap.size r v.heap.size g cap w (v.alloc (.cells #[.int .i64 d,.slice (some ⟨g,0,none⟩) ws.length cap] 52)) d ws:=by
 have hlt:=Qb hr;have hs:=hb.size;have hs3:=h3.size;exact⟨(h3.trans (hb.mono hs3)).alloc ZO _,Qz _ (Qc hr hb hlt),heap_alloc_new _ _,Qnu own (Zb),hw,by omega,by omega,by omega,by omega,by omega⟩
theorem ChIn.mkB {r g cap:Nat}{w w3 v:World}{d:Int}{ws:List Nat}(h3:Below w.heap.size w w3)(hb:Below (w3.heap.size+1) (w3.alloc (.cells #[.int .i64 0,.slice none 0 0] 52)) v)(hr:w3.heap[r]? = some (.cells #[.int .i64 0,.slice none 0 0] 52 (0,0)))(hw:w.heap.size≤r)(own:RowW (w3.heap.size+1) v g cap ws)(hg:w3.heap.size+1≤g)(hbs:Base.b≤w.heap.size):
  ChIn w3.heap.size r w3.heap.size g cap w ((v.setCell ⟨w3.heap.size,0,none⟩ (.int .i64 d)).setCell ⟨w3.heap.size,1,none⟩ (.slice (some ⟨g,0,none⟩) ws.length cap)) d ws:=by
 have hlt:=Qb hr;have hs:=hb.size;simp only[World.size_alloc] at hs;have hs3:=h3.size;have hz:=Qc (heap_alloc_new w3 (.cells #[.int .i64 0,.slice none 0 0] 52)) hb ZO;have hr2:=Qc (Qz (.cells #[.int .i64 0,.slice none 0 0] 52) hr) hb ZO;have hty:=Qv hz;refine⟨(((h3.alloc hs3 _).trans (hb.mono ZO)).setCell (p:=⟨w3.heap.size,0,none⟩) hs3 _).setCell (p:=⟨w3.heap.size,1,none⟩) hs3 _,?_,?_,Qza (Qza (Qao own ZO) hty ZD) ((QS _).trans hty) ZD,hw,by omega,by omega,by omega,by omega,by omega⟩
 ·rw[Below.heap_setCell _ _ _ _ (by show r≠w3.heap.size;omega),Below.heap_setCell _ _ _ _ (by show r≠w3.heap.size;omega)];exact hr2
 ·simp[World.setCell,Array.getElem?_modify,hz]
theorem Qrn {B:Nat}{w v:World}(b:Below B w.drew v):Below B w v:=⟨b.os,b.tape,b.output,b.size,b.block⟩
theorem Qqn {n:Nat}{w v:World}{o:Obj}(b:Below (w.alloc o).drew.heap.size (w.alloc o).drew v)(h:w.heap.size+1=n):Below n (w.alloc o) v:=by
 rw[show(w.alloc o).drew.heap.size=n from(World.size_alloc w o).trans h] at b;exact⟨b.os,b.tape,b.output,b.size,b.block⟩
theorem QMi {w:World}{u:Value}{l:List Nat}(h:Qi w u l):Qi w.drew u l:=h.keep fun _ _ _ _ _ e=>e
def QHu (l:List Nat)(w:World)(e:Ending)(w':World):Prop:=∃g cap,e=.returned (.slice (some ⟨g,0,none⟩) l.length cap)∧RowW w.heap.size w' g cap l∧(w.heap.size≤g∧g<w'.heap.size)∧Below w.heap.size w w'
theorem QTp (l:List Nat)(u:Value)(w:World)(h:Qi w u l)(hn:l.length≤1000000)(h0:0<l.length)(hbs:Base.b≤w.heap.size):Calls Tryz.prog 91 #[u] w (QHu l w):=
 (QXh u l.length (l.map uv) w h.1 (by rw[List.length_map];omega) (QDh l) hn).mono fun e w' ⟨a,c,h1,h2,h3⟩=>by
  obtain⟨g,rfl,hg,hg2,-⟩:=QWd h2 h0 hbs
  exact⟨g,c,h1,h2,⟨hg,hg2⟩,h3⟩
theorem QQs {B:Nat}(s:QSet)(b g cap:Nat)(w:World)(hf:QUb s)(hb:(b:Int)<s.width)(ho:RowW B w g cap (remS s b).words)(hbs:Base.b≤B):
  Calls Tryz.prog 118 #[.agg #[.int .i64 s.width,.slice (some ⟨g,0,none⟩) s.words.length cap],.int .i64 b] w (PutR B g cap (putS s b) w):=by
 have h:=QPs (remS s b) b g cap w (Qqh hf b) hb ho hbs;rw[Qwt s hf b hb,show(remS s b).words.length=s.words.length by simp[remS]] at h;exact h
theorem Qjn (s:QSet)(b:Int)(m:Bool)(u:Value)(w:World)(h:Qi w u s.words)(hbs:Base.b≤w.heap.size):Calls Tryz.prog 181 #[setV s u,.int .i64 b,.bool m] w (QAd (chgS s b m) w):=by
 obtain⟨a,c,rfl,hm,hc,hcm,hk⟩:=h.cell;obtain⟨n,hn⟩:=Ze s.words.length;obtain⟨W,hW⟩:=Ze ((w.alloc (.cells #[.int .i64 s.width,.slice a n c] 52)).alloc (.cells #[.int .i64 0,.slice none 0 0] 52));have B0:Below w.heap.size w W:=by rw[←hW];exact(Zb).alloc ZS _
 have HB0:W.heap[w.heap.size]? = some (.cells #[.int .i64 s.width,.slice a n c] 52 (0,0)):=by rw[←hW];exact Qz _ (heap_alloc_new _ _)
 have HB1:W.heap[w.heap.size+1]? = some (.cells #[.int .i64 0,.slice none 0 0] 52 (0,0)):=by rw[←hW];exact Qda _ _
 have x0:=(Qa HB0).1 0;have x1:=(Qa HB0).1 1;simp only[Zx,Zy,Zz] at x0 x1;rw[hn] at hm hc ⊢;have H0:=Zh HB0;have H1:=Zh HB1;have HW:=Zh hW;have BB:=Zh B0;have HN:=Zh hn;have HR:=Zh (show Qi W (.slice a n c) s.words by rw[←hn] at *;exact h.below B0);have HOK:=Zh h.2;unfold maxLen at hm;clear hW HB0 HB1 B0 hk hn;rcases Bool.eq_false_or_eq_true (setB s) with hv|hv
 rotate_left
 ·have HV:=Zh hv;rw[show chgS s b m=(Qrd,1) by unfold chgS;rw[hv];rfl];clear hv;go_enter Tryz.func181,Tryz.ntmps181;go_wp2_with fail;rw[show(w.alloc (.cells #[.int .i64 s.width,.slice a n c] 52)).alloc (.cells #[.int .i64 0,.slice none 0 0] 52)=W from HW.o];refine(QT HV.o _ _ HR.o).mono ?_;rintro e w1 ⟨rfl,b1⟩;have B1:=Zh (BB.o.trans (b1.mono BB.o.size));have L1:=Zh (Qc H1.o b1 (Qb H1.o));have y0:=(Qa L1.o).1 0;have y1:=(Qa L1.o).1 1;have f0:=(Qa L1.o).2 0;have f1:=(Qa L1.o).2 1;simp only[Zx,Zy,Zz] at y0 y1;clear x0 x1 b1;go_wp2;exact bodyPost_ret (v:=.tuple #[QPd,.int .i64 1]) (by simp[results,Tryz.results181,go_sem,y0,y1]) rfl (QJd.words ⟨rfl,(B1.o.setCell (p:=⟨w.heap.size+1,0,none⟩) (by show w.heap.size≤w.heap.size+1;omega) _).setCell (p:=⟨w.heap.size+1,1,none⟩) (by show w.heap.size≤w.heap.size+1;omega) _⟩)
 have HV:=Zh hv;by_cases hin:0≤b∧b<s.width;rotate_left
 ·rw[show chgS s b m=(Qrd,3) by unfold chgS;rw[hv,if_pos rfl,if_neg hin]];have HI:=Zh (show(decide (0≤b)&&decide (b<s.width))=false by rw[Bool.eq_false_iff];simpa using hin);clear hv h hin;go_enter Tryz.func181,Tryz.ntmps181;go_wp2_with fail;rw[show(w.alloc (.cells #[.int .i64 s.width,.slice a n c] 52)).alloc (.cells #[.int .i64 0,.slice none 0 0] 52)=W from HW.o];refine(QT HV.o _ _ HR.o).mono ?_;rintro e w1 ⟨rfl,b1⟩;have B1:=Zh (BB.o.trans (b1.mono BB.o.size));have L1:=Zh (Qc H1.o b1 (Qb H1.o));have L0:=Zh (Qc H0.o b1 (Qb H0.o));clear x0 x1 b1;have x0:=(Qa L0.o).1 0;have x1:=(Qa L0.o).1 1;simp only[Zx,Zy,Zz] at x0 x1;go_wp2_with fail;refine(QUe (s:=s) (b:=false) HI.o a n c _).mono ?_;rintro e w2 ⟨rfl,b2⟩;have B2:=Zh (B1.o.trans (b2.mono B1.o.size));have L2:=Zh (Qc L1.o b2 (Qb L1.o));have y0:=(Qa L2.o).1 0;have y1:=(Qa L2.o).1 1;have f0:=(Qa L2.o).2 0;have f1:=(Qa L2.o).2 1;simp only[Zx,Zy,Zz] at y0 y1;clear x0 x1 b2;go_wp2;exact bodyPost_ret (v:=.tuple #[QPd,.int .i64 3]) (by simp[results,Tryz.results181,go_sem,y0,y1]) rfl (QJd.words ⟨rfl,(B2.o.setCell (p:=⟨w.heap.size+1,0,none⟩) (by show w.heap.size≤w.heap.size+1;omega) _).setCell (p:=⟨w.heap.size+1,1,none⟩) (by show w.heap.size≤w.heap.size+1;omega) _⟩)
 have hf:=QBa hv h.2;obtain⟨h1,h2⟩:=hin;obtain⟨k,rfl⟩:=Int.eq_ofNat_of_zero_le h1;obtain⟨m2,e1,e2,e3⟩:=Qka hf;have hkn:k / 64<n:=by have:=HN.o;unfold Qj at e3;omega
 have hn5:n≤4:=by have:=HN.o;unfold Qj at e3;omega
 have HI:=Zh (show(decide (0≤(k:Int))&&decide ((k:Int)<s.width))=true by simp;omega);obtain⟨x,hx⟩:∃x,s.words[k / 64]? = some x:=⟨_,List.getElem?_eq_getElem (by have:=HN.o;omega)⟩;have hxl:x<18446744073709551616:=hf.2.2 x (List.mem_of_getElem? hx);have HF:=Zh hf;have HX:=Zh hx;have HK:=Zh h2;have HC:Hid (chgS s k m=((if m=true then putS s k else remS s k),0)):=by
  refine Zh ?_;unfold chgS;rw[hv,if_pos rfl,if_pos ⟨h1,h2⟩];rfl
 rw[HC.o];obtain⟨R,hR⟩:=Ze ((if m=true then putS s k else remS s k));rw[hR];have HRR:=Zh hR;clear hR;clear hv h hf e1 e2 e3 hx h1 h2 HC;go_enter Tryz.func181,Tryz.ntmps181;go_wp2_with fail;rw[show(w.alloc (.cells #[.int .i64 s.width,.slice a n c] 52)).alloc (.cells #[.int .i64 0,.slice none 0 0] 52)=W from HW.o];refine(QT HV.o _ _ HR.o).mono ?_;rintro e w1 ⟨rfl,b1⟩;have B1:=Zh (BB.o.trans (b1.mono BB.o.size));have L1:=Zh (Qc H1.o b1 (Qb H1.o));have L0:=Zh (Qc H0.o b1 (Qb H0.o));have R1:=Zh (HR.o.below b1);clear x0 x1 b1;have x0:=(Qa L0.o).1 0;have x1:=(Qa L0.o).1 1;simp only[Zx,Zy,Zz] at x0 x1;go_wp2_with fail;refine(QUe (s:=s) (b:=true) HI.o a n c _).mono ?_;rintro e w2 ⟨rfl,b2⟩;have B2:=Zh (B1.o.trans (b2.mono B1.o.size));have M1:=Zh (Qc L1.o b2 (Qb L1.o));have M0:=Zh (Qc L0.o b2 (Qb L0.o));have R2:=Zh (R1.o.below b2);clear x0 x1 b2;have x0:=(Qa M0.o).1 0;have x1:=(Qa M0.o).1 1;simp only[Zx,Zy,Zz] at x0 x1;have hz0:w.heap.size<w2.heap.size:=Qb M0.o;have hbs2:Base.b≤w2.heap.size:=by omega
 have hbs3:Base.b≤w2.drew.heap.size:=hbs2;have hbs4:Base.b≤(w2.alloc (.cells #[.int .i64 0,.slice none 0 0] 52)).drew.heap.size:=by rw[show(w2.alloc (.cells #[.int .i64 0,.slice none 0 0] 52)).drew.heap.size=w2.heap.size+1 from World.size_alloc _ _];omega
 go_upto_region 5 with fail
 go_cut [8] from 20 to 25 (fun y8 wx=>∃o g cap wy,wy=wx∧y8=.pointer (some ⟨o,0,none⟩)∧Hid (ChIn w2.heap.size (w.heap.size+1) o g cap w wy s.width s.words))
 case first=>
  go_region_held3 (fun w'=>w'.cell? ⟨w.heap.size,0,none⟩=some (.int .i64 s.width)∧w'.cell? ⟨w.heap.size,1,none⟩=some (.slice a n c)) (first|go_keep|exact⟨Qqa ZO (Qqa ZO p0),Qqa ZO (Qqa ZO p1)⟩) ((first|(go_at_call 91;((with_reducible refine(QTp s.words (.slice a n c) w2.drew (QMi R2.o) (by have:=HN.o;omega) (by have:=HN.o;omega) hbs3).mono ?_));go_must (rintro e v ⟨g,cap,rfl,own,hg,b⟩;have OW:=Zh own;have HG:=Zh hg;have BV:=Zh (Qrn b);have p0:=(BV.o.cell (p:=⟨w.heap.size,0,none⟩) hz0).trans x0;have p1:=(BV.o.cell (p:=⟨w.heap.size,1,none⟩) hz0).trans x1;clear own hg b))|(go_at_call 91;((with_reducible refine(QTp s.words (.slice a n c) (w2.alloc (.cells #[.int .i64 0,.slice none 0 0] 52)).drew (QMi (R2.o.keep Qf.alloc)) (by have:=HN.o;omega) (by have:=HN.o;omega) hbs4).mono ?_));go_must (rintro e v ⟨g,cap,rfl,own,hg,b⟩;have OW:=Zh own;have HG:=Zh hg;have BV:=Zh (Qqn b rfl);have p:=Qc (Qz (.cells #[.int .i64 0,.slice none 0 0] 52) M0.o) BV.o ZO;have p0:=(Qa p).1 0;have p1:=(Qa p).1 1;have z:=Qc (heap_alloc_new w2 (.cells #[.int .i64 0,.slice none 0 0] 52)) BV.o ZO;have z0:=(Qa z).1 0;have z1:=(Qa z).1 1;have f0:=(Qa z).2 0;have f1:=(Qa z).2 1;simp only[Zx,Zy,Zz] at p0 p1 z0 z1;clear own hg b p z))))
  ·go_wp2_with fail;go_meet
   case rel=>exact⟨_,_,_,_,rfl,rfl,ChIn.mkA (w3:=w2) B2.o BV.o M1.o (Nat.le_succ _) OW.o HG.o⟩
  ·go_wp2_with fail;go_meet
   case rel=>exact⟨_,_,_,_,rfl,rfl,ChIn.mkB B2.o BV.o M1.o (Nat.le_succ _) (by have h:=OW.o;rw[show(w2.alloc (.cells #[.int .i64 0,.slice none 0 0] 52)).drew.heap.size=w2.heap.size+1 from World.size_alloc _ _] at h;exact h) (by have h:=HG.o.1;rw[show(w2.alloc (.cells #[.int .i64 0,.slice none 0 0] 52)).drew.heap.size=w2.heap.size+1 from World.size_alloc _ _] at h;exact h) hbs⟩
 case rest=>
  clear x0 x1;obtain⟨o,g,cap,wy,rfl,rfl,J0⟩:=hcut;obtain⟨g',hg',-,-,-,hgc,hgf⟩:=QWd J0.o.own (by have:=HN.o;omega) hbs2;injection hg' with hg'
  injection hg' with hg'
  subst hg';have g0:=hgc (k / 64) (by rw[List.length_map];have:=HN.o;omega);have g1:=hgf (k / 64);rw[List.getElem?_map,HX.o] at g0;simp only[Option.map_some] at g0;have c0:=(Qa J0.o.cur).1 0;have c1:=(Qa J0.o.cur).1 1;simp only[Zx,Zy,Zz] at c0 c1;have q1:0≤(k:Int) / 64:=by omega
  have q2:(k:Int) / 64<n:=by omega
  have q3:((k:Int) / 64).toNat=k / 64:=by omega
  have q4:0≤(k:Int) % 64:=by omega
  have hk256:k<256:=by obtain⟨m3,a1,a2,a3⟩:=Qka HF.o;have:=HK.o;omega
  have q5:IntKind.u64.wrap (k:Int)=(k:Int):=by rw[IntKind.wrap_u64];omega
  have q6:((k:Int) % 64).toNat=k % 64:=by omega
  obtain⟨y,hy⟩:=Ze (clr x (2 ^ (k % 64)));have q7:bits .andNot .u64 (x:Int) (IntKind.u64.wrap (2 ^ (k % 64)))=(y:Int):=by
   have h1:IntKind.u64.wrap (2 ^ (k % 64))=((2 ^ (k % 64):Nat):Int):=by
    have:=Qjd k;rw[show((2:Int) ^ (k % 64))=((2 ^ (k % 64):Nat):Int) by simp,IntKind.wrap_u64];generalize 2 ^ (k % 64)=p at *;omega
   rw[h1,QRj x _ hxl (Qjd k),hy]
  have HREM:=Zh (show(remS s k).words=s.words.set (k / 64) y by
   unfold remS;rw[List.getD_eq_getElem?_getD,HX.o];simp[←hy])
  have J1:=Zh (show ChIn w2.heap.size (w.heap.size+1) o g cap w (wy.setCell ⟨g,k / 64,none⟩ (uv y)) s.width (remS s k).words from by rw[HREM.o];exact J0.o.word (k / 64) y);rw[HN.o] at c1;have hlr:(remS s k).words.length=n:=by rw[HREM.o,List.length_set];exact HN.o
  obtain⟨hor,hog,hrg⟩:w.heap.size+1≠o∧o≠g∧w.heap.size+1≠g:=by have:=J0.o.old;omega
  have r0:=(Qa J0.o.res).1 0;have r1:=(Qa J0.o.res).1 1;have r2:=(Qa J0.o.res).2 0;have r3:=(Qa J0.o.res).2 1;simp only[Zx,Zy,Zz] at r0 r1;clear hy hgc hgf J0
  cases m
  ·have hR:=HRR.o;simp only[Bool.false_eq_true,if_false] at hR;subst hR;have FIN:=Zh (fun x' y'=>J1.o.fin (x:=x') (y:=y') (Qqh HF.o k).2.2 hbs);rw[hlr] at FIN;go_wp2;exact bodyPost_ret (v:=.tuple #[setV (remS s k) (.slice (some ⟨g,0,none⟩) n cap),.int .i64 0]) (by simp[results,Tryz.results181,go_sem,r0,r1,remS]) rfl ⟨_,rfl,(FIN.o _ _).1,(FIN.o _ _).2⟩
  ·have hR:=HRR.o;simp only[if_true] at hR;subst hR;go_wp2_with fail;rw[←HN.o];refine(QQs s k g cap _ HF.o HK.o J1.o.own hbs2).mono ?_;rintro e w5 ⟨rfl,ho,hb⟩;have J2:=Zh (J1.o.but hb ho (by rw[hlr];simp[putS,HN.o]));have hlp:(putS s k).words.length=n:=by simp[putS,HN.o]
   have FIN:=Zh (fun x' y'=>J2.o.fin (x:=x') (y:=y') (Qnd HF.o k).2.2 hbs);rw[hlp] at FIN;clear g0 g1 c0 c1 r0 r1 r2 r3 ho hb;have c0:=(Qa J2.o.cur).1 0;have c1:=(Qa J2.o.cur).1 1;have r0:=(Qa J2.o.res).1 0;have r1:=(Qa J2.o.res).1 1;have r2:=(Qa J2.o.res).2 0;have r3:=(Qa J2.o.res).2 1;simp only[Zx,Zy,Zz] at c0 c1 r0 r1;rw[hlp] at c1;rw[HN.o];go_wp2;exact bodyPost_ret (v:=.tuple #[setV (putS s k) (.slice (some ⟨g,0,none⟩) n cap),.int .i64 0]) (by simp[results,Tryz.results181,go_sem,r0,r1,putS]) rfl ⟨_,rfl,(FIN.o _ _).1,(FIN.o _ _).2⟩
theorem QPg (s:QSet)(b:Int)(u:Value)(w:World)(h:Qi w u s.words)(hbs:Base.b≤w.heap.size):Calls Tryz.prog 140 #[setV s u,.int .i64 b] w (QAd (chgS s b true) w):=by
 obtain⟨a1,n1,c1,rfl⟩:∃a n c,u=.slice a n c:=by obtain⟨a,c,rfl,-⟩:=h.cell;exact⟨_,_,_,rfl⟩
 have R1:=Zh h;obtain⟨W,hW⟩:=Ze ((w.alloc (.cells #[.int .i64 s.width,.slice a1 n1 c1] 52)).alloc (.cells #[.int .i64 0,.slice none 0 0] 52));have B0:Below w.heap.size w W:=by rw[←hW];exact(Zb).alloc ZS _
 have L3:W.heap[w.heap.size+1]? = some (.cells #[.int .i64 0,.slice none 0 0] 52 (0,0)):=by rw[←hW];exact Qda _ _
 have HW:=Zh hW;have BB:=Zh B0;have H3:=Zh L3;clear hW B0 L3 h;go_enter Tryz.func140,Tryz.ntmps140;go_wp2_with fail;rw[show(w.alloc (.cells #[.int .i64 s.width,.slice a1 n1 c1] 52)).alloc (.cells #[.int .i64 0,.slice none 0 0] 52)=W from HW.o];refine(Qjn s b true _ _ (R1.o.below BB.o) (Nat.le_trans hbs BB.o.size)).mono ?_;rintro e v ⟨u,rfl,hu,b1⟩;obtain⟨ua,un,uc,rfl⟩:=hu.shape;obtain⟨q,hq⟩:=Ze (chgS s b true);rw[hq] at hu ⊢;have HU:=Zh hu;have L3:=Zh (Qc H3.o b1 (Qb H3.o));have B1:=Zh (BB.o.trans (b1.mono BB.o.size));have z0:=(Qa L3.o).1 0;have z1:=(Qa L3.o).1 1;have f0:=(Qa L3.o).2 0;have f1:=(Qa L3.o).2 1;simp only[Zx,Zy,Zz] at z0 z1;have hsz:=Qb L3.o;have hty:tyAt v (w.heap.size+1)=some 52:=Qv L3.o;have HTY:=Zh hty;have HQ:=Zh hq;clear hu b1 hq hty;go_wp2;exact bodyPost_ret (v:=.tuple #[setV q.1 (.slice ua un uc),.int .i64 q.2]) (by simp[results,Tryz.results140,go_sem,z0,z1]) rfl (by rw[HQ.o];exact⟨_,rfl,HU.o.keep (Qf.trans (Qf.setCell (U:=52) HTY.o ZD) (Qf.setCell (U:=52) ((QS _).trans HTY.o) ZD)),(B1.o.setCell (p:=⟨w.heap.size+1,0,none⟩) (by show w.heap.size≤w.heap.size+1;omega) _).setCell (p:=⟨w.heap.size+1,1,none⟩) (by show w.heap.size≤w.heap.size+1;omega) _⟩)
end
section
open Go.RowKit
variable [Base]
abbrev ST:TypeId:=52
abbrev RT:TypeId:=135
theorem Qwd:(Tryz.prog.info? ST).map (fun i=>(i.zero,i.size,i.bytes))=some (some (Value.agg #[iv 0,.slice none 0 0]),2,32):=by kernel_rfl
theorem QTh:∀(xss:List (List Value)) (a:Nat) (x y:Value),(∀l∈xss,l.length=2)→a<xss.length→(xss.flatten.set (a*2) x).set (a*2+1) y=(xss.set a [x,y]).flatten
|[],_,_,_,_,h=>by simp at h
|l::r,0,x,y,hl,_=>by
  have h2:=hl l ZS
  match l,h2 with
 |[p,q],_=>simp
|l::r,a+1,x,y,hl,h=>by
  have h2:=hl l ZS
  have ih:=QTh r a x y (fun k hk=>hl k (by simp[hk])) (by simpa using h)
  match l,h2 with
 |[p,q],_=>
   rw[show(a+1)*2=a*2+1+1 by omega]
   simpa using ih
theorem All2.setAt {α β:Type}{P:α→β→Prop}:∀{xs:List α} {ys:List β},All2 P xs ys→∀(a:Nat) {x:α} {y:β},P x y→All2 P (xs.set a x) (ys.set a y)
|[],[],_,_,_,_,_=>trivial
|_::_,_::_,h,0,_,_,hp=>⟨hp,h.2⟩
|_::_,_::_,h,a+1,_,_,hp=>⟨h.1,All2.setAt h.2 a hp⟩
theorem QVa {b:Nat}{w:World}{v0 v1 v2:Value}{t:TypeId}(h:w.heap[b]? = some (.cells #[v0,v1,v2] t (0,0))):
  w.cell? ⟨b,0,none⟩=some v0∧w.cell? ⟨b,1,none⟩=some v1∧w.cell? ⟨b,2,none⟩=some v2:=by
 simp[World.cell?,h]
theorem QZh {w:World}{p g i j o:Nat}{x y:Value}(h:p≠g):((w.setCell ⟨g,i,none⟩ x).setCell ⟨g,j,none⟩ y).cell? ⟨p,o,none⟩=w.cell? ⟨p,o,none⟩:=
 World.cell?_of_block (a:=⟨p,o,none⟩) (by rw[Below.heap_setCell _ _ _ _ h,Below.heap_setCell _ _ _ _ h])
theorem set3o {w:World}{b:Nat}{a0 a1 a2:Value}{t:TypeId}{fr:Nat×Nat}(h:w.heap[b]? = some (.cells #[a0,a1,a2] t fr))(x0 x1 x2:Value):
  (((w.setCell ⟨b,0,none⟩ x0).setCell ⟨b,1,none⟩ x1).setCell ⟨b,2,none⟩ x2).heap[b]? = some (.cells #[x0,x1,x2] t fr):=by
 simp[World.setCell,Array.getElem?_modify,h]
theorem QLn {T U:TypeId}{w:World}{b:Nat}(h:tyAt w b=some U)(hne:T≠U)(x0 x1 x2:Value):Qf T w (((w.setCell ⟨b,0,none⟩ x0).setCell ⟨b,1,none⟩ x1).setCell ⟨b,2,none⟩ x2):=by
 have s:∀(w:World) (o:Nat) (x:Value),tyAt w b=some U→Qf T w (w.setCell ⟨b,o,none⟩ x)∧tyAt (w.setCell ⟨b,o,none⟩ x) b=some U:=fun w o x h=>⟨Qf.setCell h hne,by rw[QS];exact h⟩
 have s0:=s w 0 x0 h;have s1:=s _ 1 x1 s0.2;have s2:=s _ 2 x2 s1.2;exact s0.1.trans (s1.1.trans s2.1)
structure Opn (z q p:Nat)(t:Qw)(tv:Array Value)(w0 w:World)(gu ofv:Value)(R:List QSet):Prop where
 zs:w0.heap.size=z
 below:Below z w0 w
 bs:Base.b≤z
 zq:z≤q∧q+1<p
 tb:w.heap[q]? = some (.cells tv 55 (0,0))
 rb:w.heap[q+1]? = some (.cells #[iv 0,.slice none 0 0,.slice none 0 0] RT (0,0))
 xb:w.heap[p]? = some (.cells #[iv t.gen.width,gu,ofv] RT (0,0))
 rows:QG Qsa z w ofv R
 gen:Qi w gu t.gen.words
section
variable {z q p:Nat} {t:Qw} {tv:Array Value} {w0 w w':World} {gu ofv:Value} {R:List QSet}
theorem Opn.next (h:Opn z q p t tv w0 w gu ofv R)(b:Below w.heap.size w w'):Opn z q p t tv w0 w' gu ofv R:=
 ⟨h.zs,h.below.trans (b.mono (by have:=h.below.size;have:=h.zs;omega)),h.bs,h.zq,Qc h.tb b (Qb h.tb),Qc h.rb b (Qb h.rb),Qc h.xb b (Qb h.xb),h.rows.below b,h.gen.below b⟩
theorem Opn.push (h:Opn z q p t tv w0 w gu ofv R){xss:List (List Value)}(ho:w.ownsRow z ST 2 ofv R.length xss.flatten)(hx:All2 (Qsa.C w) xss R){s:QSet}{u:Value}(hu:Qi w u s.words){g cap:Nat}(ho2:w'.ownsRow z ST 2 (.slice (some ⟨g,0,none⟩) (R.length+1) cap) (R.length+1) (xss.flatten++[iv s.width,u]))(hg:w.grownBy w' ofv.ownBlock):
  Opn z q p t tv w0 (w'.setCell ⟨p,2,none⟩ (.slice (some ⟨g,0,none⟩) (R.length+1) cap)) gu (.slice (some ⟨g,0,none⟩) (R.length+1) cap) (R++[s]):=by
 have hbs:=h.bs;have hzw:z≤w.heap.size:=by have:=h.below.size;have:=h.zs;omega
 have keep:∀k c U,w.heap[k]? = some (Obj.cells c U (0,0))→U≠ST→w'.heap[k]? = some (Obj.cells c U (0,0)):=fun k c U hk hU=>
  (hg.block k (Qb hk) (Qdb ho hk (fun c' fr e=>by injection e with _ e _;exact hU e))).trans hk
 have htq:=keep _ _ _ h.tb ZD;have hrq:=keep _ _ _ h.rb ZD;have hxq:=keep _ _ _ h.xb ZD;have hz:=h.zq;have hT:tyAt w' p=some RT:=Qv hxq ZO;have hsU:Qf 139 w w':=Qf.grown hg ho ZD;have hsV:Qf 139 w' (w'.setCell ⟨p,2,none⟩ (.slice (some ⟨g,0,none⟩) (R.length+1) cap)):=Qf.setCell (U:=RT) hT ZD;have hb1:Below z w w':=Below.of_grown hg ho hzw;refine⟨h.zs,(h.below.trans hb1).setCell (by show z≤p;omega) _,h.bs,h.zq,?_,?_,?_,?_,(h.gen.keep hsU).keep hsV⟩
 ·rw[Below.heap_setCell _ _ _ _ (by show q≠p;omega)];exact htq
 ·rw[Below.heap_setCell _ _ _ _ (by show q+1≠p;omega)];exact hrq
 ·simp[World.setCell,Array.getElem?_modify,hxq]
 ·refine QG.snoc (E:=Qsa) (v:=ofv) (news:=[iv s.width,u]) (Qza ho2 hT (show ST≠RT by decide)) (hx.mono fun _ _ hc=>Qsa.keep (fun U hU=>?_) hc) ⟨u,rfl,(hu.keep hsU).keep hsV⟩;obtain rfl:U=139:=by simpa [Qsa] using hU
  exact hsU.trans hsV
theorem Opn.turn (h:Opn z q p t tv w0 w gu ofv R){g n c a:Nat}(e:ofv=.slice (some ⟨g,0,none⟩) n c)(hn:R.length=n)(ha:a<n){s:QSet}{u:Value}(hu:Qi w u s.words):
  Opn z q p t tv w0 ((w.setCell ⟨g,a*2,none⟩ (iv s.width)).setCell ⟨g,a*2+1,none⟩ u) gu ofv (R.set a s):=by
 subst e;obtain⟨xss,ho,hx⟩:=h.rows;have hbs:=h.bs;have hz:=h.zq;rw[hn] at ho;have hgz:z≤g∧g<w.heap.size∧tyAt w g=some ST:=by
  obtain⟨g',e,h1,h2,h3,-⟩:=QWd ho ZO h.bs;injection e with e
  injection e with e
  subst e;exact⟨h1,h2,h3⟩
 obtain⟨h1,h2,h3⟩:=hgz;have hT2:tyAt (w.setCell ⟨g,a*2,none⟩ (iv s.width)) g=some ST:=by rw[QS];exact h3
 have hne:∀k c U,w.heap[k]? = some (Obj.cells c U (0,0))→Base.b≤k→U≠ST→k≠g:=fun k c U hk hb hU e=>by
  subst e;rw[Qv hk hb] at h3;injection h3 with h3
  exact hU h3
 have keep:∀k c U,w.heap[k]? = some (Obj.cells c U (0,0))→Base.b≤k→U≠ST→((w.setCell ⟨g,a*2,none⟩ (iv s.width)).setCell ⟨g,a*2+1,none⟩ u).heap[k]? = some (Obj.cells c U (0,0)):=fun k c U hk hb hU=>by
  rw[Below.heap_setCell _ _ _ _ (hne k c U hk hb hU),Below.heap_setCell _ _ _ _ (hne k c U hk hb hU)];exact hk
 have hsU:Qf 139 w ((w.setCell ⟨g,a*2,none⟩ (iv s.width)).setCell ⟨g,a*2+1,none⟩ u):=(Qf.setCell (U:=ST) h3 ZD).trans (Qf.setCell (U:=ST) hT2 ZD);have hlen:=hx.length;refine⟨h.zs,(h.below.setCell (by show z≤g;omega) _).setCell (by show z≤g;omega) _,h.bs,h.zq,keep _ _ _ h.tb ZO ZD,keep _ _ _ h.rb ZO ZD,keep _ _ _ h.xb ZO ZD,⟨xss.set a [iv s.width,u],?_,?_⟩,h.gen.keep hsU⟩
 ·have h5:=Qvd (Qvd ho (a*2) (iv s.width)) (a*2+1) u;rw[QTh xss a _ _ (hx.eachR (fun _ _ hc=>Qsa.len hc)) ZO] at h5;rw[List.length_set,hn];exact h5
 ·exact(hx.mono fun _ _ hc=>Qsa.keep (fun U hU=>by
   obtain rfl:U=139:=by simpa [Qsa] using hU
   exact hsU) hc).setAt a ⟨u,rfl,hu.keep hsU⟩
theorem Opn.row (h:Opn z q p t tv w0 w gu ofv R){a:Nat}{s:QSet}(hs:R[a]? = some s):∃g c u,ofv=.slice (some ⟨g,0,none⟩) R.length c∧(g<w.heap.size∧z≤g∧tyAt w g=some ST)∧Qi w u s.words∧(w.cell? ⟨g,a*2,none⟩=some (iv s.width)∧w.cell? ⟨g,a*2+1,none⟩=some u)∧∀j,w.frozen? ⟨g,j,none⟩=false:=by
 have hr:=h.rows.rows;obtain⟨xss,ho,hx⟩:=h.rows;obtain⟨x,c,rfl,-,-,-,hc⟩:=hr.cell;have hlt:=(List.getElem?_eq_some_iff.1 hs).1;obtain⟨g,e,h1,h2,h3,-,h4⟩:=QWd ho ZO h.bs;subst e;obtain⟨b,off,cs,e,h5,⟨u,rfl,h6⟩,h7⟩:=hc a s hs;injection e with e
 injection e with e1 e2
 subst e1 e2;have g0:=h7 0 (show 0<2 by decide);have g1:=h7 1 (show 1<2 by decide);simp only[Qsa,Nat.zero_add,Nat.add_zero,List.getElem?_cons_zero,List.getElem?_cons_succ] at g0 g1;exact⟨g,c,u,rfl,⟨h2,h1,h3⟩,h6,⟨g0,g1⟩,h4⟩
end
def OpenQ (m:Nat)(t:Qw)(w:World)(e:Ending)(w':World):Prop:=∃gu ofv,e=.returned (.agg #[iv t.gen.width,gu,ofv])∧Qi w' gu t.gen.words∧Qoa Qsa w' ofv (Qpi t m)∧Below w.heap.size w w'
theorem QWr (m:Nat)(t:Qw)(hok:OkT m t)(gu ku cu:Value)(w:World)(h:Qja w gu ku cu t)(hbs:Base.b≤w.heap.size):Calls Tryz.prog 73 #[trV t gu ku cu] w (OpenQ m t w):=by
 have hm:=hok.gen.le;have OK:=Zh hok;have HT:=Zh h;have hgw:=hok.gen.width;have hkw:=hok.kill.width;obtain⟨ga,gc,rfl,-,-,-,-⟩:=h.gen.cell;obtain⟨ka,kc,rfl,-,-,-,-⟩:=h.kill.cell;obtain⟨ca,cc,rfl,h63,-,-,hcc⟩:=h.cops.cell;have HC:=Zh hcc;have hc64:=hok.len;simp only[trV];have HGL:=Zh (show t.gen.words.length≤1000000 by
  obtain⟨k,h1,h2,h3⟩:=Qka hok.gen.form;rw[h3];unfold Qj;omega)
 obtain⟨gn,hgn⟩:=Ze t.gen.words.length;obtain⟨kn,hkn⟩:=Ze t.kill.words.length;obtain⟨n,hn⟩:=Ze t.cops.length;have HN:=Zh hn;have HG1:=Zh (hgn▸h.gen:Qi w (.slice ga gn gc) t.gen.words);have HK1:=Zh (hkn▸h.kill:Qi w (.slice ka kn kc) t.kill.words);rw[hgn,hkn,hn,hgw,hkw];rw[hn] at hc64;obtain⟨z,hz⟩:=Ze w.heap.size;obtain⟨W,hW⟩:=Ze ((w.alloc (.cells #[iv m,.slice ga gn gc,iv m,.slice ka kn kc,.slice ca n cc] 55)).alloc (.cells #[iv 0,.slice none 0 0,.slice none 0 0] RT));have HWW:=Zh hW;have HZ:=Zh hz;have BW:=Zh (show Below z w W by rw[←hW,←hz];exact(Zb).alloc ZS _);have HX:=Zh (show W.heap[z]? = some (.cells #[iv m,.slice ga gn gc,iv m,.slice ka kn kc,.slice ca n cc] 55 (0,0)) by rw[←hW,←hz,Below.heap_alloc _ _ _ ZS];exact heap_alloc_new _ _);have HR:=Zh (show W.heap[z+1]? = some (.cells #[iv 0,.slice none 0 0,.slice none 0 0] RT (0,0)) by rw[←hW,←hz];exact Qda _ _);have HSZ:=Zh (show W.heap.size=z+2 by rw[←hW,←hz];simp);have KC:=Zh (Qog t.gen (.slice ga gn gc) W (HG1.o.below (HZ.o▸BW.o)) HGL.o (by have:=HSZ.o;have:=HZ.o;omega));rw[show setV t.gen (.slice ga gn gc)=.agg #[iv m,.slice ga gn gc] by rw[←hgw]] at KC;clear h hok hcc hW hgn hkn hn;obtain⟨x0,x1,x2,x3,x4⟩:=QJ HX.o;go_enter Tryz.func73,Tryz.ntmps73;go_upto_region 1 with(fail)
 rw[show(w.alloc (.cells #[iv m,.slice ga gn gc,iv m,.slice ka kn kc,.slice ca n cc] 55)).alloc (.cells #[iv 0,.slice none 0 0,.slice none 0 0] RT)=W from HWW.o]
 try rw[hz]
 go_wp2_with fail;refine KC.o.mono ?_;rintro e w1 ⟨u,rfl,hu,b1⟩;have HU:=Zh hu;obtain⟨ua,uc,rfl,-⟩:=hu.cell;obtain⟨un,hun⟩:=Ze t.gen.words.length;rw[show setV t.gen (.slice ua t.gen.words.length uc)=.agg #[iv m,.slice ua un uc] by rw[←hgw,←hun]];rw[hun] at HU;obtain⟨W2,hW2⟩:=Ze (w1.alloc (.cells #[iv m,.slice ua un uc,.slice none 0 0] RT));obtain⟨p,hp⟩:=Ze w1.heap.size;have A2:=Zh (show Below w1.heap.size w1 W2 by rw[←hW2];exact Zb);have HO:=Zh (show Opn z z p t #[iv m,.slice ga gn gc,iv m,.slice ka kn kc,.slice ca n cc] w W2 (.slice ua un uc) (.slice none 0 0) [] from by
  have s1:=b1.size;have s2:=HSZ.o;exact⟨HZ.o,BW.o.trans ((b1.trans (A2.o.mono s1)).mono ZO),by have:=HZ.o;omega,⟨Nat.le_refl _,by omega⟩,Qc (Qc HX.o b1 (Qb HX.o)) A2.o ZO,Qc (Qc HR.o b1 (Qb HR.o)) A2.o ZO,by rw[hgw,←hW2,←hp];exact heap_alloc_new _ _,QG.nil,HU.o.below A2.o⟩)
 have HW2:=Zh hW2;clear hu b1 hW2 x0 x1 x2 x3 x4;go_upto_region 2 with(fail)
 try rw[hp]
 rw[show w1.alloc (.cells #[iv m,.slice ua un uc,.slice none 0 0] RT)=W2 from HW2.o];obtain⟨x0,x1,x2,x3,x4⟩:=QJ HO.o.tb;go_wp2;clear x0 x1 x2 x3 x4;obtain⟨TV,hTV⟩:∃v:Array Value,#[iv m,.slice ga gn gc,iv m,.slice ka kn kc,.slice ca n cc]=v:=⟨_,rfl⟩;have HTV:=Zh hTV;rw[hTV] at HO;clear hTV;go_loopw [16] (fun y wr=>∃k:Nat,k≤m∧y=.int .i64 k∧Hid (∃V,Opn z z p t TV w wr (.slice ua un uc) V (QGd t m 0 k))) (fun y _=>m-(intOf y).toNat)
 case atStart=>exact⟨0,Nat.zero_le _,rfl,⟨_,HO.o⟩⟩
 case round=>
  obtain⟨k,hk,rfl,HR1⟩:=hrel;by_cases hlt:k<m;rotate_left
  ·obtain rfl:k=m:=by omega
   obtain⟨wd,rfl⟩:∃x:World,x=wr:=⟨_,rfl⟩;obtain⟨V,HV⟩:=HR1.o;have htb:=HV.tb;rw[←HTV.o] at htb;obtain⟨x0,x1,x2,x3,x4⟩:=QJ htb;have HO1:=Zh HV;have hbz:Base.b≤z:=HV.bs;have hpz:z+1<p:=HV.zq.2;clear HR1 HV htb hlt hk;go_wp2;clear x0 x1 x2 x3 x4;go_loopw [47] (fun y wr=>∃j:Nat,j≤n∧y=.int .i64 j∧Hid (∃V,Opn z z p t TV w wr (.slice ua un uc) V (QGd t k j k))) (fun y _=>n-(intOf y).toNat)
   case atStart=>exact⟨0,Nat.zero_le _,rfl,⟨_,HO1.o⟩⟩
   case round=>
    obtain⟨j,hj,rfl,HR2⟩:=hrel;obtain⟨V,HV⟩:=HR2.o;have HO5:=Zh HV;clear HR2 HV;by_cases hlt:j<n;rotate_left
    ·obtain rfl:j=n:=by omega
     obtain⟨va,vc,hve⟩:=HO5.o.rows.slice;rw[Qqb] at hve;subst hve;have HE:=Zh (show QGd t k j k=Qpi t k by rw[←HN.o];exact Qyq t k);obtain⟨hs0,hs1,hs2⟩:=QVa HO5.o.xb;rw[hgw] at hs0;have HR3:=Zh HO5.o.rb;obtain⟨c0,c1,c2⟩:=QVa HR3.o;have f0:=(Qa HR3.o).2 0;have f1:=(Qa HR3.o).2 1;have f2:=(Qa HR3.o).2 2;have e3:=set3o HR3.o (iv k) (.slice ua un uc) (.slice va k vc);obtain⟨g0,g1,g2⟩:=QVa e3;have HT:=Zh (fun (T:TypeId) (hne:T≠RT)=>QLn (T:=T) (Qv HR3.o ZO) hne (iv k) (.slice ua un uc) (.slice va k vc));have HB3:=Zh (((HO5.o.below.setCell (show z≤z+1 by omega) (iv k)).setCell (show z≤z+1 by omega) (.slice ua un uc) |>.setCell (show z≤z+1 by omega) (.slice va k vc):Below z w (((wr.setCell ⟨z+1,0,none⟩ (iv k)).setCell ⟨z+1,1,none⟩ (.slice ua un uc)).setCell ⟨z+1,2,none⟩ (.slice va k vc))));have HG3:=Zh (HO5.o.gen.keep (HT.o _ ZD));have HW3:=Zh (HE.o▸(HO5.o.rows.rows.keep (fun U hU=>HT.o U (by
      have h2:U=ST∨U=139:=by simpa [Qsa] using hU
      rcases h2 with rfl|rfl
      ·decide
      ·decide))))
     clear e3;go_wp2;refine bodyPost_ret (v:=.agg #[iv k,.slice ua un uc,.slice va k vc]) (by simp[results,Tryz.results73,go_sem,g0,g1,g2]) rfl ⟨_,_,by rw[hgw],HG3.o,HW3.o,?_⟩;rw[HZ.o];exact HB3.o
    ·obtain⟨⟨ci,di⟩,hy⟩:∃y,t.cops[j]? = some y:=⟨_,List.getElem?_eq_getElem (by rw[HN.o];exact hlt)⟩;obtain⟨a,b,e,ha,hb⟩:=OK.o.mem (List.mem_of_getElem? hy);injection e with e1 e2
     subst e1 e2;obtain⟨b4,o4,rfl,hb4,g0,g1⟩:=HC.o j _ hy;simp only at g0 g1;have hb4z:b4<z:=by have:=HZ.o;omega
     have g0:=(HO5.o.below.cell (p:=⟨b4,o4+j*2,none⟩) hb4z).trans g0;have g1:=(HO5.o.below.cell (p:=⟨b4,o4+j*2+1,none⟩) hb4z).trans g1;obtain⟨V1,hV1⟩:=Ze (wr.alloc (.cells #[iv a,iv b] CT));obtain⟨cb,hcb⟩:=Ze wr.heap.size;have B1:=Zh (show Below wr.heap.size wr V1 by rw[←hV1];exact Zb);have HCB:=Zh (show V1.heap[cb]? = some (.cells #[iv a,iv b] CT (0,0)) by rw[←hV1,←hcb];exact heap_alloc_new _ _);have HO6:=Zh (HO5.o.next B1.o);have HV1:=Zh hV1;have PW:=Zh (show(putS (rowK t k j a) b).width=(k:Int) from(QVd t hm j a).width);have HSTEP:=Zh (QWn hm hy hb);obtain⟨g,c,u,rfl,⟨hg1,hg2,hg3⟩,hu,⟨r0,r1⟩,hfz⟩:=HO6.o.row (QLh t k j k a ha);rw[Qqb] at *;rw[(QVd t hm j a).width] at r0;obtain⟨ra,rc,rfl,-⟩:=hu.cell;have HRU:=Zh hu;obtain⟨rn,hrn⟩:=Ze ((rowK t k j a).words.length);rw[hrn] at r1 HRU;have HSS:=Zh (show ∀w',Below V1.heap.size V1 w'→(w'.cell? ⟨p,2,none⟩=some (.slice (some ⟨g,0,none⟩) k c)∧w'.cell? ⟨cb,0,none⟩=some (iv a)∧w'.cell? ⟨cb,1,none⟩=some (iv b)) from fun w' hb=>by
      obtain⟨-,-,a2⟩:=QVa (HO6.o.next hb).xb;obtain⟨c0,c1⟩:=Qq (Qc HCB.o hb (Qb HCB.o));exact⟨a2,c0,c1⟩)
     have HFZ:=Zh (show ∀w',Below V1.heap.size V1 w'→∀j,w'.frozen? ⟨g,j,none⟩=false from fun w' hb j=>(World.frozen?_of_block (hb.block _ hg1)).trans (hfz j));have hgp:p≠g:=fun e=>by
      subst e;rw[Qv HO6.o.xb ZO] at hg3;exact absurd hg3 ZD
     have hgc:cb≠g:=fun e=>by
      subst e;rw[Qv HCB.o (by have:=HO5.o.below.size;have:=HO5.o.zs;omega)] at hg3;exact absurd hg3 ZD
     have HTN:=Zh (fun (x:World) (b:Below V1.heap.size V1 x) (s:QSet) (u:Value) (hu:Qi x u s.words)=>(HO6.o.next b).turn (e:=rfl) (hn:=Qqb t k j k) (ha:=ha) (s:=s) (u:=u) hu);have KW:=Zh (show Calls Tryz.prog 140 #[.agg #[iv k,.slice ra rn rc],iv b] (V1.drewN 1) (QAd (putS (rowK t k j a) b,0) (V1.drewN 1)) by
      have h1:=QPg (rowK t k j a) b (.slice ra rn rc) (V1.drewN 1) (HRU.o.below (Qp (Below.refl _ _) 1)) (by have:=HO6.o.below.size;have:=HO6.o.zs;show Base.b≤V1.heap.size;omega);rw[show setV (rowK t k j a) (.slice ra rn rc)=.agg #[iv k,.slice ra rn rc] by rw[←(QVd t hm j a).width]] at h1;rw[show chgS (rowK t k j a) (b:Int) true=(putS (rowK t k j a) b,0) by
       unfold chgS;rw[if_pos (QVd t hm j a).ok,if_pos ⟨by omega,by rw[(QVd t hm j a).width];omega⟩];simp] at h1
      exact h1)
     clear hV1 hy hu hrn hfz;go_upto_region 13 with(fail)
     try rw[hcb]
     rw[show wr.alloc (.cells #[iv a,iv b] CT)=V1 from HV1.o];clear g0 g1;refine Zr (fun w'=>w'.cell? ⟨p,2,none⟩=some (.slice (some ⟨g,0,none⟩) k c)∧w'.cell? ⟨cb,0,none⟩=some (iv a)∧w'.cell? ⟨cb,1,none⟩=some (iv b)) 18 (HSS.o (V1.drewN 1) (Qp (Below.refl _ _) 1)) fun hS0=>?_
     refine Yn 0 52 ?_;refine Yn 1 53 ?_;refine Yn 2 54 ?_;refine Yn 3 55 ?_;refine Yn 4 56 ?_;refine Yn 5 57 ?_;refine Yn 6 58 ?_;refine Yn 7 59 ?_;refine Yn 8 60 ?_;refine Yn 10 62 ?_;refine Yn 11 63 ?_;have r0d:(V1.drewN 1).cell? ⟨g,a*2,none⟩=some (iv k):=r0;have r1d:(V1.drewN 1).cell? ⟨g,a*2+1,none⟩=some (.slice ra rn rc):=r1;refine QW 9 (some 61) (.agg #[iv k,.slice ra rn rc]) (V1.drewN 1) rfl ZK ZK ?r9 rfl (fun _=>hS0) ?_
     case r9=>go_simp
     clear r0d r1d;refine QP 12 (some 64) 140 #[.agg #[iv k,.slice ra rn rc],iv b] rfl ZK ZK ZK rfl ?_;refine(KW.o).mono ?_;rintro e m1 ⟨fu,rfl,hf,b1⟩;obtain⟨fa,fc,rfl,-⟩:=hf.cell;have HF:=Zh hf;have BB1:=Zh ((Qp (Below.refl _ _) 1).trans b1:Below V1.heap.size V1 m1);clear hS0 hf b1;have hS0:=HSS.o _ BB1.o;obtain⟨fn,hfn⟩:=Ze ((putS (rowK t k j a) b).words.length);simp only[setV,hfn,PW.o];rw[hfn] at HF;clear hfn;refine⟨_,rfl,fun _=>hS0,?_⟩;refine Yn 13 51 ?_;refine Yn 14 65 ?_;refine Yn 15 66 ?_;refine Yn 16 67 ?_;have HO7:=Zh (HO6.o.next BB1.o);have fz:=HFZ.o m1 BB1.o;have f0:=fz (a*2);have f1:=fz (a*2+1);clear fz;have r0:=(BB1.o.cell (p:=⟨g,a*2,none⟩) hg1).trans r0;have r1:=(BB1.o.cell (p:=⟨g,a*2+1,none⟩) hg1).trans r1;have hSF:(fun w':World=>w'.cell? ⟨p,2,none⟩=some (.slice (some ⟨g,0,none⟩) k c)∧w'.cell? ⟨cb,0,none⟩=some (iv a)∧w'.cell? ⟨cb,1,none⟩=some (iv b)) ((m1.setCell ⟨g,a*2,none⟩ (iv k)).setCell ⟨g,a*2+1,none⟩ (.slice fa fn fc)):=by
      have h3:=(QVa HO7.o.xb).2.2;have h4:=Qq (Qc HCB.o BB1.o (Qb HCB.o));exact⟨(QZh hgp).trans h3,(QZh hgc).trans h4.1,(QZh hgc).trans h4.2⟩
     refine Qeb 17 none ((m1.setCell ⟨g,a*2,none⟩ (iv k)).setCell ⟨g,a*2+1,none⟩ (.slice fa fn fc)) rfl ZK ZK ?rs1 rfl (fun _=>hSF) ?_
     case rs1=>go_simp
     refine Qu ZK ?_ _;generalize hA:Act.put _ _ _=A0;simp only[Qba,Qaa,Zu,Zv,Zw] at hA;subst hA;have HO8:=Zh (HTN.o m1 BB1.o _ _ HF.o);have HO9:=Zh (show Opn z z p t TV w ((m1.setCell ⟨g,a*2,none⟩ (iv k)).setCell ⟨g,a*2+1,none⟩ (.slice fa fn fc)) (.slice ua un uc) (.slice (some ⟨g,0,none⟩) k c) (QGd t k (j+1) k) by
      have h8:=HO8.o;rw[PW.o] at h8;rw[HSTEP.o];exact h8)
     clear hS0 f0 f1 r0 r1;go_wp2;go_roundw
     case rel=>exact⟨j+1,by omega,by go_num,⟨_,HO9.o⟩⟩
     case measure=>simp[intOf];omega
  ·obtain⟨V,HV⟩:=HR1.o;have HO1:=Zh HV;have hzr:z≤wr.heap.size:=by have:=HV.below.size;have:=HV.zs;omega
   have hbz:Base.b≤z:=HV.bs;have hpz:z+1<p:=HV.zq.2;have KE:=Zh (Qxe m hm wr);have htb:=HV.tb;rw[←HTV.o] at htb;obtain⟨x0,x1,x2,x3,x4⟩:=QJ htb;clear HV HR1 htb;go_wp2_with fail;refine KE.o.mono ?_;rintro e w3 ⟨eu,rfl,eo,b3⟩;obtain⟨ea,ec,rfl,-⟩:=eo.words.cell;obtain⟨en,hen⟩:=Ze ((Qy m).words.length);rw[hen,show setV (Qy m) (.slice ea en ec)=.agg #[iv m,.slice ea en ec] from rfl];have HE3:=Zh (hen▸eo.words:Qi w3 (.slice ea en ec) (Qy m).words);obtain⟨sb,hsb⟩:=Ze w3.heap.size;obtain⟨V4,hV4⟩:=Ze (w3.alloc (.cells #[iv m,.slice ea en ec] ST));have B4:=Zh (show Below w3.heap.size w3 V4 by rw[←hV4];exact Zb);have HO4:=Zh ((HO1.o.next b3).next B4.o);have HS4:=Zh (show V4.heap[sb]? = some (.cells #[iv m,.slice ea en ec] ST (0,0)) by rw[←hV4,←hsb];exact heap_alloc_new _ _);have HE4:=Zh (HE3.o.below B4.o);have hsz:wr.heap.size≤sb:=by have:=b3.size;omega
   have BB4:=Zh (b3.trans (B4.o.mono b3.size));have HV4:=Zh hV4;clear b3 eo hen hV4 x0 x1 x2 x3 x4;have htb:=HO4.o.tb;rw[←HTV.o] at htb;obtain⟨x0,x1,x2,x3,x4⟩:=QJ htb;go_upto_region 6 with(fail)
   try rw[hsb]
   rw[show w3.alloc (.cells #[iv m,.slice ea en ec] ST)=V4 from HV4.o];clear hsb;obtain⟨b,hb⟩:=Ze (QE t.kill.words k);have KH:=Zh (show Calls Tryz.prog 139 #[.agg #[iv m,.slice ka kn kc],iv k] V4 (Qia b V4) by
    have h1:=QPj t.kill k (.slice ka kn kc) V4 (HK1.o.below (HO4.o.zs▸HO4.o.below));rw[QCj OK.o.kill hlt,hb] at h1;rw[show setV t.kill (.slice ka kn kc)=.agg #[iv m,.slice ka kn kc] by rw[←hkw]] at h1;exact h1)
   have HROW:=Zh (QAq t hm hlt);rw[hb] at HROW;clear hb htb;go_wp2_with fail;refine KH.o.mono ?_;rintro e w5 ⟨rfl,b5⟩;have HO5:=Zh (HO4.o.next b5);have HS5:=Zh (Qc HS4.o b5 (Qb HS4.o));have HE5:=Zh (HE4.o.below b5);have BB5:=Zh (BB4.o.trans (b5.mono BB4.o.size));clear b5 x0 x1 x2 x3 x4 HO4 HS4 HE4 KH KE HE3 B4 HV4 BB4
   cases b with
  |true=>
    have HER:=Zh (show Qi w5 (.slice ea en ec) (rowK t m 0 k).words by rw[HROW.o];exact HE5.o);obtain⟨xss,how,hx⟩:=HO5.o.rows;have hxb:=HO5.o.xb;rw[hgw] at hxb;have PUSH:=Zh (show ∀g cap w',w'.ownsRow z ST 2 (.slice (some ⟨g,0,none⟩) (k+1) cap) (k+1) (xss.flatten++[iv m,.slice ea en ec])→w5.grownBy w' V.ownBlock→Opn z z p t TV w (w'.setCell ⟨p,2,none⟩ (.slice (some ⟨g,0,none⟩) (k+1) cap)) (.slice ua un uc) (.slice (some ⟨g,0,none⟩) (k+1) cap) (QGd t m 0 (k+1))∧w'.heap[p]? = some (.cells #[iv m,.slice ua un uc,V] RT (0,0)) from fun g cap w' ho hg=>by
     have h8:=HO5.o.push how hx (s:=rowK t m 0 k) HER.o (g:=g) (cap:=cap) (w':=w') (by rw[Qqb,(QVd t hm 0 k).width];exact ho) hg;rw[Qqb] at h8;rw[Qlj];exact⟨h8,(hg.block _ (Qb hxb) (Qdb how hxb (by intro c' fr e;injection e with _ e _;exact absurd (show RT=ST from e) ZD))).trans hxb⟩)
    rw[Qqb] at how;have OWN:=Zh how;have hzW:z≤w5.heap.size:=by have:=HO5.o.below.size;have:=HO5.o.zs;omega
    obtain⟨s0,s1⟩:=Qq HS5.o;obtain⟨y0,y1,y2⟩:=QVa hxb;clear how hx hxb;go_wp2_with (at_builtin;refine QL [iv m,.slice ea en ec] rfl _ _ _ rfl z ST _ 2 32 Tryz.underlying34 Qwd rfl ZO _ _ _ OWN.o rfl rfl rfl rfl (by unfold maxLen;omega) ZO hzW ?_;intro g cap w8 ho hg hzg _;have HP8:=Zh (PUSH.o g cap w8 ho hg);have v2:=(Qa HP8.o.2).1 2;have v3:=(Qa HP8.o.2).2 2;simp only[Zx,Zy,Zz] at v2;clear ho hg hzg);go_roundw
    case rel=>exact⟨k+1,by omega,by go_num,⟨_,HP8.o.1⟩⟩
    case measure=>simp[intOf];omega
  |false=>
    have HCH:=Zh (show chgS (Qy m) (k:Int) true=(putS (Qy m) k,0) by
     unfold chgS;rw[if_pos (QOb hm).ok,if_pos ⟨by omega,by show(k:Int)<((m:Nat):Int);omega⟩];simp)
    have KW:=Zh (show Calls Tryz.prog 140 #[.agg #[iv m,.slice ea en ec],iv k] w5 (QAd (putS (Qy m) k,0) w5) by
     have h1:=QPg (Qy m) k (.slice ea en ec) w5 HE5.o (by have:=BB5.o.size;omega);rw[HCH.o] at h1;exact h1)
    obtain⟨s0,s1⟩:=Qq HS5.o;go_wp2_with fail;refine KW.o.mono ?_;rintro e w6 ⟨fu,rfl,hf,b6⟩;obtain⟨fa,fc,rfl,-⟩:=hf.cell;obtain⟨fn,hfn⟩:=Ze ((putS (Qy m) k).words.length);have HF6:=Zh (hfn▸hf:Qi w6 (.slice fa fn fc) (putS (Qy m) k).words);simp only[setV,hfn,show(putS (Qy m) k).width=(m:Int) from rfl];have HS6:=Zh (Qc HS5.o b6 (Qb HS5.o));have BB6:=Zh (BB5.o.trans (b6.mono BB5.o.size));obtain⟨W7,hW7⟩:=Ze ((w6.setCell ⟨sb,0,none⟩ (iv m)).setCell ⟨sb,1,none⟩ (.slice fa fn fc));have HW7:=Zh hW7;have BB7:=Zh (show Below wr.heap.size wr W7 by rw[←hW7];exact(BB6.o.setCell hsz _).setCell hsz _);have HS7:=Zh (show W7.heap[sb]? = some (.cells #[iv m,.slice fa fn fc] ST (0,0)) by rw[←hW7];exact Qvb (Qwb HS6.o _) _);have HT7:tyAt w6 sb=some ST:=Qv HS6.o ZO;have HER:=Zh (show Qi W7 (.slice fa fn fc) (rowK t m 0 k).words by
     rw[HROW.o,←hW7];exact(HF6.o.keep (Qf.setCell (U:=ST) HT7 ZD)).keep (Qf.setCell (U:=ST) (by rw[QS];exact HT7) ZD))
    have HO7:=Zh (HO1.o.next BB7.o);obtain⟨s0,s1⟩:=Qq HS6.o;have f0:=(Qa HS6.o).2 0;have f1:=(Qa HS6.o).2 1;clear hf b6 hfn hW7 HT7;go_upto_region 8 with(fail)
    rw[show(w6.setCell ⟨sb,0,none⟩ (iv m)).setCell ⟨sb,1,none⟩ (.slice fa fn fc)=W7 from HW7.o];clear s0 s1 f0 f1;obtain⟨xss,how,hx⟩:=HO7.o.rows;have hxb:=HO7.o.xb;rw[hgw] at hxb;have PUSH:=Zh (show ∀g cap w',w'.ownsRow z ST 2 (.slice (some ⟨g,0,none⟩) (k+1) cap) (k+1) (xss.flatten++[iv m,.slice fa fn fc])→W7.grownBy w' V.ownBlock→Opn z z p t TV w (w'.setCell ⟨p,2,none⟩ (.slice (some ⟨g,0,none⟩) (k+1) cap)) (.slice ua un uc) (.slice (some ⟨g,0,none⟩) (k+1) cap) (QGd t m 0 (k+1))∧w'.heap[p]? = some (.cells #[iv m,.slice ua un uc,V] RT (0,0)) from fun g cap w' ho hg=>by
     have h8:=HO7.o.push how hx (s:=rowK t m 0 k) HER.o (g:=g) (cap:=cap) (w':=w') (by rw[Qqb,(QVd t hm 0 k).width];exact ho) hg;rw[Qqb] at h8;rw[Qlj];exact⟨h8,(hg.block _ (Qb hxb) (Qdb how hxb (by intro c' fr e;injection e with _ e _;exact absurd (show RT=ST from e) ZD))).trans hxb⟩)
    rw[Qqb] at how;have OWN:=Zh how;have hzW:z≤W7.heap.size:=by have:=HO7.o.below.size;have:=HO7.o.zs;omega
    obtain⟨s0,s1⟩:=Qq HS7.o;obtain⟨y0,y1,y2⟩:=QVa hxb;clear how hx hxb;go_wp2_with (at_builtin;refine QL [iv m,.slice fa fn fc] rfl _ _ _ rfl z ST _ 2 32 Tryz.underlying34 Qwd rfl ZO _ _ _ OWN.o rfl rfl rfl rfl (by unfold maxLen;omega) ZO hzW ?_;intro g cap w8 ho hg hzg _;have HP8:=Zh (PUSH.o g cap w8 ho hg);have v2:=(Qa HP8.o.2).1 2;have v3:=(Qa HP8.o.2).2 2;simp only[Zx,Zy,Zz] at v2;clear ho hg hzg);go_roundw
    case rel=>exact⟨k+1,by omega,by go_num,⟨_,HP8.o.1⟩⟩
    case measure=>simp[intOf];omega
end
section
open Go.RowKit
variable [Base]
theorem QOk:∀(l:List Cp) (c:Cp),Qxa (l++[c])=if l.getLast? = some c then Qxa l else Qxa l++[c]
|[],c=>by simp[Qxa]
|[x],c=>by
  by_cases h:x=c
  ·subst h;simp[Qxa]
  ·simp[Qxa,h]
|x::y::r,c=>by
  have ih:=QOk (y::r) c
  have e:(x::y::r).getLast? =(y::r).getLast?:=by simp[List.getLast?_cons]
  rw[e]
  show Qxa (x::(y::r++[c]))=_
  have e1:∀t,Qxa (x::y::t)=if x=y then Qxa (y::t) else x::Qxa (y::t):=fun t=>rfl
  rw[show(y::r)++[c]=y::(r++[c]) from rfl] at ih ⊢
  rw[e1,e1,ih]
  by_cases hxy:x=y
  ·rw[if_pos hxy,if_pos hxy]
  ·rw[if_neg hxy,if_neg hxy]
   split <;> simp
theorem QNk {l:List Cp}{i:Nat}{c d:Cp}(hi:l[i+1]? = some c)(hd:l[i]? = some d):Qxa (l.take (i+1+1))=if d=c then Qxa (l.take (i+1)) else Qxa (l.take (i+1))++[c]:=by
 have e1:l.take (i+1+1)=l.take (i+1)++[c]:=by rw[List.take_add_one,hi];rfl
 have e2:(l.take (i+1)).getLast? = some d:=by rw[List.take_add_one,hd];simp
 rw[e1,QOk,e2];by_cases h:d=c
 ·subst h;simp
 ·rw[if_neg h,if_neg (by simpa using h)]
theorem Qgn {l:List Cp}(h:l.length≤1):Qxa l=l:=by
 match l,h with
|[],_=>rfl
|[x],_=>rfl
theorem QSh {w0 w:World}{g o:Nat}{x:Value}(h:w0.grownBy w (some g)):w0.grownBy (w.setCell ⟨g,o,none⟩ x) (some g):=
 ⟨h.os,h.tape,h.output,by rw[World.size_setCell];exact h.size,fun k hk hne=>by rw[Below.heap_setCell _ _ _ _ (fun e=>hne (by rw[e]))];exact h.block k hk hne⟩
theorem QHo {w0 w:World}{g q:Nat}(h:w0.grownBy w (some g)):w0.grownBy (w.drewN q) (some g):=⟨h.os,h.tape,h.output,h.size,h.block⟩
structure Cmc (z g cap:Nat)(w0 wr:World)(m:List Cp):Prop where
 own:Qya z wr (.slice (some ⟨g,0,none⟩) m.length cap) m
 grown:w0.grownBy wr (some g)
theorem Cmc.drew {z g cap q:Nat}{w0 wr:World}{m:List Cp}(h:Cmc z g cap w0 wr m):Cmc z g cap w0 (wr.drewN q) m:=⟨h.own.below (Qp (Below.refl _ _) q),QHo h.grown⟩
theorem Cmc.put {z g cap k:Nat}{w0 wr:World}{m:List Cp}(h:Cmc z g cap w0 wr m)(hk:k<m.length)(c:Cp):Cmc z g cap w0 ((wr.setCell ⟨g,k*2,none⟩ (iv c.1)).setCell ⟨g,k*2+1,none⟩ (iv c.2)) (m.set k c):=by
 refine⟨?_,QSh (QSh h.grown)⟩;have h5:=Qvd (Qvd h.own (k*2) (iv c.1)) (k*2+1) (iv c.2);rw[show QHa m=(m.map copV).flatten from rfl,QTh (m.map copV) k _ _ (QJk m) (by rw[List.length_map];exact hk)] at h5;unfold Qya;rw[List.length_set];rw[show QHa (m.set k c)=((m.map copV).set k [iv c.1,iv c.2]).flatten by rw[QHa,List.map_set];rfl];exact h5
theorem Qtl (l:List Cp):(QHa l).length=l.length*2:=by
 induction l with
|nil=>rfl
|cons c r ih=>simp[QHa,copV] at ih ⊢;omega
theorem QUr {z g n k cap:Nat}{w:World}{m:List Cp}(h:w.ownsRow z CT 2 (.slice (some ⟨g,0,none⟩) n cap) n (QHa m))(hm:m.length=n)(hk:k≤n):Qya z w (.slice (some ⟨g,0,none⟩) k cap) (m.take k):=by
 have hlen:∀l:List Cp,(QHa l).length=l.length*2:=fun l=>by
  induction l with
 |nil=>rfl
 |cons c r ih=>simp[QHa,copV] at ih ⊢;omega
 have hl:(m.take k).length=k:=by rw[List.length_take];omega
 obtain⟨h1,h2⟩:=h;rcases h2 with⟨h2,-⟩|⟨g',cap',cur,e,hg,hh,hn,hc,hs,ht⟩
 ·cases h2
 ·injection e with e1 e2 e3
  injection e1 with e1
  injection e1 with e1
  subst e1 e3;unfold Qya;rw[hl];refine⟨by rw[hlen,hl],.inr ⟨g,cap,cur,rfl,hg,hh,by omega,hc,hs,?_⟩⟩;have h3:(cur.toList.take (n*2)).take (k*2)=(QHa m).take (k*2):=by rw[ht]
  rw[List.take_take,Nat.min_eq_left ZO] at h3;rw[h3];apply List.ext_getElem?;intro j;have get:∀(l:List Cp) (t:Nat),(QHa l)[t]? =(l[t / 2]?).map fun c=>if t % 2=0 then iv c.1 else iv c.2:=fun l=>by
   induction l with
  |nil=>intro t;simp[QHa]
  |cons c r ih=>
    intro t
    match t with
   |0=>rfl
   |1=>rfl
   |t+2=>
     rw[show(t+2) / 2=t / 2+1 by omega,show(t+2) % 2=t % 2 by omega,List.getElem?_cons_succ,←ih t];simp[QHa,copV]
  rw[get,List.getElem?_take,List.getElem?_take,get];by_cases hj:j<k*2
  ·rw[if_pos hj,if_pos ZO]
  ·rw[if_neg hj,if_neg ZO];rfl
theorem Qbh {z g n c:Nat}{T:TypeId}{sz:Nat}{xs:List Value}:∀(vs:List Value) {w:World} {o:Nat},xs.length≤o→w.ownsRow z T sz (.slice (some ⟨g,0,none⟩) n c) n xs→(w.setCells g o vs).ownsRow z T sz (.slice (some ⟨g,0,none⟩) n c) n xs
|[],_,_,_,h=>h
|v::r,w,o,ho,h=>by
  have h1:=Qvd h o v
  rw[List.set_eq_of_length_le ho] at h1
  exact Qbh r ZO h1
theorem QEf {w0:World}{g:Nat}:∀(vs:List Value) {w:World} {o:Nat},w0.grownBy w (some g)→w0.grownBy (w.setCells g o vs) (some g)
|[],_,_,h=>h
|v::r,w,o,h=>QEf r (QSh h)
theorem Cmc.cell {z g cap k:Nat}{w0 wr:World}{m:List Cp}{c:Cp}(h:Cmc z g cap w0 wr m)(hk:m[k]? = some c):wr.cell? ⟨g,k*2,none⟩=some (iv c.1)∧wr.cell? ⟨g,k*2+1,none⟩=some (iv c.2):=by
 obtain⟨a,cc,e,-,-,-,hc⟩:=h.own.at_.cell;obtain⟨b,off,e2,-,h1,h2⟩:=hc k c hk;injection e with e
 rw[e2] at e;injection e with e
 injection e with e e3
 subst e e3;rw[Nat.zero_add] at h1 h2;exact⟨h1,h2⟩
theorem Cmc.frz {z g cap:Nat}{w0 wr:World}{m:List Cp}(h:Cmc z g cap w0 wr m)(hz:Base.b≤z)(hm:0<m.length)(j:Nat):wr.frozen? ⟨g,j,none⟩=false:=by
 obtain⟨g',e,-,-,-,-,h5⟩:=QWd (show wr.ownsRow z CT 2 (.slice (some ⟨g,0,none⟩) m.length cap) m.length (QHa m) from h.own) hm hz;injection e with e
 injection e with e
 subst e;exact h5 j
theorem Qij (w:World)(ty:TypeId)(g o n c:Nat)(hn:0<n)(hc:∀j,j<n*2→(w.cell? ⟨g,o+j,none⟩).isSome=true)(hf:∀j,j<n*2→w.frozen? ⟨g,o+j,none⟩=false):
  (Builtin.clear_ #[53] ty #[.slice (some ⟨g,o,none⟩) n c]).run Tryz.prog w=.ok (.tuple #[]) (w.setCells g o (Builtin.zeroCells (Value.agg #[iv 0,iv 0]).cells n).toList):=by
 have hz:(Builtin.zeroCells (Value.agg #[iv 0,iv 0]).cells n).toList.length=n*2:=by simp[Builtin.zeroCells,Value.cells]
 have hst:=run_storeCells_cells (P:=Tryz.prog) g o (Builtin.zeroCells (Value.agg #[iv 0,iv 0]).cells n).toList 0 w (by rw[hz];simpa using hc) (by rw[hz];simpa using hf) (by
  intro v hv;simp[Builtin.zeroCells,Value.cells] at hv;obtain⟨a,ha,rfl⟩:=hv;rcases Nat.mod_two_eq_zero_or_one a with h|h <;> simp[h,Value.oneCell'])
 simp only[Nat.add_zero] at hst;obtain⟨m,rfl⟩:∃m,n=m+1:=⟨n-1,by omega⟩;simp[Builtin.clear_,run_underlying Tryz.underlying53,Tryz.zeroValue119,hst]
theorem Qfn {z:Nat}(l:List Cp)(v:Value)(w:World)(hl:l.length≤12)(ho:Qya z w v l)(hz:Base.b≤z):
  Calls Tryz.prog 114 #[v] w fun e w'=>∃u,e=.returned u∧QKc w' u (Qxa l)∧w.grownBy w' v.ownBlock:=by
 obtain⟨n,hn⟩:=Ze l.length;obtain⟨a,cap,hve,hnc,hcm⟩:=QXa ho;rw[hn] at hve hnc hl;subst hve;by_cases h2:n<2
 ·have HO:=Zh ho;have HC:=Zh (Qgn (l:=l) ZO);clear ho hn;go_enter Tryz.func114,Tryz.ntmps114;go_wp2;go_ret;exact⟨_,rfl,by rw[HC.o];exact HO.o.at_,⟨rfl,rfl,rfl,Nat.le_refl _,fun _ _ _=>rfl⟩⟩
 ·obtain⟨g,rfl,hgz,hgw,hgt,-,hfz⟩:=QWd (show w.ownsRow z CT 2 (.slice a n cap) n (QHa l) by have h3:=ho;unfold Qya at h3;rw[hn] at h3;exact h3) (show 0<n by omega) hz;have HM0:=Zh (show Cmc z g cap w w l from⟨by rw[hn];exact ho,⟨rfl,rfl,rfl,Nat.le_refl _,fun _ _ _=>rfl⟩⟩);have HN:=Zh hn;have hN1:=Zh (show Qxa (l.take 1)=l.take 1 from Qgn (by rw[List.length_take];omega));clear ho hn hfz hgt;go_enter Tryz.func114,Tryz.ntmps114;go_wp2;go_loopw [3] (fun y wr=>∃k:Nat,k+1≤n∧y=.int .i64 ((k:Int)+1)∧Hid (Cmc z g cap w wr l)∧Hid (Qxa (l.take (k+1))=l.take (k+1))) (fun y _=>n-(intOf y).toNat)
  case atStart=>exact⟨0,by omega,by go_num,HM0.o,hN1.o⟩
  case round=>
   obtain⟨k,hk,rfl,HM,HD⟩:=hrel;by_cases hlt:k+1<n
   ·obtain⟨⟨c1,c2⟩,hc⟩:∃c,l[k+1]? = some c:=⟨_,List.getElem?_eq_getElem (by rw[HN.o];exact hlt)⟩;obtain⟨⟨d1,d2⟩,hd⟩:∃c,l[k]? = some c:=⟨_,List.getElem?_eq_getElem (by rw[HN.o];omega)⟩;obtain⟨x0,x1⟩:=HM.o.cell hc;obtain⟨y0,y1⟩:=HM.o.cell hd;have HT:=Zh (QNk hc hd);simp only at x0 x1 y0 y1;have HC1:=Zh hc;clear hc hd;by_cases e:c1=d1∧c2=d2
    ·obtain⟨rfl,rfl⟩:=e;have HS:=Zh (show Qxa (l.take (k+1+1))=l.take (k+1) by rw[HT.o,if_pos rfl];exact HD.o);clear HD HT;go_wp2;go_quiet (fail);go_wp2;clear x0 x1 y0 y1;obtain⟨wo,rfl⟩:∃x:World,x=wr:=⟨_,rfl⟩;have hd13:decide ((k:Int)+1<(n:Int))=true:=by simp;omega
     simp only[hd13];clear hd13;go_loopw [3,5] (fun y3 y5 wr=>∃(kk j:Nat) (m:List Cp),y3=.int .i64 kk∧y5=.int .i64 ((j:Int)+1)∧k+1+(j+1)≤n∧kk≤k+1+j∧Hid (m.length=n)∧Hid (Cmc z g cap w wr m)∧Hid (m.take kk=Qxa (l.take (k+1+j+1)))∧Hid (∀i,k+1+j≤i→m[i]? = l[i]?)) (fun _ y _=>n-(intOf y).toNat)
     case atStart=>exact⟨k+1,0,l,by go_num,by go_num,by omega,by omega,HN.o,HM.o.drew,HS.o.symm,fun _ _=>rfl⟩
     case round=>
      obtain⟨kk,j,m,rfl,rfl,hj,hkk,HML,HMM,HMT,HMR⟩:=hrel;by_cases hlt2:k+1+(j+1)<n
      ·obtain⟨⟨u1,u2⟩,hu⟩:∃c,l[k+1+j+1]? = some c:=⟨_,List.getElem?_eq_getElem (by rw[HN.o];omega)⟩;obtain⟨⟨v1,v2⟩,hv⟩:∃c,l[k+1+j]? = some c:=⟨_,List.getElem?_eq_getElem (by rw[HN.o];omega)⟩;obtain⟨⟨o1,o2⟩,ho⟩:∃c,m[kk]? = some c:=⟨_,List.getElem?_eq_getElem (by rw[HML.o];omega)⟩;obtain⟨x0,x1⟩:=HMM.o.cell ((HMR.o (k+1+j+1) ZO).trans hu);obtain⟨y0,y1⟩:=HMM.o.cell ((HMR.o (k+1+j) ZO).trans hv);rw[show(k+1+j+1)*2=(k+1)*2+(j+1)*2 by omega] at x0 x1;rw[show(k+1+j)*2=(k+1)*2+j*2 by omega] at y0 y1;have HT:=Zh (QNk hu hv);simp only at x0 x1 y0 y1;have HU:=Zh hu;clear hu hv;by_cases e:u1=v1∧u2=v2
       ·obtain⟨rfl,rfl⟩:=e;have HS2:=Zh (show m.take kk=Qxa (l.take (k+1+(j+1)+1)) by
         rw[show k+1+(j+1)+1=k+1+j+1+1 by omega,HT.o,if_pos rfl];exact HMT.o)
        clear HT ho HMT;go_wp2;go_quiet (fail);go_wp2;go_roundw
        case rel=>exact⟨kk,j+1,m,rfl,by go_num,by omega,by omega,HML,HMM.o.drew,HS2,fun i hi=>HMR.o i ZO⟩
        case measure=>simp[intOf];omega
       ·have HS2:=Zh (show(m.set kk (u1,u2)).take (kk+1)=Qxa (l.take (k+1+(j+1)+1)) by
         rw[show k+1+(j+1)+1=k+1+j+1+1 by omega,HT.o,if_neg (fun h=>e (by injection h with h1 h2;exact⟨h1.symm,h2.symm⟩)),←HMT.o];have hlt3:kk<m.length:=by rw[HML.o];omega
         rw[List.take_add_one,List.getElem?_set_self hlt3,List.take_set_of_le (Nat.le_refl _)];rfl)
        obtain⟨p0,p1⟩:=HMM.o.cell ho;simp only at p0 p1;have fz:=HMM.o.frz hz (by rw[HML.o];omega);have f0:=fz (kk*2);have f1:=fz (kk*2+1);have HMP:=Zh (fun q=>(HMM.o.drew (q:=q)).put (k:=kk) (by rw[HML.o];omega) (u1,u2));have HMS:=Zh (show ∀i,k+1+(j+1)≤i→(m.set kk (u1,u2))[i]? = l[i]? from fun i hi=>by
         rw[List.getElem?_set_ne ZO];exact HMR.o i ZO)
        have HML2:=Zh (show(m.set kk (u1,u2)).length=n by rw[List.length_set];exact HML.o);clear HT ho fz HMT;by_cases e1:u1=v1
        ·have e2:¬u2=v2:=fun h=>e ⟨e1,h⟩
         subst e1;clear e;go_wp2;go_quiet (fail);go_wp2;go_roundw
         case rel=>exact⟨kk+1,j+1,_,by go_num,by go_num,by omega,by omega,HML2,HMP.o _,HS2,HMS⟩
         case measure=>simp[intOf];omega
        ·clear e;go_wp2;go_quiet (fail);go_wp2;go_roundw
         case rel=>exact⟨kk+1,j+1,_,by go_num,by go_num,by omega,by omega,HML2,HMP.o _,HS2,HMS⟩
         case measure=>simp[intOf];omega
      ·have he:k+1+j+1=n:=by omega
       have HE:=Zh (show m.take kk=Qxa l by
        have h:=HMT.o;have h2:l.take (k+1+j+1)=l:=List.take_of_length_le (by rw[HN.o];omega)
        rwa [h2] at h)
       have hcl:∀ty,(Builtin.clear_ #[53] ty #[.slice (some ⟨g,kk*2,none⟩) (n-kk) (cap-kk)]).run Tryz.prog wr=.ok (.tuple #[]) (wr.setCells g (kk*2) (Builtin.zeroCells (Value.agg #[iv 0,iv 0]).cells (n-kk)).toList):=fun ty=>
        Qij wr ty g (kk*2) (n-kk) (cap-kk) ZO (fun t ht=>by
         obtain⟨c,hc⟩:∃c,m[kk+t / 2]? = some c:=⟨_,List.getElem?_eq_getElem (by rw[HML.o];omega)⟩;obtain⟨c0,c1⟩:=HMM.o.cell hc;rcases Nat.mod_two_eq_zero_or_one t with h|h
         ·rw[show kk*2+t=(kk+t / 2)*2 by omega,c0];rfl
         ·rw[show kk*2+t=(kk+t / 2)*2+1 by omega,c1];rfl) (fun t _=>HMM.o.frz hz (by rw[HML.o];omega) _)
       have HR:=Zh (show QKc (wr.setCells g (kk*2) (Builtin.zeroCells (Value.agg #[iv 0,iv 0]).cells (n-kk)).toList) (.slice (some ⟨g,0,none⟩) kk cap) (Qxa l) by
        rw[←HE.o];have h1:=QUr (k:=kk) HMM.o.own rfl (by rw[HML.o];omega);have h2:(m.take kk).length=kk:=by rw[List.length_take,HML.o];omega
        have h3:=Qbh (Builtin.zeroCells (Value.agg #[iv 0,iv 0]).cells (n-kk)).toList (o:=kk*2) (by rw[Qtl,h2];exact Nat.le_refl _) (show wr.ownsRow z CT 2 (.slice (some ⟨g,0,none⟩) kk cap) kk (QHa (m.take kk)) by unfold Qya at h1;rwa [h2] at h1);exact Qg.of_owns h3)
       have HG:=Zh (QEf (Builtin.zeroCells (Value.agg #[iv 0,iv 0]).cells (n-kk)).toList (o:=kk*2) HMM.o.grown);clear he;go_wp2;go_ret;exact⟨_,rfl,HR.o,HG.o⟩
    ·have HS:=Zh (show Qxa (l.take (k+1+1))=l.take (k+1+1) by
      rw[HT.o,if_neg (fun h=>e (by injection h with h1 h2;exact⟨h1.symm,h2.symm⟩)),HD.o,List.take_add_one (i:=k+1),HC1.o];rfl)
     clear HD HT;by_cases e1:c1=d1
     ·have e2:¬c2=d2:=fun h=>e ⟨e1,h⟩
      subst e1;clear e;go_wp2;go_quiet (fail);go_wp2;go_roundw
      case rel=>exact⟨k+1,by omega,by go_num,HM.o.drew,HS⟩
      case measure=>simp[intOf];omega
     ·clear e;go_wp2;go_quiet (fail);go_wp2;go_roundw
      case rel=>exact⟨k+1,by omega,by go_num,HM.o.drew,HS⟩
      case measure=>simp[intOf];omega
   ·obtain rfl:k+1=n:=by omega
    have HE:=Zh (show Qxa l=l by
     have h:=HD.o
     rwa [List.take_of_length_le (by rw[HN.o];exact Nat.le_refl _)] at h)
    go_wp2;go_ret;exact⟨_,rfl,by rw[HE.o];have h:=HM.o.own.at_;rwa [HN.o] at h,HM.o.grown⟩
end
section
open Go.RowKit
variable [Base]
abbrev TBT:TypeId:=106
def OwnI (z:Nat)(w:World)(v:Value)(l:List Int):Prop:=w.ownsRow z 3 1 v l.length (l.map iv)
theorem OwnI.ints {z:Nat}{w:World}{v:Value}{l:List Int}(h:OwnI z w v l):QJa w v l:=Qg.of_owns h
theorem OwnI.nil {z:Nat}{w:World}:OwnI z w (.slice none 0 0) []:=World.ownsRow_nil _ _ _ _
theorem OwnI.below {z:Nat}{w w':World}{v:Value}{l:List Int}(h:OwnI z w v l)(b:Below w.heap.size w w'):OwnI z w' v l:=QZd h b
theorem OwnI.push {z n:Nat}{w:World}{v:Value}{l:List Int}{x:Int}(hn:l.length=n)(h:w.ownsRow z 3 1 v (n+1) (l.map iv++[iv x])):OwnI z w v (l++[x]):=by
 unfold OwnI;rw[List.length_append,List.map_append,hn];exact h
theorem OwnI.shape {z:Nat}{w:World}{v:Value}{l:List Int}(h:OwnI z w v l):∃a c,v=.slice a l.length c∧l.length≤c∧c≤maxLen:=QXa h
def fofK (l:List Qra)(v:Int)(k:Nat):List Int:=rowF k fun i=>decide (Qyf l i=v)
theorem Qgr (l:List Qra)(v:Int)(k:Nat):fofK l v (k+1)=fofK l v k++(if Qyf l k=v then [(k:Int)] else []):=by
 unfold fofK rowF;rw[List.range_succ,List.filter_append,List.map_append]
 congr 1
 by_cases h:Qyf l k=v
 ·simp[h]
 ·simp[h]
theorem Qzs (l:List Qra)(v:Int)(k:Nat):(fofK l v k).length≤k:=Qbm _ _
theorem Qiq {l:List Qra}{k:Nat}{f:Qra}(h:l[k]? = some f):Qyf l k=f.var:=by unfold Qyf;rw[h];rfl
theorem QJt (kind:Int)(l:List Qra)(vars:List Str)(fv vv:Value)(x:Str)(w:World)(hl:Qqd w fv l)(hv:Qea w vv vars)(hn:l.length≤1000)(hbs:Base.b≤w.heap.size):
  Calls Tryz.prog 109 #[.agg #[iv kind,fv,vv],sv x] w (QWk (QGa l (idxI vars x)) w):=by
 have HF:=Zh hl;have HV:=Zh hv;obtain⟨fa,fc,rfl,-,-,-,hfc⟩:=hl.cell;obtain⟨va,vc,rfl,-,-⟩:=hv.cell;have HFC:=Zh hfc;obtain⟨n,hln⟩:=Ze l.length;obtain⟨vn,hvn⟩:=Ze vars.length;rw[hln] at HF hn;rw[hvn] at HV;rw[hln,hvn];have HL:=Zh hln;obtain⟨z,hz⟩:=Ze w.heap.size;have HZ:=Zh hz;obtain⟨W,hW⟩:=Ze (w.alloc (.cells #[iv kind,.slice fa n fc,.slice va vn vc] TBT));have HTB:=Zh (show W.heap[z]? = some (.cells #[iv kind,.slice fa n fc,.slice va vn vc] TBT (0,0)) by rw[←hW,←hz];exact heap_alloc_new _ _);have BW:=Zh (show Below z w W by rw[←hW,←hz];exact Zb);have HWW:=Zh hW;have hzb:Base.b≤z:=by omega
 obtain⟨ix,hix⟩:=Ze (idxI vars x);have KI:=Zh (show Calls Tryz.prog 160 #[.slice va vn vc,sv x] W (IntQ ix W) by
  rw[←hix];exact QBj vars _ x W (Qg.same HV.o (Qf.below (HZ.o▸BW.o))))
 rw[hix];clear hl hv hfc hln hvn hW hix;obtain⟨x0,x1,x2⟩:=QVa HTB.o;go_enter Tryz.func109,Tryz.ntmps109;go_upto_region 1 with(fail)
 rw[show w.alloc (.cells #[iv kind,.slice fa n fc,.slice va vn vc] TBT)=W from HWW.o]
 try rw[hz]
 go_wp2_with fail;refine KI.o.mono ?_;rintro e w1 ⟨rfl,b1⟩;have BW1:=Zh (BW.o.trans (b1.mono (by have:=Qb HTB.o;omega)));have HT1:=Zh (Qc HTB.o b1 (Qb HTB.o));clear b1 x0 x1 x2 KI;obtain⟨x0,x1,x2⟩:=QVa HT1.o;go_wp2;clear x0 x1 x2;go_loopw [6,16] (fun v y wr=>∃k:Nat,k≤n∧y=.int .i64 k∧Hid (Below z w wr)∧Hid (OwnI z wr v (fofK l ix k))) (fun _ y _=>n-(intOf y).toNat)
 case atStart=>exact⟨0,Nat.zero_le _,rfl,BW1.o,OwnI.nil⟩
 case round=>
  obtain⟨k,hk,rfl,HB,HO⟩:=hrel;rename_i v _;obtain⟨oa,oc,rfl,-⟩:=HO.o.shape;by_cases hlt:k<n
  ·obtain⟨f,hf⟩:∃f,l[k]? = some f:=⟨_,List.getElem?_eq_getElem (by rw[HL.o];exact hlt)⟩;obtain⟨fb,fo,rfl,hfb,g0,g1⟩:=HFC.o k f hf;have hfz:fb<z:=by omega
   have g0:=(HB.o.cell (p:=⟨fb,fo+k*2,none⟩) hfz).trans g0;have g1:=(HB.o.cell (p:=⟨fb,fo+k*2+1,none⟩) hfz).trans g1;have HS:=Zh (Qgr l ix k);rw[Qiq hf] at HS;obtain⟨fn,hfn⟩:=Ze f.node;obtain⟨fx,hfx⟩:=Ze f.var;rw[hfn] at g0;rw[hfx] at g1 HS;obtain⟨V1,hV1⟩:=Ze (wr.alloc (.cells #[iv fn,iv fx] FT));obtain⟨cb,hcb⟩:=Ze wr.heap.size;have B1:=Zh (show Below wr.heap.size wr V1 by rw[←hV1];exact Zb);have HCB:=Zh (show V1.heap[cb]? = some (.cells #[iv fn,iv fx] FT (0,0)) by rw[←hV1,←hcb];exact heap_alloc_new _ _);have HB1:=Zh (HB.o.trans (B1.o.mono (by have:=HB.o.size;omega)));have HO1:=Zh (HO.o.below B1.o);have HV1:=Zh hV1;have hD:(fofK l ix k).length≤1000:=by have:=Qzs l ix k;omega
   obtain⟨D,hDD⟩:=Ze (fofK l ix k);rw[hDD] at HS hD HO1 ⊢;clear hV1 hf hfn hfx hDD;go_upto_region 6 with(fail)
   try rw[hcb]
   rw[show wr.alloc (.cells #[iv fn,iv fx] FT)=V1 from HV1.o];clear g0 g1;obtain⟨c0,c1⟩:=Qq HCB.o;by_cases e:fx=ix
   ·have t1:(fx==ix)=true:=by simpa using e
    have HSS:=Zh (show fofK l ix (k+1)=D++[(k:Int)] by rw[HS.o,if_pos e]);clear e;have hzV:z≤V1.heap.size:=by have:=HB1.o.size;omega
    have PUSH:=Zh (show ∀g cap w',w'.ownsRow z 3 1 (.slice (some ⟨g,0,none⟩) (D.length+1) cap) (D.length+1) (D.map iv++[iv k])→V1.grownBy w' (Value.slice oa D.length oc).ownBlock →
      Below z w w'∧OwnI z w' (.slice (some ⟨g,0,none⟩) (D.length+1) cap) (D++[(k:Int)]) from fun g cap w' ho hg=>
     ⟨HB1.o.trans (Below.of_grown hg HO1.o hzV),OwnI.push rfl ho⟩)
    go_wp2_with (at_builtin;refine QL [iv k] rfl _ _ _ rfl z 3 _ 1 8 Tryz.underlying22 QRa rfl ZO _ _ _ HO1.o rfl rfl rfl rfl (by unfold maxLen;omega) ZO hzV ?_;intro g cap w9 ho hg hzg _;have HP9:=Zh (PUSH.o g cap w9 ho hg);clear ho hg hzg);have HO9:=Zh (HSS.o▸HP9.o.2);go_roundw
    case rel=>exact⟨k+1,by omega,by go_num,HP9.o.1,HO9.o⟩
    case measure=>simp[intOf];omega
   ·have t1:(fx==ix)=false:=by simpa using e
    have HO9:=Zh (show OwnI z V1 (.slice oa D.length oc) (fofK l ix (k+1)) by rw[HS.o,if_neg e,List.append_nil];exact HO1.o);clear e;go_wp2;go_roundw
    case rel=>exact⟨k+1,by omega,by go_num,HB1.o,HO9.o⟩
    case measure=>simp[intOf];omega
  ·obtain rfl:k=n:=by omega
   have HE:=Zh (show fofK l ix k=QGa l ix by unfold fofK QGa;rw[HL.o]);have HI:=Zh (show QJa wr (.slice oa (fofK l ix k).length oc) (QGa l ix) from HE.o▸HO.o.ints);go_wp2;go_ret;exact⟨_,rfl,HI.o,by rw[HZ.o];exact HB.o⟩
end
section
open Go.RowKit
variable [Base]
theorem Qho {l:List Qra}{k:Nat}{f:Qra}(h:l[k]? = some f):Qxc l k=f.node:=by unfold Qxc;rw[h];rfl
theorem QGq {l:List Qra}{i k:Nat}(hk:k<l.length)(h:Qxc l k=(i:Int))(hn:∀j,j<k→Qxc l j≠(i:Int)):ownF l i=(k:Int):=by
 unfold ownF;have e:(List.range l.length).find? (fun b=>decide (Qxc l b=(i:Int)))=some k:=by
  rw[List.find?_range_eq_some];exact⟨by simpa using h,List.mem_range.2 hk,fun j hj=>by simpa using hn j hj⟩
 rw[e]
theorem QHq {l:List Qra}{i:Nat}(hn:∀j,j<l.length→Qxc l j≠(i:Int)):ownF l i = -1:=by
 unfold ownF;have e:(List.range l.length).find? (fun b=>decide (Qxc l b=(i:Int)))=none:=by
  rw[List.find?_eq_none];intro x hx
  simpa using hn x (List.mem_range.1 hx)
 rw[e]
theorem Qpo (fn fx:Int)(q:Nat)(i:Int)(w:World)(hq:w.cell? ⟨q,0,none⟩=some (iv i))(hlt:q<w.heap.size):
  Calls Tryz.prog 111 #[.agg #[iv fn,iv fx],.pointer (some ⟨q,0,none⟩)] w (Qia (fn==i) w):=by
 obtain⟨W,hW⟩:=Ze (w.alloc (.cells #[iv fn,iv fx] FT));obtain⟨cb,hcb⟩:=Ze w.heap.size;have B1:=Zh (show Below w.heap.size w W by rw[←hW];exact Zb);have HCB:=Zh (show W.heap[cb]? = some (.cells #[iv fn,iv fx] FT (0,0)) by rw[←hW,←hcb];exact heap_alloc_new _ _);have q0:W.cell? ⟨q,0,none⟩=some (iv i):=(B1.o.cell (p:=⟨q,0,none⟩) hlt).trans hq;have HW:=Zh hW;clear hW hq hlt;go_enter Tryz.func111,Tryz.ntmps111;go_upto_region 1 with(fail)
 rw[show w.alloc (.cells #[iv fn,iv fx] FT)=W from HW.o]
 try rw[hcb]
 obtain⟨c0,c1⟩:=Qq HCB.o;go_wp2;go_ret;exact⟨rfl,B1.o⟩
theorem QTr (l:List Qra)(v:Value)(q:Nat)(i:Nat)(w:World)(h:Qqd w v l)(hq:w.cell? ⟨q,0,none⟩=some (iv i))(hlt:q<w.heap.size):
  Calls Tryz.prog 110 #[v,.func (.func 111) #[] #[.pointer (some ⟨q,0,none⟩)]] w (IntQ (ownF l i) w):=by
 obtain⟨a,c,rfl,hn,-,-,hc⟩:=h.cell;have HC:=Zh hc;obtain⟨n,hl⟩:=Ze l.length;rw[hl] at hn ⊢;have HL:=Zh hl;have HQ:=Zh (And.intro hq hlt);clear hc h hl hq hlt;unfold maxLen at hn;go_enter Tryz.func110,Tryz.ntmps110;go_wp2;go_loopw [8] (fun y wr=>∃k:Nat,k≤n∧y=.int .i64 k∧Hid (Below w.heap.size w wr)∧Hid (∀j,j<k→Qxc l j≠(i:Int))) (fun y _=>n-(intOf y).toNat)
 case atStart=>exact⟨0,Nat.zero_le _,rfl,Below.refl _ _,fun j hj=>by omega⟩
 case round=>
  obtain⟨k,hk,rfl,HB,HA⟩:=hrel;by_cases hlt:k<n
  ·obtain⟨f,hf⟩:∃f,l[k]? = some f:=⟨_,List.getElem?_eq_getElem (by rw[HL.o];exact hlt)⟩;obtain⟨fb,fo,rfl,hfb,g0,g1⟩:=HC.o k f hf;have g0:=(HB.o.cell (p:=⟨fb,fo+k*2,none⟩) hfb).trans g0;have g1:=(HB.o.cell (p:=⟨fb,fo+k*2+1,none⟩) hfb).trans g1;obtain⟨fn,hfn⟩:=Ze f.node;have HNF:=Zh ((Qho hf).trans hfn);rw[hfn] at g0;have K:=Zh (Qpo fn f.var q i wr ((HB.o.cell (p:=⟨q,0,none⟩) HQ.o.2).trans HQ.o.1) (by have:=HB.o.size;have:=HQ.o.2;omega));clear hf hfn;by_cases e:fn=(i:Int)
   ·have t1:(fn==(i:Int))=true:=by simpa using e
    have HE:=Zh (show ownF l i=(k:Int) from QGq (by rw[HL.o];exact hlt) (HNF.o.trans e) HA.o);rw[t1] at K;clear e t1;go_wp2_with fail;refine K.o.mono ?_;rintro e w' ⟨rfl,b⟩;have HB2:=Zh (HB.o.trans (b.mono HB.o.size));clear b g0 g1;go_wp2;go_ret;exact⟨Qob HE.o.symm,HB2.o⟩
   ·have t1:(fn==(i:Int))=false:=by simpa using e
    have HA2:=Zh (show ∀j,j<k+1→Qxc l j≠(i:Int) from fun j hj=>by
     rcases Nat.lt_or_eq_of_le (Nat.le_of_lt_succ hj) with h|h
     ·exact HA.o j h
     ·subst h;rw[HNF.o];exact e)
    rw[t1] at K;clear e t1;go_wp2_with fail;refine K.o.mono ?_;rintro e w' ⟨rfl,b⟩;have HB2:=Zh (HB.o.trans (b.mono HB.o.size));clear b g0 g1;go_wp2;go_roundw
    case rel=>exact⟨k+1,by omega,by go_num,HB2,HA2⟩
    case measure=>simp[intOf];omega
  ·have HE:=Zh (show ownF l i = -1 from QHq fun j hj=>HA.o j (by rw[HL.o] at hj;omega));go_wp2;go_ret;exact⟨Qob HE.o.symm,HB.o⟩
end
end Go.Proofs.YtijekimobahgpaaGreatDoor
