/- A part of the proof. -/
import Derived.Test.YtijekimobahgpaaGreatDoorVa21
set_option linter.unusedVariables false
set_option linter.unusedSimpArgs false
set_option linter.unusedSectionVars false
set_option maxRecDepth 100000
set_option maxHeartbeats 16000000
namespace Go.Proofs.YtijekimobahgpaaGreatDoor
section
open Go.RowKit
variable [Base]
def BldE (z bt sb pb mb:Nat)(nv:Value)(N:List Qx)(E:List (Nat×Nat))(w:World):Prop:=∃S P,Bld z bt sb pb mb nv N S P w∧GrE N.length E S P
theorem BldE.below {z bt sb pb mb:Nat}{nv:Value}{N:List Qx}{E:List (Nat×Nat)}{w w':World}(h:BldE z bt sb pb mb nv N E w)(b:Below w.heap.size w w'):BldE z bt sb pb mb nv N E w':=by
 obtain⟨S,P,h1,h2⟩:=h;exact⟨S,P,h1.below b,h2⟩
def EdgeQ (z bt sb pb mb:Nat)(nv:Value)(N:List Qx)(E:List (Nat×Nat))(w:World)(e:Ending)(w':World):Prop:=e=.returned (.tuple #[])∧BldE z bt sb pb mb nv N E w'∧Qbb z w w'
theorem QWm {z bt sb pb mb:Nat}{nv:Value}{N:List Qx}{E:List (Nat×Nat)}{w:World}(hbs:Base.b≤z)(hN:N.length≤256)(h:BldE z bt sb pb mb nv N E w)(a b:Nat)(ha:a<N.length)(hb:b<N.length):
  Calls Tryz.prog 99 #[.pointer (some ⟨bt,0,none⟩),iv a,iv b] w (EdgeQ z bt sb pb mb nv N (E++[(a,b)]) w):=by
 obtain⟨S,P,hB,hE⟩:=h;have hz:z≤w.heap.size:=by have:=Qb hB.bl;have:=hB.zs;omega
 obtain⟨v,r,hr,c1,own,grow⟩:=hB.rowS hbs hz ha;have hrl:=hE.slen hr;have hlt:bt<w.heap.size:=Qb hB.bl;have hls:sb<w.heap.size:=by obtain⟨vs,us,h1,_⟩:=hB.rows;exact Qb h1
 have hlp:pb<w.heap.size:=by obtain⟨vs,us,_,h1,_⟩:=hB.rows;exact Qb h1
 obtain⟨SC,hSC⟩:∃c,w.heap[sb]? = some (.cells c IT (0,0)):=by obtain⟨vs,us,h1,_⟩:=hB.rows;exact⟨_,h1⟩
 have HF1:=Zh hSC;have KC:=Zh (Qdk r v b w (show QJa w v r from Qg.of_owns own));have OWN:=Zh own;have GROW:=Zh grow;have HB:=Zh hB;have HE:=Zh hE;have HR:=Zh hr;have KZ:=Zh (Qbb.refl z w hz);obtain⟨x0,x1,x2,x3⟩:=Qt hB.bl;obtain⟨n,hn⟩:=Ze N.length;obtain⟨rl,hrl2⟩:=Ze r.length;rw[hn] at x1 x2 ha hb hN hrl;rw[hrl2] at hrl OWN GROW;have HN:=Zh hn;have hia:(a:Int)<(n:Int):=by omega
 have hib:(b:Int)<(n:Int):=by omega
 clear hB hE hr own grow hn hSC hrl2;go_enter Tryz.func99,Tryz.ntmps99;go_wp2_with fail;refine KC.o.mono ?_;rintro e w' ⟨rfl,rfl⟩;by_cases hm:(b:Int)∈r
 ·have hd:decide ((b:Int)∈r)=true:=by simpa using hm
  have HQ:=Zh (show BldE z bt sb pb mb nv N (E++[(a,b)]) w' from⟨S,P,HB.o,HE.o.same HR.o hm⟩);clear hm;rw[hd];go_wp2;exact bodyPost_ret (v:=.tuple #[]) (by simp[results,Tryz.results99,go_sem]) rfl ⟨rfl,HQ.o,KZ.o⟩
 ·have hd:decide ((b:Int)∈r)=false:=by simpa using hm
  have HM:=Zh hm;rw[hd];clear hm hd KC;go_upto_region 1 with(fail)
  refine Zr (fun w'=>w'.cell? ⟨bt,1,none⟩=some (.slice (some ⟨sb,0,none⟩) n n)∧w'.cell? ⟨sb,a,none⟩=some v) 18 (⟨x1,c1⟩) fun hS0=>?_
  refine Yd 0 16 ?_;refine Yd 1 17 ?_;refine Yd 2 18 ?_;refine Yd 3 19 ?_;refine Yd 4 20 ?_;refine Yd 5 21 ?_;refine Yd 6 22 ?_;refine Yd 7 23 ?_;refine Yd 8 24 ?_;refine Yd 9 25 ?_;refine Yd 10 26 ?_;refine Yd 11 27 ?_;refine Yd 12 28 ?_;refine Yd 13 29 ?_;refine Yd 14 30 ?_;refine QW 15 (some 31) (.slice (some ⟨w'.heap.size,0,none⟩) 1 1) ((w'.drewN 1).alloc (.cells #[iv (b:Int)] IN)) rfl ZK ZK ?rva1 rfl (fun _=>?sa1) ?_
  case rva1=>go_simp
  case sa1=>exact⟨(World.cell?_of_block (Below.heap_alloc _ _ _ (by show bt<w'.heap.size;omega))).trans hS0.1,(World.cell?_of_block (Below.heap_alloc _ _ _ (by show sb<w'.heap.size;omega))).trans hS0.2⟩
  clear hS0;refine Qgi 16 (some 32) (w:=w'.drewN 1) [iv (b:Int)] IN rfl rfl ZK ZK rfl _ _ IT rfl z _ 1 8 Tryz.underlying22 QRa rfl ZD v _ _ OWN.o ZK ZK rfl rfl (by unfold maxLen;omega) ZO hz ?_;intro g cap v5 ho hg hn;have G1:=Zh (GROW.o g cap v5 (b:Int) ho ⟨hg.os,hg.tape,hg.output,hg.size,hg.block⟩ hn);clear ho hg hn;have y1:=(World.cell?_of_block (a:=⟨bt,1,none⟩) G1.o.1.1).trans x1;have z1:=(World.cell?_of_block (a:=⟨sb,a,none⟩) G1.o.1.2).trans c1;have f1:=G1.o.1.2.trans HF1.o;refine Zi ⟨y1,z1⟩ fun hS0=>?_
  refine Yd 17 33 ?_;have fz:=(Qa f1).2 a;refine Qeb 18 none (v5.setCell ⟨sb,a,none⟩ (.slice (some ⟨g,0,none⟩) (rl+1) cap)) rfl ZK ZK ?rs1 rfl (fun h=>absurd rfl h) ?_
  case rs1=>go_simp
  refine Qu ZK ?_ _;generalize hA:Act.put _ _ _=A0;simp only[Qba,Qaa,Zu,Zv,Zw] at hA;subst hA;have HB2:=Zh G1.o.2.1;have KE2:=Zh G1.o.2.2;obtain⟨w2,hw2⟩:=Ze (v5.setCell ⟨sb,a,none⟩ (.slice (some ⟨g,0,none⟩) (rl+1) cap));rw[hw2] at HB2 KE2 ⊢;clear hw2 G1 y1 z1 f1 fz hS0 x0 x1 x2 x3 c1 HF1;have hz2:z≤w2.heap.size:=by have:=KE2.o.below.size;omega
  obtain⟨u,q,hq,c2,own2,grow2⟩:=HB2.o.rowP hbs hz2 (a:=b) (by have:=HN.o;omega);have hql:=HE.o.plen hq;obtain⟨ql,hql2⟩:=Ze q.length;have hlt2:bt<w2.heap.size:=Qb HB2.o.bl;have hlp2:pb<w2.heap.size:=by obtain⟨vs,us,_,h1,_⟩:=HB2.o.rows;exact Qb h1
  obtain⟨PC,hPC⟩:∃c,w2.heap[pb]? = some (.cells c IT (0,0)):=by obtain⟨vs,us,_,h1,_⟩:=HB2.o.rows;exact⟨_,h1⟩
  have HF2:=Zh hPC;have HQ2:=Zh hq;have OWN2:=Zh own2;have GROW2:=Zh grow2;obtain⟨x0,x1,x2,x3⟩:=Qt HB2.o.bl;rw[HN.o] at x1 x2 hql;rw[hql2] at hql OWN2 GROW2;clear hq own2 grow2 hPC hql2;obtain⟨g1,hg1⟩:∃g1:Nat,g=g1:=⟨_,rfl⟩;obtain⟨cap1,hc1⟩:∃c1:Nat,cap=c1:=⟨_,rfl⟩;subst hg1 hc1;clear OWN GROW;go_upto_region 2 with(fail)
  refine Zr (fun w'=>w'.cell? ⟨bt,2,none⟩=some (.slice (some ⟨pb,0,none⟩) n n)∧w'.cell? ⟨pb,b,none⟩=some u) 18 (⟨x2,c2⟩) fun hS0=>?_
  refine Yd 0 34 ?_;refine Yd 1 35 ?_;refine Yd 2 36 ?_;refine Yd 3 37 ?_;refine Yd 4 38 ?_;refine Yd 5 39 ?_;refine Yd 6 40 ?_;refine Yd 7 41 ?_;refine Yd 8 42 ?_;refine Yd 9 43 ?_;refine Yd 10 44 ?_;refine Yd 11 45 ?_;refine Yd 12 46 ?_;refine Yd 13 47 ?_;refine Yd 14 48 ?_;refine QW 15 (some 49) (.slice (some ⟨w2.heap.size,0,none⟩) 1 1) ((w2.drewN 1).alloc (.cells #[iv (a:Int)] IN)) rfl ZK ZK ?rva2 rfl (fun _=>?sa2) ?_
  case rva2=>go_simp
  case sa2=>exact⟨(World.cell?_of_block (Below.heap_alloc _ _ _ (by show bt<w2.heap.size;omega))).trans hS0.1,(World.cell?_of_block (Below.heap_alloc _ _ _ (by show pb<w2.heap.size;omega))).trans hS0.2⟩
  clear hS0;refine Qgi 16 (some 50) (w:=w2.drewN 1) [iv (a:Int)] IN rfl rfl ZK ZK rfl _ _ IT rfl z _ 1 8 Tryz.underlying22 QRa rfl ZD u _ _ OWN2.o ZK ZK rfl rfl (by unfold maxLen;omega) ZO hz2 ?_;intro g cap v5 ho hg hn;have G2:=Zh (GROW2.o g cap v5 (a:Int) ho ⟨hg.os,hg.tape,hg.output,hg.size,hg.block⟩ hn);clear ho hg hn;have y2:=(World.cell?_of_block (a:=⟨bt,2,none⟩) G2.o.1.1).trans x2;have z2:=(World.cell?_of_block (a:=⟨pb,b,none⟩) G2.o.1.2).trans c2;have f2:=G2.o.1.2.trans HF2.o;refine Zi ⟨y2,z2⟩ fun hS0=>?_
  refine Yd 17 51 ?_;have fz:=(Qa f2).2 b;refine Qeb 18 none (v5.setCell ⟨pb,b,none⟩ (.slice (some ⟨g,0,none⟩) (ql+1) cap)) rfl ZK ZK ?rs2 rfl (fun h=>absurd rfl h) ?_
  case rs2=>go_simp
  refine Qu ZK ?_ _;generalize hA:Act.put _ _ _=A0;simp only[Qba,Qaa,Zu,Zv,Zw] at hA;subst hA;have HFIN:=Zh (show BldE z bt sb pb mb nv N (E++[(a,b)]) (v5.setCell ⟨pb,b,none⟩ (.slice (some ⟨g,0,none⟩) (ql+1) cap)) from⟨_,_,G2.o.2.1,HE.o.add (by have:=HN.o;omega) (by have:=HN.o;omega) HR.o HQ2.o HM.o⟩);have KFIN:=Zh (KE2.o.trans G2.o.2.2);clear y2 z2 f2 fz hS0 x0 x1 x2 x3 c2;go_wp2;exact bodyPost_end (v:=.tuple #[]) (by simp[results,Tryz.results99,go_sem]) rfl ⟨rfl,HFIN.o,KFIN.o⟩
end
section
open Go.RowKit
variable [Base]
theorem QOo (y x:Str)(v:Value)(nb:Nat)(w:World)(hx:w.heap[nb]? = some (.cells #[sv x] TS (0,0))):
  Calls Tryz.prog 196 #[.agg #[sv y,v],.pointer (some ⟨nb,0,none⟩)] w (Qia (decide (y=x)) w):=by
 have hlt:=Qb hx;have c0:=((Below.refl w.heap.size w).alloc (Nat.le_refl _) (.cells #[sv y,v] 92)).cell (p:=⟨nb,0,none⟩) hlt;have x0:=(Qd hx).1 0;simp at x0;rw[x0] at c0;by_cases hyx:y=x
 ·subst hyx;have hd:decide (y=y)=true:=by simp
  rw[hd];clear hd;go_enter Tryz.func196,Tryz.ntmps196;go_wp2;go_ret;exact⟨by simp,Zb⟩
 ·have hd:decide (y=x)=false:=by simpa using hyx
  have he:(y==x)=false:=by simpa using hyx
  have HNE:=Zh hyx;rw[hd];clear hd hyx;go_enter Tryz.func196,Tryz.ntmps196;go_wp2;go_ret;exact⟨by(first|(simp[he];done)|(simp;exact HNE.o)),Zb⟩
theorem Qpl (l:List QI)(v:Value)(x:Str)(nb:Nat)(w:World)(h:QOc w v l)(hx:w.heap[nb]? = some (.cells #[sv x] TS (0,0))):
  Calls Tryz.prog 195 #[v,.func (.func 196) #[] #[.pointer (some ⟨nb,0,none⟩)]] w (IntQ (idxI (l.map QI.name) x) w):=by
 obtain⟨a,c,rfl,hn,hc⟩:=h.cell;have HC:=Zh hc;obtain⟨n,hl⟩:=Ze l.length;rw[hl] at hn ⊢;have HL:=Zh hl;obtain⟨L,hL⟩:=Ze (l.map QI.name);rw[hL];have HLL:=Zh hL;have HLN:=Zh (show L.length=n by rw[←hL,List.length_map,hl]);have HX:=Zh hx;clear hc h hl hL hx;unfold maxLen at hn;go_enter Tryz.func195,Tryz.ntmps195;go_wp2;go_loopw [8] (fun y wr=>∃k:Nat,k≤n∧y=.int .i64 k∧Hid (Below w.heap.size w wr)∧Hid (x∉L.take k)) (fun y _=>n-(intOf y).toNat)
 case atStart=>exact⟨0,Nat.zero_le _,rfl,Below.refl _ _,by unfold Hid;simp⟩
 case round=>
  obtain⟨k,hk,rfl,HB,HNI⟩:=hrel;by_cases hlt:k<n
  ·obtain⟨f,hf⟩:∃f,l[k]? = some f:=⟨_,List.getElem?_eq_getElem (by rw[HL.o];exact hlt)⟩;obtain⟨fb,off,bv,rfl,hfb,g0,g1,hbl⟩:=HC.o k f hf;have g0:=(HB.o.cell (p:=⟨fb,off+k*2,none⟩) hfb).trans g0;have g1:=(HB.o.cell (p:=⟨fb,off+k*2+1,none⟩) hfb).trans g1;obtain⟨ba,bc,rfl,-,-⟩:=hbl.cell;obtain⟨bn,hbn⟩:=Ze (List.length f.stmts);rw[hbn] at g1;have HY:=Zh (show L[k]? = some f.name by rw[←HLL.o,List.getElem?_map,hf];rfl);obtain⟨y,hy⟩:=Ze f.name;rw[hy] at g0 HY;have K:=Zh (QOo y x (.slice ba bn bc) nb wr ((HB.o.block nb (Qb HX.o)).trans HX.o));clear hf hbl hbn hy;go_wp2_with fail;refine K.o.mono ?_;rintro e w2 ⟨rfl,b2⟩;have HB2:=Zh (HB.o.trans (b2.mono HB.o.size));clear b2 g0 g1 K HB;by_cases hxy:y=x
   ·subst hxy;have HK:=Zh (show idxI L y=(k:Int) from Qse HY.o HNI.o);have hd:decide (y=y)=true:=by simp
    rw[hd];clear hd;go_wp2;go_ret;exact⟨Qob HK.o.symm,HB2.o⟩
   ·have HN1:=Zh (show x∉L.take (k+1) by
     rw[List.take_add_one,HY.o];intro h;rcases List.mem_append.1 h with h|h
     ·exact HNI.o h
     ·simp at h;exact hxy h.symm)
    have hd:decide (y=x)=false:=by simpa using hxy
    rw[hd];clear hd hxy;go_wp2;go_roundw
    case rel=>exact⟨k+1,by omega,by go_num,HB2,HN1⟩
    case measure=>simp[intOf];omega
  ·have HK:=Zh (show idxI L x = -1 by
    unfold idxI;rw[if_neg (fun h=>HNI.o (by rwa [List.take_of_length_le (by rw[HLN.o];omega)]))])
   go_wp2;go_ret;exact⟨Qob HK.o.symm,HB.o⟩
theorem Qkq (y x:Str)(v:Value)(nb:Nat)(w:World)(op:Int)(dn:Str)(u t:Value)(hx:w.heap[nb]? = some (.cells #[iv op,sv dn,u,t] 94 (0,0)))(tl:List Str)(ht:Qea w t (x::tl)):
  Calls Tryz.prog 164 #[.agg #[sv y,v],.pointer (some ⟨nb,0,none⟩)] w (Qia (decide (y=x)) w):=by
 have hlt:=Qb hx;obtain⟨ta,tc,rfl,-,htc⟩:=ht.cell;obtain⟨tb,toff,rfl,htb,g1⟩:=htc 0 x rfl;obtain⟨tn,htn⟩:∃n,(x::tl).length=n+1:=⟨tl.length,rfl⟩;rw[htn] at hx;have AL:=(Below.refl w.heap.size w).alloc (Nat.le_refl _) (.cells #[sv y,v] 89);have hx2:=(AL.block nb hlt).trans hx;have c0:=(AL.cell (p:=⟨tb,toff,none⟩) htb).trans (by simpa using g1);have n0:=heap_alloc_new w (.cells #[sv y,v] 89);obtain⟨W,hW⟩:=Ze (w.alloc (.cells #[sv y,v] 89));have HW:=Zh hW;rw[hW] at hx2 c0 n0;have BW:=Zh (hW▸AL);obtain⟨s0,s1,s2,s3⟩:=Qt hx2;obtain⟨m0,m1⟩:=Qq n0;obtain⟨q,hq⟩:=Ze w.heap.size;have HQ:=Zh hq;rw[hq] at m0 m1;clear hW AL hx hx2 n0 htn g1 htc ht htb;go_enter Tryz.func164,Tryz.ntmps164;go_upto_region 1 with(fail)
 rw[show w.alloc (.cells #[sv y,v] 89)=W from HW.o]
 try rw[hq]
 clear hq;by_cases hyx:y=x
 ·subst hyx;have hd:decide (y=y)=true:=by simp
  rw[hd];clear hd;go_region;go_wp2;go_ret;exact⟨by simp,Qp BW.o 1⟩
 ·have hd:decide (y=x)=false:=by simpa using hyx
  have he:(y==x)=false:=by simpa using hyx
  have HNE:=Zh hyx;rw[hd];clear hd hyx;go_region;go_wp2;go_ret;exact⟨by(first|(simp[he];done)|(simp;exact HNE.o)),Qp BW.o 1⟩
theorem QHm (l:List Qo)(v:Value)(x:Str)(nb:Nat)(w:World)(h:QAa w v l)(op:Int)(dn:Str)(u t:Value)(hx:w.heap[nb]? = some (.cells #[iv op,sv dn,u,t] 94 (0,0)))(tl:List Str)(ht:Qea w t (x::tl)):
  Calls Tryz.prog 163 #[v,.func (.func 164) #[] #[.pointer (some ⟨nb,0,none⟩)]] w (IntQ (idxI (l.map Qo.name) x) w):=by
 obtain⟨a,c,rfl,hn,hc⟩:=h.cell;have HC:=Zh hc;obtain⟨n,hl⟩:=Ze l.length;rw[hl] at hn ⊢;have HL:=Zh hl;obtain⟨L,hL⟩:=Ze (l.map Qo.name);rw[hL];have HLL:=Zh hL;have HLN:=Zh (show L.length=n by rw[←hL,List.length_map,hl]);have HX:=Zh hx;have HT:=Zh ht;clear hc h hl hL hx ht;unfold maxLen at hn;go_enter Tryz.func163,Tryz.ntmps163;go_wp2;go_loopw [8] (fun y wr=>∃k:Nat,k≤n∧y=.int .i64 k∧Hid (Below w.heap.size w wr)∧Hid (x∉L.take k)) (fun y _=>n-(intOf y).toNat)
 case atStart=>exact⟨0,Nat.zero_le _,rfl,Below.refl _ _,by unfold Hid;simp⟩
 case round=>
  obtain⟨k,hk,rfl,HB,HNI⟩:=hrel;by_cases hlt:k<n
  ·obtain⟨f,hf⟩:∃f,l[k]? = some f:=⟨_,List.getElem?_eq_getElem (by rw[HL.o];exact hlt)⟩;obtain⟨fb,off,bv,rfl,hfb,g0,g1,hbl⟩:=HC.o k f hf;have g0:=(HB.o.cell (p:=⟨fb,off+k*2,none⟩) hfb).trans g0;have g1:=(HB.o.cell (p:=⟨fb,off+k*2+1,none⟩) hfb).trans g1;obtain⟨ba,bc,rfl,-,-⟩:=hbl.cell;obtain⟨bn,hbn⟩:=Ze (List.length f.blocks);rw[hbn] at g1;have HY:=Zh (show L[k]? = some f.name by rw[←HLL.o,List.getElem?_map,hf];rfl);obtain⟨y,hy⟩:=Ze f.name;rw[hy] at g0 HY;have K:=Zh (Qkq y x (.slice ba bn bc) nb wr op dn u t ((HB.o.block nb (Qb HX.o)).trans HX.o) tl (HT.o.same (Qf.below HB.o)));clear hf hbl hbn hy;go_wp2_with fail;refine K.o.mono ?_;rintro e w2 ⟨rfl,b2⟩;have HB2:=Zh (HB.o.trans (b2.mono HB.o.size));clear b2 g0 g1 K HB;by_cases hxy:y=x
   ·subst hxy;have HK:=Zh (show idxI L y=(k:Int) from Qse HY.o HNI.o);have hd:decide (y=y)=true:=by simp
    rw[hd];clear hd;go_wp2;go_ret;exact⟨Qob HK.o.symm,HB2.o⟩
   ·have HN1:=Zh (show x∉L.take (k+1) by
     rw[List.take_add_one,HY.o];intro h;rcases List.mem_append.1 h with h|h
     ·exact HNI.o h
     ·simp at h;exact hxy h.symm)
    have hd:decide (y=x)=false:=by simpa using hxy
    rw[hd];clear hd hxy;go_wp2;go_roundw
    case rel=>exact⟨k+1,by omega,by go_num,HB2,HN1⟩
    case measure=>simp[intOf];omega
  ·have HK:=Zh (show idxI L x = -1 by
    unfold idxI;rw[if_neg (fun h=>HNI.o (by rwa [List.take_of_length_le (by rw[HLN.o];omega)]))])
   go_wp2;go_ret;exact⟨Qob HK.o.symm,HB.o⟩
theorem Qfp {z bt sb pb mb:Nat}{nv:Value}{N:List Qx}{E:List (Nat×Nat)}{w:World}(h:BldE z bt sb pb mb nv N E w)(a b c d:Int)(hf:fitN ⟨a,b,c,d⟩):
  Calls Tryz.prog 100 #[.pointer (some ⟨bt,0,none⟩),iv a,iv b,iv c,iv d] w (fun e w'=>e=.returned (iv (numN N ⟨a,b,c,d⟩))∧w'=w):=by
 obtain⟨S,P,hB,-⟩:=h;obtain⟨x0,x1,x2,x3⟩:=Qt hB.bl;have hlk:=hB.mp.look hf;simp only at hlk;obtain⟨r,hr⟩:=Ze (numN N ⟨a,b,c,d⟩);rw[hr] at hlk ⊢;obtain⟨n,hn⟩:=Ze N.length;rw[hn] at x1 x2;clear hB hf hr hn;go_enter Tryz.func100,Tryz.ntmps100;go_wp2;go_ret;exact⟨rfl,rfl⟩
end
section
open Go.RowKit
variable [Base]
def numT (N:List Qx)(n:Qx):Nat:=(numN N n).toNat
theorem QLc (N:List Qx)(n:Qx):numN N n=((numT N n:Nat):Int):=by
 unfold numT numN
 split
 ·rename_i h;obtain⟨k,hk,-⟩:=Qgc h;rw[hk];simp
 ·rfl
theorem QEc {N:List Qx}{n:Qx}(h:n∈N):numT N n<N.length∧N[numT N n]? = some n:=by
 obtain⟨k,hk,hn⟩:=Qgc h;have e:numT N n=k:=by unfold numT numN;rw[if_pos h,hk];simp
 rw[e];exact⟨(List.getElem?_eq_some_iff.1 hn).1,hn⟩
theorem QIj {p:List Qo}(hc:Ckd p){n x y:Qx}(hn:n∈QB p 0)(h:(x,y)∈QU p n):x∈QB p 0∧y∈QB p 0:=by
 have h1:(x,y)∈Qva p (QB p 0):=List.mem_flatten.2 ⟨_,List.mem_map.2 ⟨n,hn,rfl⟩,h⟩;obtain⟨h2,h3⟩:=(Qsh hc x y).1 h1;exact⟨h2,Qum hc h2 h3⟩
theorem Qir {z bt sb pb mb:Nat}{nv:Value}{N:List Qx}{E:List (Nat×Nat)}{w0 w:World}(hz:w0.heap.size=z)(b0:Below z w0 w)(h:BldE z bt sb pb mb nv N E w)(p:List Qo)(v:Value)(hp:QAa w0 v p)(i:Nat)(f:Qo)(hf:p[i]? = some f)(hbl:f.blocks.length≤1000)(hpl:p.length≤1000)(x:Str):
  Calls Tryz.prog 162 #[.pointer (some ⟨bt,0,none⟩),.agg #[v],iv i,sv x] w (IntQ (numN N ⟨3,i,idxI (QPb f) x,0⟩) w):=by
 obtain⟨a,c,rfl,hn,hc⟩:=hp.cell;obtain⟨fb,off,bv,rfl,hfb,-,g1,hb⟩:=hc i f hf;obtain⟨n,hl⟩:=Ze p.length;have hin:(i:Int)<(n:Int):=by have:=(List.getElem?_eq_some_iff.1 hf).1;omega
 rw[hl] at hn hpl ⊢;obtain⟨q,hq⟩:=Ze w.heap.size;have zq:z≤q:=by have:=b0.size;omega
 obtain⟨W,hW⟩:=Ze ((w.alloc (.cells #[.slice (some ⟨fb,off,none⟩) n c] 25)).alloc (.cells #[sv x] TS));have BW:=Zh (show Below q w W by rw[←hW,←hq];exact(Zb).alloc ZS _);have HP:=show W.heap[q]? = some (.cells #[.slice (some ⟨fb,off,none⟩) n c] 25 (0,0)) by rw[←hW,←hq];exact Qfa _ (heap_alloc_new _ _)
 have HX:=Zh (show W.heap[q+1]? = some (.cells #[sv x] TS (0,0)) by rw[←hW,←hq];have:=heap_alloc_new (w.alloc (.cells #[.slice (some ⟨fb,off,none⟩) n c] 25)) (.cells #[sv x] TS);rwa [World.size_alloc] at this);have BZ:=Zh (b0.trans (BW.o.mono zq));have g1:=(BZ.o.cell (p:=⟨fb,off+i*2+1,none⟩) (by show fb<z;omega)).trans g1;have HBL:=Zh (hb.keep (Qf.below (hz▸BZ.o)) (Qf.below (hz▸BZ.o)) (Qf.below (hz▸BZ.o)));obtain⟨ba,bc,rfl,-,-⟩:=hb.cell;obtain⟨bn,hbn⟩:=Ze (List.length f.blocks);rw[hbn] at g1 HBL hbl;have K:=Zh (Qpl f.blocks (.slice ba bn bc) x (q+1) W HBL.o HX.o);have hidx:-1≤idxI (QPb f) x∧idxI (QPb f) x≤1000:=by
  by_cases hm:x∈QPb f
  ·obtain⟨k,hk,hkx⟩:=Qgc hm;have h1:=(List.getElem?_eq_some_iff.1 hkx).1;unfold QPb at h1;rw[List.length_map] at h1;omega
  ·rw[QLp hm];omega
 obtain⟨ix,hix⟩:=Ze (idxI (QPb f) x);rw[show idxI (f.blocks.map QI.name) x=ix from hix] at K;rw[hix] at hidx ⊢;have x0:=(Qd HP).1 0;simp at x0;have HWW:=Zh hW;have HQ:=Zh hq;have HH:=Zh (h.below (hq.symm▸BW.o));have hil:(i:Int)≤1000:=by omega
 clear h hp hc hf hb hW hbn hix HP hl;go_enter Tryz.func162,Tryz.ntmps162;go_upto_region 1 with(fail)
 rw[show(w.alloc (.cells #[.slice (some ⟨fb,off,none⟩) n c] 25)).alloc (.cells #[sv x] TS)=W from HWW.o]
 try rw[hq]
 clear hq;go_wp2_with fail;refine K.o.mono ?_;rintro e w2 ⟨rfl,b2⟩;have HH2:=Zh (HH.o.below b2);have B2:=Zh (BW.o.trans (b2.mono (by have:=BW.o.size;have:=HQ.o;omega)));have KA:=Zh (Qfp HH2.o 3 i ix 0 ⟨by unfold fitI;dsimp only;omega,by unfold fitI;dsimp only;omega,by unfold fitI;dsimp only;omega,by unfold fitI;dsimp only;omega⟩);clear b2 x0 g1 K;go_wp2_with fail;refine KA.o.mono ?_;rintro e w3 ⟨rfl,rfl⟩;go_wp2;go_ret;exact⟨rfl,by rw[HQ.o];exact B2.o⟩
end
section
open Go.RowKit
variable [Base]
def numE (N:List Qx)(e:Qx×Qx):Nat×Nat:=(numT N e.1,numT N e.2)
def StmtG (z bt sb pb mb:Nat)(nv:Value)(N:List Qx)(E:List (Nat×Nat))(w:World)(e:Ending)(w':World):Prop:=e=.returned (.tuple #[])∧BldE z bt sb pb mb nv N E w'∧Qbb z w w'
theorem Qbr {z bt sb pb mb:Nat}{nv:Value}{E:List (Nat×Nat)}{w0 w:World}(hbs:Base.b≤z)(hz:w0.heap.size=z)(b0:Below z w0 w)(p:List Qo)(v:Value)(hp:QAa w0 v p)(hck:QFa p=0)(h:BldE z bt sb pb mb nv (QB p 0) E w){i k j:Nat}{f:Qo}{b:QI}{s:QD}(hat:At p i k j f b s)(u t:Value)(hu:∃a n c,u=.slice a n c)(ht:Qea w0 t s.targets):
  Calls Tryz.prog 101 #[.pointer (some ⟨bt,0,none⟩),.agg #[v],.agg #[iv 3,iv i,iv k,iv j],.agg #[iv s.op,sv s.dfn,u,t]] w
   (StmtG z bt sb pb mb nv (QB p 0) (E++(QU p ⟨3,i,k,j⟩).map (numE (QB p 0))) w):=by
 have hc:=Qzb hck;have hN256:(QB p 0).length≤256:=by rw[←Qne hck];exact Qme
 have hfew:=QUc hc.valid;have hi8:i<p.length:=(List.getElem?_eq_some_iff.1 hat.hf).1;have hk16:k<f.blocks.length:=(List.getElem?_eq_some_iff.1 hat.hb).1;have hj32:j<b.stmts.length:=(List.getElem?_eq_some_iff.1 hat.hs).1;have hf16:=hfew.2 f hat.fm;have hb32:=hf16.2 b hat.bm;have n3:=hat.node3;obtain⟨N,hN⟩:=Ze (QB p 0);have HNN:=Zh hN;have HED:=Zh (fun (x y:Qx) (he:(x,y)∈QU p ⟨3,i,k,j⟩)=>QIj hc n3 he);rw[hN] at h hN256 n3 HED ⊢;have HD:=Zh (hat.d 3);have HAT:=Zh hat;have HCK:=Zh hc;have hfi:∀x:Int,-1≤x→x≤1000→fitI x:=fun x h1 h2=>by unfold fitI;omega
 have HFIT:=Zh hfi;have KFI:=Zh (fun (x:World) (bx:Below z w0 x) (hB:BldE z bt sb pb mb nv N (E) x)=>True.intro);obtain⟨ua,un,uc,rfl⟩:=hu;obtain⟨ta,tc,rfl,h63,htc⟩:=ht.cell;obtain⟨tn,htn⟩:=Ze s.targets.length;have HTT:=Zh ht;rw[htn] at HTT h63 ⊢;unfold maxLen at h63;have HTC:=Zh htc;have HTN:=Zh htn;obtain⟨a,c,rfl,hn,-⟩:=hp.cell;obtain⟨n,hl⟩:=Ze p.length;have HPP:=Zh hp;have HFI:=Zh (fun (E':List (Nat×Nat)) (x:World) (bx:Below z w0 x) (hB:BldE z bt sb pb mb nv N E' x) (y:Str)=>Qir hz bx hB p _ hp i f hat.hf ZO ZO y);rw[hl] at HPP HFI hn hi8 hfew ⊢;obtain⟨q,hq⟩:=Ze w.heap.size;have zq:z≤q:=by have:=b0.size;omega
 obtain⟨op,hop⟩:=Ze s.op;obtain⟨dn,hdn⟩:=Ze s.dfn;rw[hop,hdn];have HOP:=Zh hop;obtain⟨W,hW⟩:=Ze (((w.alloc (.cells #[.slice a n c] 25)).alloc (.cells #[iv 3,iv i,iv k,iv j] NT)).alloc (.cells #[iv op,sv dn,.slice ua un uc,.slice ta tn tc] 94));have BW:=Zh (show Below q w W by rw[←hW,←hq];exact((Zb).alloc ZS _).alloc (by simp;omega) _);have HP:=Zh (show W.heap[q]? = some (.cells #[.slice a n c] 25 (0,0)) by rw[←hW,←hq];exact Qfa _ (Qfa _ (heap_alloc_new _ _)));have HNB:=Zh (show W.heap[q+1]? = some (.cells #[iv 3,iv i,iv k,iv j] NT (0,0)) by
  rw[←hW,←hq];have:=heap_alloc_new (w.alloc (.cells #[.slice a n c] 25)) (.cells #[iv 3,iv i,iv k,iv j] NT);rw[World.size_alloc] at this;exact Qfa _ this)
 have HSB:=Zh (show W.heap[q+1+1]? = some (.cells #[iv op,sv dn,.slice ua un uc,.slice ta tn tc] 94 (0,0)) by
  rw[←hW,←hq];have:=heap_alloc_new ((w.alloc (.cells #[.slice a n c] 25)).alloc (.cells #[iv 3,iv i,iv k,iv j] NT)) (.cells #[iv op,sv dn,.slice ua un uc,.slice ta tn tc] 94)
  rwa [World.size_alloc,World.size_alloc] at this)
 have HB:=Zh (h.below (hq.symm▸BW.o));have KE:=Zh (show Qbb z w W from Qbb.of (hq.symm▸BW.o) ZO);have BZ:=Zh b0;have HWW:=Zh hW;have HQ:=Zh hq;have hlk:=Zh (show ∀m,(Instr.lookup 156 (.map (some mb)) (.agg #[iv 3,iv i,iv k,iv j]) false).run Tryz.prog (W.drewN m)=.ok (.int .i64 (numN N ⟨3,i,k,j⟩)) (W.drewN m) from fun m=>by
  obtain⟨S,P,hB,-⟩:=HB.o;exact(hB.keep (w':=W.drewN m) fun _ _=>rfl).mp.look (x:=⟨3,i,k,j⟩) ⟨hfi 3 ZO ZO,hfi (i:Int) ZO ZO,hfi (k:Int) ZO ZO,hfi (j:Int) ZO ZO⟩)
 obtain⟨x3,hlt⟩:W.cell? ⟨bt,3,none⟩=some (.map (some mb))∧bt<W.heap.size:=by
  obtain⟨S,P,hB,-⟩:=HB.o;exact⟨(Qt hB.bl).2.2.2,Qb hB.bl⟩
 obtain⟨hh,hhh⟩:∃m:Nat,numT N ⟨3,i,k,j⟩=m:=⟨_,rfl⟩;have HH:=Zh hhh;have hhl:hh<N.length:=hhh▸(QEc n3).1;rw[show numN N ⟨3,i,k,j⟩=(hh:Int) by rw[QLc,hhh]] at hlk;have KAT:=Zh (fun (E':List (Nat×Nat)) (x:World) (hB:BldE z bt sb pb mb nv N E' x) a b c d hf=>Qfp hB a b c d hf);have KED:=Zh (fun (E':List (Nat×Nat)) (x:World) (hB:BldE z bt sb pb mb nv N E' x) a b ha hb=>QWm hbs hN256 hB a b ha hb);have HFW:=Zh hfew;have HF16:=Zh hf16;have HN3:=Zh n3;obtain⟨nx,hnx⟩:∃m:Nat,numT N ⟨3,i,k,j+1⟩=m:=⟨_,rfl⟩;have HNX:=Zh hnx;have hk17:k≤16:=by omega
 have hj33:j≤32:=by omega
 have hi9:i≤8:=by omega
 have HST:=Zh (hc.stmt hat.fm hat.bm);obtain⟨nd,hnd⟩:∃x:Qx,(⟨3,i,k,j⟩:Qx)=x:=⟨_,rfl⟩;have HE7:=Zh (show op=7∨op=8→QU p nd=s.targets.map fun t=>(nd,⟨3,i,blkI f t,0⟩) from fun h=>by
  have h7:(Qec p nd).op=7∨(Qec p nd).op=8:=by rw[←hnd,HD.o,hop];exact h
  unfold QU;rw[if_neg (by rw[←hnd];show ¬((3:Int)=1);omega),if_pos (by rw[←hnd]),if_pos h7,←hnd,HD.o];dsimp only;rw[hat.fn])
 have HE9:=Zh (show op=9→QU p nd=[(nd,⟨2,i,-1,-1⟩)] from fun h=>by
  unfold QU;rw[if_neg (by rw[←hnd];show ¬((3:Int)=1);omega),if_pos (by rw[←hnd]),if_neg (by rw[←hnd,HD.o,hop];omega),if_pos (by rw[←hnd,HD.o,hop];exact h),←hnd])
 have HE3:=Zh (show op=3→QU p nd=[(nd,⟨1,fnI p (tgt s),-1,-1⟩),(⟨2,fnI p (tgt s),-1,-1⟩,⟨4,i,k,j⟩),(⟨4,i,k,j⟩,⟨3,i,k,j+1⟩)] from fun h=>by
  unfold QU;rw[if_neg (by rw[←hnd];show ¬((3:Int)=1);omega),if_pos (by rw[←hnd]),if_neg (by rw[←hnd,HD.o,hop];omega),if_neg (by rw[←hnd,HD.o,hop];omega),if_pos (by rw[←hnd,HD.o,hop];exact h),←hnd,HD.o])
 have HE0:=Zh (show op≠7→op≠8→op≠9→op≠3→QU p nd=[(nd,⟨3,i,k,j+1⟩)] from fun h1 h2 h3 h4=>by
  unfold QU;rw[if_neg (by rw[←hnd];show ¬((3:Int)=1);omega),if_pos (by rw[←hnd]),if_neg (by rw[←hnd,HD.o,hop];omega),if_neg (by rw[←hnd,HD.o,hop];omega),if_neg (by rw[←hnd,HD.o,hop];omega),←hnd])
 have HCAL:=Zh (show op=3→∃g:Nat,fnI p (tgt s)=g∧g<n∧∃tl,s.targets=tgt s::tl from fun h=>by
  obtain⟨g,f',h1,h2,-⟩:=hc.callee hat (by rw[hop];exact h);obtain⟨t0,h3⟩:=QZi ((hc.stmt hat.fm hat.bm).2 s hat.sm) (by rw[hop];exact h);exact⟨g,h1,by have:=(List.getElem?_eq_some_iff.1 h2).1;omega,[],by unfold tgt;rw[h3];rfl⟩)
 rw[hnd] at HED HH HN3 ⊢;have HND:=Zh hnd;have HSB2:=Zh (HST.o.2 s hat.sm);clear b0 h hp ht htc htn hc hfew hW hhh hl hat hf16 hb32 n3 hfi hN hnx HST hop hdn hnd;obtain⟨d0,d1,d2,d3⟩:=Qt HNB.o;go_enter Tryz.func101,Tryz.ntmps101;go_upto_region 1 with(fail)
 rw[show((w.alloc (.cells #[.slice a n c] 25)).alloc (.cells #[iv 3,iv i,iv k,iv j] NT)).alloc (.cells #[iv op,sv dn,.slice ua un uc,.slice ta tn tc] 94)=W from HWW.o]
 try rw[hq]
 have hl1:(Instr.lookup 156 (.map (some mb)) (.agg #[iv 3,iv i,iv k,iv j]) false).run Tryz.prog W.drew=.ok (.int .i64 (hh:Int)) W.drew:=hlk.o 1;go_region;obtain⟨W1,hW1⟩:=Ze W.drew;have HB1:=Zh (show BldE z bt sb pb mb nv N E W1 by
  obtain⟨S,P,h1,h2⟩:=HB.o;exact⟨S,P,h1.keep fun k _=>by rw[←hW1];rfl,h2⟩)
 have HP1:=Zh (show W1.heap[q]? = some (.cells #[.slice a n c] 25 (0,0)) from hW1▸HP.o);have HNB1:=Zh (show W1.heap[q+1]? = some (.cells #[iv 3,iv i,iv k,iv j] NT (0,0)) from hW1▸HNB.o);have HSB1:=Zh (show W1.heap[q+1+1]? = some (.cells #[iv op,sv dn,.slice ua un uc,.slice ta tn tc] 94 (0,0)) from hW1▸HSB.o);have KE1:=Zh (show Qbb z w W1 by rw[←hW1];exact KE.o.trans ⟨Qp ((Below.refl _ _).mono (by have:=BW.o.size;have:=HQ.o;omega)) 1,fun _ _ _=>Qf.drewN⟩);rw[hW1];clear hW1 hl1 d0 d1 d2 d3 x3 hlt;obtain⟨d0,d1,d2,d3⟩:=Qt HNB1.o;have KA1:=Zh (KAT.o E W1 HB1.o 3 i k (j+1) ⟨HFIT.o 3 ZO ZO,HFIT.o (i:Int) ZO ZO,HFIT.o (k:Int) ZO ZO,HFIT.o ((j:Int)+1) ZO ZO⟩);rw[show numN N ⟨3,i,k,(j:Int)+1⟩=(nx:Int) by rw[QLc,←HNX.o]] at KA1;go_wp2_with fail;refine KA1.o.mono ?_;rintro e w2 ⟨rfl,rfl⟩;obtain⟨s0,s1,s2,s3⟩:=Qt HSB1.o;have x0:=(Qd HP1.o).1 0;simp at x0;clear KA1;have BZ1:=Zh (BZ.o.trans KE1.o.below);have BZ1zw:z≤w2.heap.size:=by have:=BZ1.o.size;omega
 by_cases h7:op=7
 ·have HEE:=Zh (HE7.o ZO);obtain⟨Ta,hTa⟩:=Ze s.targets;rw[hTa] at HEE HTC HTN;subst h7;clear hTa;go_wp2;clear s0 s1 s2 s3 d0 d1 d2 d3 x0;go_loopw [41] (fun y wr=>∃m:Nat,m≤tn∧y=.int .i64 m∧Hid (BldE z bt sb pb mb nv N (E++(Ta.take m).map (fun t=>numE N (nd,⟨3,i,blkI f t,0⟩))) wr)∧Hid (Qbb z w2 wr)) (fun y _=>tn-(intOf y).toNat)
  case atStart=>exact⟨0,Nat.zero_le _,rfl,by unfold Hid;simpa using HB1.o,Qbb.refl z w2 BZ1zw⟩
  case round=>
   obtain⟨m,hm,rfl,HBm,HKm⟩:=hrel;by_cases hlt:m<tn
   ·obtain⟨t,ht⟩:∃t,Ta[m]? = some t:=⟨_,List.getElem?_eq_getElem (by rw[HTN.o];exact hlt)⟩;obtain⟨b1,o1,rfl,hb1,g1⟩:=HTC.o m t ht;have BZm:=Zh (BZ1.o.trans HKm.o.below);have g1:=(BZm.o.cell (p:=⟨b1,o1+m,none⟩) (by show b1<z;omega)).trans g1;have HPm:=Zh ((HKm.o.same _ ZD ZD).own HP1.o);have HNm:=Zh ((HKm.o.same _ ZD ZD).own HNB1.o);obtain⟨d0,d1,d2,d3⟩:=Qt HNm.o;have x0:=(Qd HPm.o).1 0;simp at x0;have KF:=Zh (HFI.o _ wr BZm.o HBm.o t);obtain⟨x,hx⟩:∃m:Nat,numT N ⟨3,i,blkI f t,0⟩=m:=⟨_,rfl⟩;have hxl:x<N.length:=hx▸(QEc (HED.o nd ⟨3,i,blkI f t,0⟩ (by rw[HEE.o];exact List.mem_map.2 ⟨t,List.mem_of_getElem? ht,rfl⟩)).2).1;rw[show numN N ⟨3,i,idxI (QPb f) t,0⟩=(x:Int) by rw[QLc];show((numT N ⟨3,i,blkI f t,0⟩:Nat):Int)=_;rw[hx]] at KF;have HSN:=Zh (show(Ta.take (m+1)).map (fun t=>numE N (nd,⟨3,i,blkI f t,0⟩))=(Ta.take m).map (fun t=>numE N (nd,⟨3,i,blkI f t,0⟩))++[(hh,x)] by rw[List.take_add_one,ht,List.map_append];simp[numE,HH.o,hx]);have zm:z≤wr.heap.size:=by have:=BZm.o.size;omega
    clear ht hx;go_wp2_with fail;refine KF.o.mono ?_;rintro e w3 ⟨rfl,b3⟩;have KE:=Zh (KED.o _ w3 (HBm.o.below b3) hh x hhl hxl);have K3:=Zh (HKm.o.trans (Qbb.of b3 zm));clear b3 d0 d1 d2 d3 x0 g1 KF;go_wp2_with fail;refine KE.o.mono ?_;rintro e w4 ⟨rfl,hb4,k4⟩;have HB4:=Zh (show BldE z bt sb pb mb nv N (E++(Ta.take (m+1)).map (fun t=>numE N (nd,⟨3,i,blkI f t,0⟩))) w4 by rw[HSN.o,←List.append_assoc];exact hb4);have K4:=Zh (K3.o.trans k4);clear hb4 k4 KE;go_wp2;go_roundw
    case rel=>exact⟨m+1,by omega,by go_num,HB4,K4⟩
    case measure=>simp[intOf];omega
   ·have HFIN:=Zh (show BldE z bt sb pb mb nv N (E++(QU p nd).map (numE N)) wr by
     rw[HEE.o,List.map_map,←show Ta.take m=Ta from List.take_of_length_le (by rw[HTN.o];omega)];exact HBm.o)
    have KFIN:=Zh (KE1.o.trans HKm.o);go_wp2;exact bodyPost_end (v:=.tuple #[]) (by simp[results,Tryz.results101,go_sem]) rfl ⟨rfl,HFIN.o,KFIN.o⟩
 by_cases h8:op=8
 ·have HEE:=Zh (HE7.o ZO);obtain⟨Ta,hTa⟩:=Ze s.targets;rw[hTa] at HEE HTC HTN;subst h8;clear hTa;go_wp2;clear s0 s1 s2 s3 d0 d1 d2 d3 x0;go_loopw [41] (fun y wr=>∃m:Nat,m≤tn∧y=.int .i64 m∧Hid (BldE z bt sb pb mb nv N (E++(Ta.take m).map (fun t=>numE N (nd,⟨3,i,blkI f t,0⟩))) wr)∧Hid (Qbb z w2 wr)) (fun y _=>tn-(intOf y).toNat)
  case atStart=>exact⟨0,Nat.zero_le _,rfl,by unfold Hid;simpa using HB1.o,Qbb.refl z w2 BZ1zw⟩
  case round=>
   obtain⟨m,hm,rfl,HBm,HKm⟩:=hrel;by_cases hlt:m<tn
   ·obtain⟨t,ht⟩:∃t,Ta[m]? = some t:=⟨_,List.getElem?_eq_getElem (by rw[HTN.o];exact hlt)⟩;obtain⟨b1,o1,rfl,hb1,g1⟩:=HTC.o m t ht;have BZm:=Zh (BZ1.o.trans HKm.o.below);have g1:=(BZm.o.cell (p:=⟨b1,o1+m,none⟩) (by show b1<z;omega)).trans g1;have HPm:=Zh ((HKm.o.same _ ZD ZD).own HP1.o);have HNm:=Zh ((HKm.o.same _ ZD ZD).own HNB1.o);obtain⟨d0,d1,d2,d3⟩:=Qt HNm.o;have x0:=(Qd HPm.o).1 0;simp at x0;have KF:=Zh (HFI.o _ wr BZm.o HBm.o t);obtain⟨x,hx⟩:∃m:Nat,numT N ⟨3,i,blkI f t,0⟩=m:=⟨_,rfl⟩;have hxl:x<N.length:=hx▸(QEc (HED.o nd ⟨3,i,blkI f t,0⟩ (by rw[HEE.o];exact List.mem_map.2 ⟨t,List.mem_of_getElem? ht,rfl⟩)).2).1;rw[show numN N ⟨3,i,idxI (QPb f) t,0⟩=(x:Int) by rw[QLc];show((numT N ⟨3,i,blkI f t,0⟩:Nat):Int)=_;rw[hx]] at KF;have HSN:=Zh (show(Ta.take (m+1)).map (fun t=>numE N (nd,⟨3,i,blkI f t,0⟩))=(Ta.take m).map (fun t=>numE N (nd,⟨3,i,blkI f t,0⟩))++[(hh,x)] by rw[List.take_add_one,ht,List.map_append];simp[numE,HH.o,hx]);have zm:z≤wr.heap.size:=by have:=BZm.o.size;omega
    clear ht hx;go_wp2_with fail;refine KF.o.mono ?_;rintro e w3 ⟨rfl,b3⟩;have KE:=Zh (KED.o _ w3 (HBm.o.below b3) hh x hhl hxl);have K3:=Zh (HKm.o.trans (Qbb.of b3 zm));clear b3 d0 d1 d2 d3 x0 g1 KF;go_wp2_with fail;refine KE.o.mono ?_;rintro e w4 ⟨rfl,hb4,k4⟩;have HB4:=Zh (show BldE z bt sb pb mb nv N (E++(Ta.take (m+1)).map (fun t=>numE N (nd,⟨3,i,blkI f t,0⟩))) w4 by rw[HSN.o,←List.append_assoc];exact hb4);have K4:=Zh (K3.o.trans k4);clear hb4 k4 KE;go_wp2;go_roundw
    case rel=>exact⟨m+1,by omega,by go_num,HB4,K4⟩
    case measure=>simp[intOf];omega
   ·have HFIN:=Zh (show BldE z bt sb pb mb nv N (E++(QU p nd).map (numE N)) wr by
     rw[HEE.o,List.map_map,←show Ta.take m=Ta from List.take_of_length_le (by rw[HTN.o];omega)];exact HBm.o)
    have KFIN:=Zh (KE1.o.trans HKm.o);go_wp2;exact bodyPost_end (v:=.tuple #[]) (by simp[results,Tryz.results101,go_sem]) rfl ⟨rfl,HFIN.o,KFIN.o⟩
 by_cases h9:op=9
 ·have HEE:=Zh (HE9.o h9);obtain⟨ex,hex⟩:∃m:Nat,numT N ⟨2,i,-1,-1⟩=m:=⟨_,rfl⟩;have hel:ex<N.length:=hex▸(QEc (HED.o nd ⟨2,i,-1,-1⟩ (by rw[HEE.o];simp)).2).1;have KA:=Zh (KAT.o E w2 HB1.o 2 i (-1) (-1) ⟨HFIT.o 2 ZO ZO,HFIT.o (i:Int) ZO ZO,HFIT.o (-1) ZO ZO,HFIT.o (-1) ZO ZO⟩);rw[show numN N ⟨2,i,-1,-1⟩=(ex:Int) by rw[QLc,hex]] at KA;have HEL:=Zh (show(QU p nd).map (numE N)=[(hh,ex)] by rw[HEE.o];simp[numE,HH.o,hex]);have KE:=Zh (KED.o E w2 HB1.o hh ex hhl hel);clear hex;subst h9;go_wp2_with fail;refine KA.o.mono ?_;rintro e w3 ⟨rfl,rfl⟩;go_wp2_with fail;refine KE.o.mono ?_;rintro e w4 ⟨rfl,hb4,k4⟩;have HFIN:=Zh (show BldE z bt sb pb mb nv N (E++(QU p nd).map (numE N)) w4 by rw[HEL.o];exact hb4);have KFIN:=Zh (KE1.o.trans k4);clear hb4 k4;go_wp2;exact bodyPost_end (v:=.tuple #[]) (by simp[results,Tryz.results101,go_sem]) rfl ⟨rfl,HFIN.o,KFIN.o⟩
 by_cases h3:op=3
 ·have HEE:=Zh (HE3.o h3);obtain⟨g,hg,hgn,tl,htl⟩:=HCAL.o h3;rw[hg] at HEE;have KI:=Zh (QHm p (.slice a n c) (tgt s) (q+1+1) w2 (HPP.o.keep (Qf.below (hz▸BZ1.o)) (Qf.below (hz▸BZ1.o)) (Qf.below (hz▸BZ1.o)) (Qf.below (hz▸BZ1.o))) op dn (.slice ua un uc) (.slice ta tn tc) HSB1.o tl (htl▸HTT.o.same (Qf.below (hz▸BZ1.o))));rw[show idxI (p.map Qo.name) (tgt s)=(g:Int) from hg] at KI;have hg8:g≤8:=by have:=HFW.o.1;omega
  obtain⟨e1,he1⟩:∃m:Nat,numT N ⟨1,g,-1,-1⟩=m:=⟨_,rfl⟩;obtain⟨e2,he2⟩:∃m:Nat,numT N ⟨2,g,-1,-1⟩=m:=⟨_,rfl⟩;obtain⟨rt,hrt⟩:∃m:Nat,numT N ⟨4,i,k,j⟩=m:=⟨_,rfl⟩;have l1:e1<N.length:=he1▸(QEc (HED.o nd ⟨1,g,-1,-1⟩ (by rw[HEE.o];simp)).2).1;have l2:e2<N.length:=he2▸(QEc (HED.o ⟨2,g,-1,-1⟩ ⟨4,i,k,j⟩ (by rw[HEE.o];simp)).1).1;have lr:rt<N.length:=hrt▸(QEc (HED.o ⟨2,g,-1,-1⟩ ⟨4,i,k,j⟩ (by rw[HEE.o];simp)).2).1;have ln:nx<N.length:=HNX.o▸(QEc (HED.o ⟨4,i,k,j⟩ ⟨3,i,k,j+1⟩ (by rw[HEE.o];simp)).2).1;have HEL:=Zh (show(QU p nd).map (numE N)=[(hh,e1),(e2,rt),(rt,nx)] by rw[HEE.o];simp[numE,HH.o,he1,he2,hrt,HNX.o]);have HN1:=Zh (show numN N ⟨1,g,-1,-1⟩=(e1:Int) by rw[QLc,he1]);have HN2:=Zh (show numN N ⟨2,g,-1,-1⟩=(e2:Int) by rw[QLc,he2]);have HN4:=Zh (show numN N ⟨4,i,k,j⟩=(rt:Int) by rw[QLc,hrt]);clear he1 he2 hrt hg htl;subst h3;go_wp2_with fail;refine KI.o.mono ?_;rintro e w3 ⟨rfl,b3⟩;have HB3:=Zh (HB1.o.below b3);have HNB3:=Zh (Qc HNB1.o b3 (Qb HNB1.o));have K3:=Zh (Qbb.of (z:=z) b3 BZ1zw);have KA:=Zh (KAT.o E w3 HB3.o 4 i k j ⟨HFIT.o 4 ZO ZO,HFIT.o (i:Int) ZO ZO,HFIT.o (k:Int) ZO ZO,HFIT.o (j:Int) ZO ZO⟩);rw[HN4.o] at KA;clear b3 d0 d1 d2 d3 s0 s1 s2 s3 x0 KI;obtain⟨d0,d1,d2,d3⟩:=Qt HNB3.o;go_wp2_with fail;refine KA.o.mono ?_;rintro e w4 ⟨rfl,rfl⟩;have KA2:=Zh (KAT.o E w4 HB3.o 1 g (-1) (-1) ⟨HFIT.o 1 ZO ZO,HFIT.o (g:Int) ZO ZO,HFIT.o (-1) ZO ZO,HFIT.o (-1) ZO ZO⟩);rw[HN1.o] at KA2;clear KA d0 d1 d2 d3;go_wp2_with fail;refine KA2.o.mono ?_;rintro e w5 ⟨rfl,rfl⟩;have KE:=Zh (KED.o E w5 HB3.o hh e1 hhl l1);clear KA2;go_wp2_with fail;refine KE.o.mono ?_;rintro e w6 ⟨rfl,hb6,k6⟩;have HB6:=Zh hb6;have K6:=Zh (K3.o.trans k6);clear hb6 k6 KE;have KA2:=Zh (KAT.o _ w6 HB6.o 2 g (-1) (-1) ⟨HFIT.o 2 ZO ZO,HFIT.o (g:Int) ZO ZO,HFIT.o (-1) ZO ZO,HFIT.o (-1) ZO ZO⟩);rw[HN2.o] at KA2;go_wp2_with fail;refine KA2.o.mono ?_;rintro e w7 ⟨rfl,rfl⟩;have KE:=Zh (KED.o _ w7 HB6.o e2 rt l2 lr);clear KA2;go_wp2_with fail;refine KE.o.mono ?_;rintro e w8 ⟨rfl,hb8,k8⟩;have HB8:=Zh hb8;have K8:=Zh (K6.o.trans k8);clear hb8 k8 KE;have KE:=Zh (KED.o _ w8 HB8.o rt nx lr ln);go_wp2_with fail;refine KE.o.mono ?_;rintro e w9 ⟨rfl,hb9,k9⟩;have HFIN:=Zh (show BldE z bt sb pb mb nv N (E++(QU p nd).map (numE N)) w9 by rw[HEL.o];simpa using hb9);have KFIN:=Zh (KE1.o.trans (K8.o.trans k9));clear hb9 k9 KE;go_wp2;exact bodyPost_end (v:=.tuple #[]) (by simp[results,Tryz.results101,go_sem]) rfl ⟨rfl,HFIN.o,KFIN.o⟩
 ·have HEE:=Zh (HE0.o h7 h8 h9 h3);have ln:nx<N.length:=HNX.o▸(QEc (HED.o nd ⟨3,i,k,j+1⟩ (by rw[HEE.o];simp)).2).1;have HEL:=Zh (show(QU p nd).map (numE N)=[(hh,nx)] by rw[HEE.o];simp[numE,HH.o,HNX.o]);have KE:=Zh (KED.o E w2 HB1.o hh nx hhl ln);have t7:(op==7)=false:=by simpa using h7
  have t8:(op==8)=false:=by simpa using h8
  have t9:(op==9)=false:=by simpa using h9
  have t3:(op==3)=false:=by simpa using h3
  clear h7 h8 h9 h3;go_wp2_with fail;refine KE.o.mono ?_;rintro e w4 ⟨rfl,hb4,k4⟩;have HFIN:=Zh (show BldE z bt sb pb mb nv N (E++(QU p nd).map (numE N)) w4 by rw[HEL.o];exact hb4);have KFIN:=Zh (KE1.o.trans k4);clear hb4 k4;go_wp2;exact bodyPost_end (v:=.tuple #[]) (by simp[results,Tryz.results101,go_sem]) rfl ⟨rfl,HFIN.o,KFIN.o⟩
end
end Go.Proofs.YtijekimobahgpaaGreatDoor
