/- A part of the proof. -/
import Derived.Test.YtijekimobahgpaaGreatDoorVa33
import Derived.Test.YtijekimobahgpaaGreatDoorVa29
set_option linter.unusedVariables false
set_option linter.unusedSimpArgs false
set_option linter.unusedSectionVars false
set_option maxRecDepth 100000
set_option maxHeartbeats 16000000
namespace Go.Proofs.YtijekimobahgpaaGreatDoor
section
namespace R
open Go.RowKit
variable [Base]
theorem QYl (s:ByteArray)(w:World)(toks:List Tok)(n:Nat)(line col err:Int)(h:Qhd s.data.toList=⟨toks,line,col,err⟩)(hn:toks.length=n):
  Calls Tryz.prog 171 #[.string s] w (Qet w toks n line col err):=by
 refine(Qxq s w).mono fun e w' hp=>?_
 have h1:=Qsq hp;rw[h] at h1;rw[←hn];exact h1
theorem parse_bad {w:World}(s:ByteArray){line col err:Int}{toks:List Tok}(h:Qhd s.data.toList=⟨toks,line,col,err⟩)(he:err≠0):
  Calls Tryz.prog 125 #[.string s] w (Qip w ⟨[],line,col,err⟩):=by
 have HS:=Zh h;have hne:(err != 0)=true:=by simpa using he
 clear h he;go_enter Tryz.func125,Tryz.ntmps125;have ba:=Zh ((Below.refl w.heap.size w).alloc (Nat.le_refl _) (.cells #[.slice none 0 0] 25));have ha:Hid ((w.alloc (.cells #[.slice none 0 0] 25)).heap[w.heap.size]? = some (.cells #[.slice none 0 0] 25 (0,0))):=heap_alloc_new _ _;go_wp2_with fail;refine(QYl s _ toks toks.length line col err HS.o rfl).mono ?_;rintro e w1 ⟨a,c,rfl,ht,hb⟩;have hr:=Zh (Below.blk hb.o ha.o);have hbb:=Zh (ba.o.trans (hb.o.mono ZS));have c0:=(Qd hr.o).1 0;have cf:=(Qd hr.o).2;simp at c0;clear ht hb;go_wp2;have ⟨gc,_⟩:=Qd (Qfj hr.o (.slice none 0 0));refine bodyPost_ret (v:=.tuple #[.agg #[.slice none 0 0],.int .i64 line,.int .i64 col,.int .i64 err]) ?_ rfl ?_
 ·simp[results,Tryz.results125,go_sem,gc]
 exact⟨_,rfl,QLe _,hbb.o.setCell (Nat.le_refl _) _⟩
def PEx (B bp R bb:Nat)(T:List Tok)(RM:List Qo×PS)(W w:World):Prop:=
 ∃v n xs,LpL 25 89 2 B bp R bb (.cells #[.slice none 0 0] 25 (0,0)) [] T W RM.2 w v n xs∧(RM.2.err=0→Qhf Qab w xs RM.1)
theorem parse_good {B:Nat}{w:World}(kw:KwIn B w)(hB:B≤w.heap.size)(s:ByteArray){T:List Tok}(h:Qhd s.data.toList=⟨T,0,0,0⟩):
  Calls Tryz.prog 125 #[.string s] w (Qip w (Qug s.data.toList)):=by
 have HS:=Zh h;have hT:=Qgj s.data.toList;rw[h] at hT;dsimp only at hT;clear h;go_enter Tryz.func125,Tryz.ntmps125;have ba:=Zh ((Below.refl w.heap.size w).alloc (Nat.le_refl _) (.cells #[.slice none 0 0] 25));have ha:Hid ((w.alloc (.cells #[.slice none 0 0] 25)).heap[w.heap.size]? = some (.cells #[.slice none 0 0] 25 (0,0))):=heap_alloc_new _ _;go_wp2_with fail;refine(QYl s _ T T.length 0 0 0 HS.o rfl).mono ?_;rintro e w1 ⟨ta,tc,rfl,ht,hb⟩;have hr:=Zh (Below.blk hb.o ha.o);have hbb:=Zh (ba.o.trans (hb.o.mono ZS));have hrz:=Qb hr.o;have O:Hid (PSt B w1.heap.size T ⟨0,0⟩ (w1.alloc (.cells #[.slice ta T.length tc,.int .i64 0,.int .i64 0] 227))):=⟨kw.keep (fun k hk=>(Below.heap_alloc _ _ k ZO).trans (hbb.o.block k ZO)),by omega,⟨ta,tc,heap_alloc_new _ _,Qg.same ht.o Qf.alloc⟩,Nat.zero_le _,by decide⟩;have HT0:=Zh (Qg.same ht.o (Qf.alloc (o:=.cells #[.slice ta T.length tc,.int .i64 0,.int .i64 0] 227)));have HTY0:=Zh (Qv (heap_alloc_new w1 (.cells #[.slice ta T.length tc,.int .i64 0,.int .i64 0] 227)) (by show Base.b≤w1.heap.size;have:=kw.bs;omega));clear ht hb ba ha;obtain⟨W,hW⟩:=Ze (w1.alloc (.cells #[.slice ta T.length tc,.int .i64 0,.int .i64 0] 227));have HW:=Zh hW;have hWz:W.heap.size=w1.heap.size+1:=by rw[←hW];simp
 have L4:Hid (LpL 25 89 2 B w1.heap.size w.heap.size W.heap.size (.cells #[.slice none 0 0] 25 (0,0)) [] T W ⟨0,0⟩ (W.alloc (.cells #[.slice none 0 0] 25)) (.slice none 0 0) 0 []):=⟨by rw[←hW];exact O.o.alloc _,(But.refl _ _).alloc _,by omega,by omega,by omega,Nat.le_refl _,Qfa _ (by rw[←hW];exact Qfa _ hr.o),heap_alloc_new W _,World.ownsRow_nil _ _ _ _⟩;have hWb:Hid (Below w.heap.size w W):=by rw[←hW];exact hbb.o.alloc ZO _
 have HTK:Hid (QFb W (.slice ta T.length tc) T):=by rw[←hW];exact HT0.o
 have HTY:Hid (tyAt W w1.heap.size=some 227):=by rw[←hW];exact HTY0.o
 clear hW O hr hbb HT0 HTY0;go_wp2_with fail;rw[show w1.alloc (.cells #[.slice ta T.length tc,.int .i64 0,.int .i64 0] 227)=W from HW.o];obtain⟨bb,hbb⟩:=Ze W.heap.size;rw[hbb] at L4 hWz;rw[show w1.heap.size+1=bb from by omega];have HBB:=Zh hbb;clear hbb;obtain⟨bp,hbp⟩:=Ze w1.heap.size;rw[hbp] at L4 hWz hrz HTY ⊢;clear hbp;have hlt1:bp<bb:=by omega
 have HWS:=Zh hWz;clear hWz;refine(QDf L4.o.p Qrb).mono ?_;rintro e v5 ⟨rfl,hp,hb⟩;have L5:=Zh (L4.o.call hp hb);clear hp hb L4;obtain⟨s5,hs5⟩:=Ze ((if isW T Qrb ⟨0,0⟩=true then (⟨0,0⟩:PS) else PS.fail ⟨0,0⟩ 4));have HS5:=Zh hs5;obtain⟨RM,hRM⟩:=Ze (QSb (isW T Qrb) (QHc T) 8 [] s5);have HRM:=Zh hRM;clear hRM;have HPT:=Zh (QEq HS.o (R:=RM) (by rw[HS5.o];exact HRM.o));clear hs5;go_upto_if 30 with fail
 go_cut [] from 28 to 32 (fun wx=>Hid (LpIn Qab (isW T Qrb) (QHc T) 25 89 2 B bp w.heap.size bb 8 (.cells #[.slice none 0 0] 25 (0,0)) [] T RM W 10 wx))
 case first=>
  have hs5:=HS5.o;clear HS5
  cases hb0:isW T Qrb ⟨0,0⟩
  ·rw[hb0,if_neg ZD] at hs5;clear hb0;go_wp2_with fail;refine(Qtb L5.o.p 4 ZD).mono ?_;rintro e v6 ⟨rfl,hp,hb⟩;have L6:=Zh (L5.o.call hp hb);clear hp hb;rw[hs5] at L6;clear hs5;have I0:Hid (LpIn Qab (isW T Qrb) (QHc T) 25 89 2 B bp w.heap.size bb 8 (.cells #[.slice none 0 0] 25 (0,0)) [] T RM W 10 v6):=⟨s5,.slice none 0 0,0,[],L6.o,rfl,Md.start HRM.o ⟨[],rfl,trivial⟩⟩;clear L6;go_wp2;go_meet
   case rel=>exact I0
  ·rw[hb0,if_pos rfl] at hs5;clear hb0;rw[hs5] at L5;clear hs5;have I0:Hid (LpIn Qab (isW T Qrb) (QHc T) 25 89 2 B bp w.heap.size bb 8 (.cells #[.slice none 0 0] 25 (0,0)) [] T RM W 10 v5):=⟨s5,.slice none 0 0,0,[],L5.o,rfl,Md.start HRM.o ⟨[],rfl,trivial⟩⟩;clear L5;go_wp2;go_meet
   case rel=>exact I0
 case rest=>
  clear L5 HS5;go_upto_block 0 with fail
  go_cut [] from 33 to 47 (fun wx=>Hid (PEx B bp w.heap.size bb T RM W wx))
  case first=>
   have I0:=hcut;clear hcut;go_wp2;go_loopg [] 10 (fun g wr=>Hid (LpIn Qab (isW T Qrb) (QHc T) 25 89 2 B bp w.heap.size bb 8 (.cells #[.slice none 0 0] 25 (0,0)) [] T RM W g wr))
   case atStart=>exact I0
   case round=>
    obtain⟨s6,v,n,xs,l6,hgn,md⟩:=hrel.o;obtain⟨va,vc,rfl⟩:=Qkd l6.own;have L6:=Zh l6;have MD:=Zh md;clear l6 md hrel I0;go_wp2_with fail;refine(QDf L6.o.p Qrb).mono ?_;rintro e v7 ⟨rfl,hp,hb⟩;have L7:=Zh (L6.o.call hp hb);have K7:=Zh (L6.o.same (ts:=[9,94,92]) ZD hb);clear hp hb
    cases hbg:(isW T Qrb) s6
    ·have HBG:=Zh hbg;clear hbg;obtain⟨hr2,hok⟩:=Hd.done (show Hd _ _ RM 8 n s6 _ false from .inl ⟨HBG.o.symm,MD.o⟩);have HR2:=Zh hr2;have HOK:=Zh hok;clear hr2 hok MD;have EX:Hid (PEx B bp w.heap.size bb T RM W v7):=⟨_,_,_,by rw[HR2.o];exact L7.o,fun h0=>(HOK.o (by rw[←HR2.o];exact h0)).mono (QEe K7.o)⟩;clear L7 K7 HOK HR2 hT;go_wp2;go_meet
     case rel=>exact EX
    ·have HBG:=Zh hbg;have hle:=Md.le (fun _ h=>Qpc h _) MD.o hbg;clear hbg;have c1:=(Qd L7.o.loc).1 0;have cf:=(Qd L7.o.loc).2;have hlth:=L7.o.lth;simp at c1;by_cases hfull:(n:Int)=8
     ·obtain rfl:n=8:=by omega
      have ⟨hr2,hne⟩:=Md.full (fun _ h=>Qpc h _) MD.o HBG.o;have HR2:=Zh hr2;have HNE:=Zh hne;clear hr2 hne hfull MD;go_wp2_with fail;refine(Qtb L7.o.p 7 ZD).mono ?_;rintro e v8 ⟨rfl,hp,hb⟩;have L8:=Zh (L7.o.call hp hb);clear hp hb c1 cf;have EX:Hid (PEx B bp w.heap.size bb T RM W v8):=⟨_,_,_,by rw[HR2.o];exact L8.o,fun h0=>absurd (by rw[←HR2.o];exact h0) HNE.o⟩;clear L7 K7 L8 HR2 hT;go_wp2;go_meet
      case rel=>exact EX
     ·have hnf:((n:Int)==8)=false:=by rw[beq_eq_false_iff_ne];exact hfull
      have hroom:Qsd 8 n s6=s6:=by unfold Qsd;exact if_neg ZO
      have HRM2:=Zh hroom;clear hroom;have hn32:n<8:=by omega
      clear hfull;go_wp2_with fail;refine QK (S:=fun w'=>w'.cell? ⟨bb,0,none⟩=some (.slice va n vc)) (st:=7) ZK ?_;refine Zp 0 ?z1 c1 ?rz1 ?sz1
      case rz1=>intro w hS;go_simp;rfl
      case sz1=>
      refine Zp 1 ?z2 c1 ?rz2 ?sz2
      case rz2=>intro w hS;go_simp;rfl
      case sz2=>
      refine Zp 2 ?z3 c1 ?rz3 ?sz3
      case rz3=>intro w hS;go_simp;rfl
      case sz3=>
      refine Zt 3 ?_;refine Ql rfl ?_;go_wp2_with fail;refine(Qql (L7.o.drewN 1).p hT).mono ?_;rintro e v8 ⟨bv,rfl,hu,hp,hb,hc⟩;obtain⟨bn,hbn⟩:=Ze (Qhc T Qrb s6);rw[hbn] at hc ⊢;clear hbn;have hb:=But.undrew hb;have L8:=Zh (L7.o.call hp hb);have K8:=Zh (K7.o.trans (L7.o.same (ts:=[9,94,92]) ZD hb));have HC:=Zh hc;have HU:=Zh (show List.all [sv bn,bv] Value.oneCell'=true by simp only[List.all_cons,List.all_nil,hu];rfl);clear c1 cf hp hb hc hu;have c1:=(Qd L8.o.loc).1 0;have cf:=(Qd L8.o.loc).2;simp at c1;have hl8:=L8.o.lth;go_wp2;refine⟨fun _=>c1,?_⟩;refine Zt 4 ?_;refine Ql rfl ?_;have c1a:=(((Below.refl v8.heap.size v8).alloc (Nat.le_refl _) (.cells #[sv bn,bv] 89)).cell (p:=⟨bb,0,none⟩) hl8).trans c1;go_wp2;refine⟨fun _=>c1a,?_⟩;refine Zt 5 ?_;refine Ql rfl ?_;refine Qcb [sv bn,bv] rfl _ _ 23 rfl (bb+1) 89 _ 2 40 Tryz.underlying23 Qvs rfl ZO _ n xs L8.o.own rfl _ rfl ZS rfl HU.o (by unfold maxLen;omega) ZO ZO ?_;intro g cap w9 hown1 hg1 hg2 hg3;have c1b:=(Qd (L8.o.cell1 hg1)).1 0;have cfb:=(Qd (L8.o.cell1 hg1)).2;simp at c1b;have hl9:=Qb (L8.o.cell1 hg1);have L9:=Zh (L8.o.push hown1 hg1 ZD ZD 0 rfl);have K9:=Zh (L8.o.pushSame (ts:=[9,94,92]) ZD ZD hg1 0 (.slice (some ⟨g,0,none⟩) (n+1) cap));clear hown1 hg1 c1 cf c1a;have c1:=c1b;have cf:=cfb;clear c1b cfb;go_wp2;refine⟨fun _=>c1,?_⟩;refine Zp 6 ?z4 c1 ?rz4 ?sz4
      case rz4=>intro w hS;go_simp;rfl
      case sz4=>
      refine Zt 7 ?_;refine Ql rfl ?_;go_wp2;refine⟨fun h=>absurd rfl h,?_⟩;refine Qu ZK ?_ _;clear c1 cf;go_wp2;go_roundg (gk-1)
      case measure=>omega
      case rel=>
       refine⟨_,_,n+1,_,L9.o,by omega,?_⟩;have st:=Hd.step (OK':=Qhf Qab (w9.setCell ⟨bb,0,none⟩ (.slice (some ⟨g,0,none⟩) (n+1) cap)) (xs++[sv bn,bv])) (QIt T) (fun _ h=>Qpc h _) ZD (show Hd _ _ RM 8 n s6 _ true from .inl ⟨HBG.o.symm,MD.o⟩) (fun acc hok hb hr h5=>?_)
       ·rw[HRM2.o] at st;exact st
       ·exact(hok.mono (QEe (K8.o.trans K9.o))).snoc (QEe K9.o _ _ (HC.o h5))
  case rest=>
   obtain⟨v,n,xs,l6,hok⟩:=hcut.o;obtain⟨va,vc,rfl⟩:=Qkd l6.own;obtain⟨s6,hr2⟩:=Ze RM.2;rw[hr2] at l6 hok;have HR2:=Zh hr2;have HOK:=Zh hok;have L6:=Zh l6;clear l6 hok hr2 hcut;have hle:=L6.o.p.le;have hTK:=Zh (Qg.same HTK.o (Qf.but L6.o.but (by rw[HTY.o];decide) (by have:=L6.o.p.kw.bs;have:=L6.o.p.ge;omega)));obtain⟨at6,hat⟩:=Ze s6.at_;obtain⟨er6,her⟩:=Ze s6.err;obtain⟨pa_,pc_,hpb,_⟩:=L6.o.p.blk;have p1:=(Qd hpb).1 1;have p2:=(Qd hpb).1 2;have r0:=(Qd L6.o.res).1 0;have rf:=(Qd L6.o.res).2;have hzr_:=Qb L6.o.res;simp at p1 p2 r0;clear hpb;rw[hat] at p1 hle;rw[her] at p2;have HAT:=Zh hat;have HER:=Zh her;clear hat her;by_cases h0:er6=0
   ·subst h0;by_cases h1:at6<T.length
    ·have h1':(at6:Int)<(T.length:Int):=by omega
     go_wp2_with fail;refine(Qtb L6.o.p 4 ZD).mono ?_;rintro e v9 ⟨rfl,hp,hb⟩;have Lv9:=Zh (L6.o.call hp hb);have hTK7:=Zh (Qg.same hTK.o (Qf.but hb (by rw[L6.o.p.ty];decide) (by have:=L6.o.p.kw.bs;have:=L6.o.p.ge;omega)));clear hTK hp hb p1 p2 r0 rf;have hTK:=Zh hTK7.o;clear hTK7;have hs7:s6.fail 4=⟨at6,4⟩:=by unfold PS.fail;rw[if_pos HER.o,HAT.o]
     rw[hs7] at Lv9;obtain⟨pa_,pc_,hpb,_⟩:=Lv9.o.p.blk;have p1:=(Qd hpb).1 1;have p2:=(Qd hpb).1 2;have r0:=(Qd Lv9.o.res).1 0;have rf:=(Qd Lv9.o.res).2;have hzr_:=Qb Lv9.o.res;simp at p1 p2 r0;clear hpb;have HS7:=Zh hs7;clear hs7;have hlt6:at6<T.length:=by omega
     have htk:T[at6]? = some T[at6]:=List.getElem?_eq_getElem hlt6;obtain⟨tk,htk⟩:∃x,T[at6]? = some x:=⟨_,htk⟩;have HTKN:=Zh htk;obtain⟨a',c',e1,hml,_,_,hcell⟩:=QFb.form hTK.o;injection e1 with e1 e2 e3
     subst e1 e3;obtain⟨tb,off,rfl,htb,htyb,h4⟩:=hcell at6 tk htk;have t2:v9.cell? ⟨tb,off+at6*4+2,none⟩=some (.int .i64 tk.line):=h4 2 ZO;have t3:v9.cell? ⟨tb,off+at6*4+3,none⟩=some (.int .i64 tk.col):=h4 3 ZO;clear htk h4 hcell e2;have hneR:tb≠w.heap.size:=by intro h;rw[h] at htyb;exact absurd (htyb _ (Qv Lv9.o.res (by have:=Lv9.o.p.kw.bs;have:=Lv9.o.p.ge;have:=Lv9.o.lt;omega))) ZD
     have hRbp:(bp==w.heap.size)=false:=by rw[beq_eq_false_iff_ne];omega
     have hRtb:(tb==w.heap.size)=false:=by rw[beq_eq_false_iff_ne];exact hneR
     have h63:(at6:Int)<(T.length:Int):=by omega
     clear htyb hneR;go_wp2;go_region;have HQ:Hid (Qug s.data.toList=⟨[],tk.line,tk.col,4⟩):=by unfold Hid;rw[HPT.o,HR2.o,if_pos ⟨HER.o,by rw[HAT.o];exact h1⟩,HS7.o];unfold QOf;rw[if_neg (show ¬(4:Int)=0 by decide)];dsimp only;rw[HTKN.o];rfl
     go_wp2;have ⟨gc,_⟩:=Qd (Qfj Lv9.o.res (.slice none 0 0));refine bodyPost_ret (v:=.tuple #[.agg #[.slice none 0 0],.int .i64 (tk.line),.int .i64 (tk.col),.int .i64 4]) ?_ rfl ?_
     ·simp[results,Tryz.results125,go_sem,gc]
     rw[HQ.o];exact⟨_,rfl,QLe _,(QXf hWb.o Lv9.o.but ZO (by have:=HBB.o;omega) rfl _).drew⟩
    ·have h1':at6=T.length:=by omega
     subst h1';clear h1 hle;have c0:=(Qd L6.o.loc).1 0;have cf:=(Qd L6.o.loc).2;simp at c0;go_wp2;have ⟨gc,_⟩:=Qd (Qfj L6.o.res (.slice va n vc));refine bodyPost_ret (v:=.tuple #[.agg #[.slice va n vc],.int .i64 0,.int .i64 0,.int .i64 0]) ?_ rfl ?_
     ·simp[results,Tryz.results125,go_sem,gc]
     rw[HPT.o,HR2.o,if_neg (by rw[HAT.o];omega)];unfold QOf;rw[if_pos HER.o];have hk:=QTl (ts:=[9,94,92,89]) (Qv L6.o.res (by have:=L6.o.p.kw.bs;have:=L6.o.p.ge;have:=L6.o.lt;omega)) ZD (.slice va n vc);obtain⟨xss,ex,hall⟩:=(HOK.o HER.o).mono (QEe (fun t ht=>hk t (List.mem_append_left [89] ht)));exact⟨_,rfl,⟨xss,by rw[←ex];exact(Qg.of_owns L6.o.own).same (hk _ ZS),hall⟩,QXf hWb.o L6.o.but ZO (by have:=HBB.o;omega) rfl _⟩
   ·have hE:(er6==0)=false:=by rw[beq_eq_false_iff_ne];exact h0
    by_cases h1:at6=T.length
    ·subst h1;clear hle;go_wp2;have hRbp:(bp==w.heap.size)=false:=by rw[beq_eq_false_iff_ne];omega
     go_region;have HQ:Hid (Qug s.data.toList=⟨[],0,0,er6⟩):=by unfold Hid;rw[HPT.o,HR2.o,if_neg (by rw[HER.o];exact fun h=>h0 h.1)];unfold QOf;rw[if_neg (by rw[HER.o];exact h0),HAT.o,HER.o,List.getElem?_eq_none (Nat.le_refl _)];rfl
     go_wp2;have ⟨gc,_⟩:=Qd (Qfj L6.o.res (.slice none 0 0));refine bodyPost_ret (v:=.tuple #[.agg #[.slice none 0 0],.int .i64 (0),.int .i64 (0),.int .i64 er6]) ?_ rfl ?_
     ·simp[results,Tryz.results125,go_sem,gc]
     rw[HQ.o];exact⟨_,rfl,QLe _,(QXf hWb.o L6.o.but ZO (by have:=HBB.o;omega) rfl _).drew⟩
    ·have hcl:True:=trivial;have hlt6:at6<T.length:=by omega
     have htk:T[at6]? = some T[at6]:=List.getElem?_eq_getElem hlt6;obtain⟨tk,htk⟩:∃x,T[at6]? = some x:=⟨_,htk⟩;have HTKN:=Zh htk;obtain⟨a',c',e1,hml,_,_,hcell⟩:=QFb.form hTK.o;injection e1 with e1 e2 e3
     subst e1 e3;obtain⟨tb,off,rfl,htb,htyb,h4⟩:=hcell at6 tk htk;have t2:wc.cell? ⟨tb,off+at6*4+2,none⟩=some (.int .i64 tk.line):=h4 2 ZO;have t3:wc.cell? ⟨tb,off+at6*4+3,none⟩=some (.int .i64 tk.col):=h4 3 ZO;clear htk h4 hcell e2;have hneR:tb≠w.heap.size:=by intro h;rw[h] at htyb;exact absurd (htyb _ (Qv L6.o.res (by have:=L6.o.p.kw.bs;have:=L6.o.p.ge;have:=L6.o.lt;omega))) ZD
     have hRbp:(bp==w.heap.size)=false:=by rw[beq_eq_false_iff_ne];omega
     have hRtb:(tb==w.heap.size)=false:=by rw[beq_eq_false_iff_ne];exact hneR
     have h63:(at6:Int)<(T.length:Int):=by omega
     clear htyb hneR;go_wp2;go_region;have HQ:Hid (Qug s.data.toList=⟨[],tk.line,tk.col,er6⟩):=by unfold Hid;rw[HPT.o,HR2.o,if_neg (by rw[HER.o];exact fun h=>h0 h.1)];unfold QOf;rw[if_neg (by rw[HER.o];exact h0),HAT.o,HER.o,HTKN.o];rfl
     go_wp2;have ⟨gc,_⟩:=Qd (Qfj L6.o.res (.slice none 0 0));refine bodyPost_ret (v:=.tuple #[.agg #[.slice none 0 0],.int .i64 (tk.line),.int .i64 (tk.col),.int .i64 er6]) ?_ rfl ?_
     ·simp[results,Tryz.results125,go_sem,gc]
     rw[HQ.o];exact⟨_,rfl,QLe _,(QXf hWb.o L6.o.but ZO (by have:=HBB.o;omega) rfl _).drew⟩
end R
end
section
open Go.RowKit
variable [Base]
def QLr:List UInt8:=[102,117,110,99,32,109,59,32,98,108,111,99,107,32,98,59,32,120,32,61,32,121,59,32,114,101,116,117,114,110,59,32,101,110,100]
def Qtc:List Qo:=[⟨[109],[⟨[98],[⟨1,[120],[[121]],[]⟩,⟨9,[],[],[]⟩]⟩]⟩]
theorem Qtq:Qhd QLr=⟨(Qhd QLr).toks,0,0,0⟩:=by kernel_rfl
theorem QKn:Qug QLr=⟨Qtc,0,0,0⟩:=by kernel_rfl
theorem QJr:∀f∈Qtc,∀b∈f.blocks,∀s∈b.stmts,FitS s:=by
 intro f hf b hb s hs;simp[Qtc] at hf;subst hf;simp at hb;subst hb;simp at hs;rcases hs with rfl|rfl <;> simp[FitS]
theorem Qlu:Qxb Qtc 3=0:=by kernel_rfl
theorem Qmu:Qxb Qtc 2=0:=by kernel_rfl
def QOi:Qw:=⟨⟨2,[0]⟩,⟨2,[1]⟩,[(1,0)]⟩
theorem Qtt:(QZc Qtc 3).trans[1]? = some QOi:=by kernel_rfl
theorem Qst:(QZc Qtc 3).trans.length=4:=by kernel_rfl
theorem Qvt:(QZc Qtc 2).deps[0]? = some [1]:=by kernel_rfl
theorem Qut:(QZc Qtc 2).deps.length=4:=by kernel_rfl
def oneS:SysS:=⟨0,[[0]],[⟨⟨0,[]⟩,⟨0,[]⟩,[]⟩],[⟨0,[]⟩]⟩
theorem Qpu:sysB oneS=true:=by kernel_rfl
theorem QIq:QIg oneS=1:=by kernel_rfl
theorem one_w:sysW oneS:=by
 refine⟨fun t ht=>?_,fun b hb=>?_⟩
 ·simp[oneS] at ht;subst ht;exact⟨by simp[QLa],by simp[QLa]⟩
 ·simp[oneS] at hb;subst hb;simp[QLa]
theorem Qjt:eqTB QOi QOi=true:=by kernel_rfl
theorem QXn (m:Nat)(hm:m≤256)(w:World)(hbs:Base.b≤w.heap.size):Calls Tryz.prog 24 #[iv m] w (Qgp (idT m) w):=by
 obtain⟨z,hz⟩:=Ze w.heap.size;obtain⟨W,hW⟩:=Ze (w.alloc (.cells #[iv 0,.slice none 0 0,iv 0,.slice none 0 0,.slice none 0 0] FNA));have BW:=Zh (show Below z w W by rw[←hW,←hz];exact Zb);have HR:=Zh (show W.heap[z]? = some (.cells #[iv 0,.slice none 0 0,iv 0,.slice none 0 0,.slice none 0 0] FNA (0,0)) by rw[←hW,←hz];exact heap_alloc_new _ _);have HW:=Zh hW;have HZ:=Zh hz;have hbz:Base.b≤z:=by omega
 clear hW hbs;go_enter Tryz.func24,Tryz.ntmps24;go_upto_region 1 with(fail)
 rw[show w.alloc (.cells #[iv 0,.slice none 0 0,iv 0,.slice none 0 0,.slice none 0 0] FNA)=W from HW.o]
 try rw[hz]
 go_wp2_with fail;refine(Qjc m hm W).mono ?_;rintro e w1 ⟨u,rfl,ho,b1⟩;obtain⟨ua,un,uc,rfl⟩:=ho.words.shape;have HU:=Zh ho.words;have HR1:=Zh (Qc HR.o b1 (Qb HR.o));have B1:=Zh (BW.o.trans (b1.mono (by have:=Qb HR.o;omega)));rw[show setV (Qy m) (.slice ua un uc)=.agg #[iv m,.slice ua un uc] from rfl];clear ho b1;go_wp2_with fail;refine(Qjc m hm w1).mono ?_;rintro e w2 ⟨v,rfl,ho,b2⟩;obtain⟨va,vn,vc,rfl⟩:=ho.words.shape;have HV:=Zh ho.words;have HU2:=Zh (HU.o.below b2);have HR2:=Zh (Qc HR1.o b2 (Qb HR1.o));have B2:=Zh (B1.o.trans (b2.mono (by have:=Qb HR1.o;omega)));rw[show setV (Qy m) (.slice va vn vc)=.agg #[iv m,.slice va vn vc] from rfl];clear ho b2;obtain⟨c0,c1,c2,c3,c4⟩:=QJ HR2.o;have f0:=(Qa HR2.o).2 0;have f1:=(Qa HR2.o).2 1;have f2:=(Qa HR2.o).2 2;have f3:=(Qa HR2.o).2 3;have f4:=(Qa HR2.o).2 4;have E5:=Zh (set5 HR2.o (iv m) (.slice ua un uc) (iv m) (.slice va vn vc) (.slice none 0 0));have HS:=Zh (fun (T:TypeId) (hne:T≠FNA)=>Quc (T:=T) (Qv HR2.o ZO) hne (iv m) (.slice ua un uc) (iv m) (.slice va vn vc) (.slice none 0 0));have HT5:=Zh (show Qja _ (.slice ua un uc) (.slice va vn vc) (.slice none 0 0) (idT m) from⟨HU2.o.keep (HS.o _ ZD),HV.o.keep (HS.o _ ZD),QKc.nil⟩);have HB5:=Zh (show Below z w (((((w2.setCell ⟨z,0,none⟩ (iv m)).setCell ⟨z,1,none⟩ (.slice ua un uc)).setCell ⟨z,2,none⟩ (iv m)).setCell ⟨z,3,none⟩ (.slice va vn vc)).setCell ⟨z,4,none⟩ (.slice none 0 0)) from
  ((((B2.o.setCell (Nat.le_refl _) _).setCell (Nat.le_refl _) _).setCell (Nat.le_refl _) _).setCell (Nat.le_refl _) _).setCell (Nat.le_refl _) _)
 go_wp2;obtain⟨g0,g1,g2,g3,g4⟩:=QJ E5.o;refine bodyPost_ret (v:=.agg #[iv m,.slice ua un uc,iv m,.slice va vn vc,.slice none 0 0]) (by simp[results,Tryz.results24,go_sem,g0,g1,g2,g3,g4]) rfl ⟨_,_,_,rfl,HT5.o,by rw[HZ.o];exact HB5.o⟩
theorem QBn {B:Nat}{w:World}(kw:KwIn B w)(ef:Qmg B w)(tz:TzIn B w)(hB:B≤w.heap.size)(kind:Int):
  Calls Tryz.prog 57 #[.string ⟨#[102,117,110,99,32,109,59,32,98,108,111,99,107,32,98,59,32,120,32,61,32,121,59,32,114,101,116,117,114,110,59,32,101,110,100]⟩,iv kind] w (SysE (ofT Qtc kind) w):=by
 obtain⟨z,hz⟩:=Ze w.heap.size;have hbz:Base.b≤z:=by have:=kw.bs;omega
 obtain⟨W,hW⟩:=Ze (w.alloc (.cells #[iv 0,.slice none 0 0,.slice none 0 0,.slice none 0 0] SYT));have BW:=Zh (show Below z w W by rw[←hW,←hz];exact Zb);have HR:=Zh (show W.heap[z]? = some (.cells #[iv 0,.slice none 0 0,.slice none 0 0,.slice none 0 0] SYT (0,0)) by rw[←hW,←hz];exact heap_alloc_new _ _);have KP:=Zh (show Calls Tryz.prog 125 #[.string ⟨#[102,117,110,99,32,109,59,32,98,108,111,99,107,32,98,59,32,120,32,61,32,121,59,32,114,101,116,117,114,110,59,32,101,110,100]⟩] W (Qip W ⟨Qtc,0,0,0⟩) from
  QKn▸R.parse_good (B:=B) (kw.keep fun k hk=>BW.o.block k ZO) (by have:=BW.o.size;omega) ⟨#[102,117,110,99,32,109,59,32,98,108,111,99,107,32,98,59,32,120,32,61,32,121,59,32,114,101,116,117,114,110,59,32,101,110,100]⟩ Qtq)
 have KO:=Zh (fun (x:World) (b:Below z w x) (v:Value) (hv:QAa x v Qtc)=>Qqu (B:=B) (kw.keep fun k hk=>b.block k ZO) (ef.below (b.mono ZO)) (tz.below (b.mono ZO)) (by have:=b.size;omega) Qtc v hv QJr kind);have HW:=Zh hW;have HZ:=Zh hz;clear hW kw ef tz hB;go_enter Tryz.func57,Tryz.ntmps57;go_upto_region 1 with(fail)
 rw[show w.alloc (.cells #[iv 0,.slice none 0 0,.slice none 0 0,.slice none 0 0] SYT)=W from HW.o]
 try rw[hz]
 go_wp2_with fail;refine KP.o.mono ?_;rintro e w1 ⟨v,rfl,hv,b1⟩;obtain⟨va,vc,rfl,-,-⟩:=hv.cell;obtain⟨vn,hvn⟩:=Ze Qtc.length;rw[hvn] at hv ⊢;have HV:=Zh hv;have B1:=Zh (BW.o.trans (b1.mono (by have:=Qb HR.o;omega)));have HR1:=Zh (Qc HR.o b1 (Qb HR.o));obtain⟨W2,hW2⟩:=Ze (w1.alloc (.cells #[.slice va vn vc] PRT));obtain⟨q,hq⟩:=Ze w1.heap.size;have A2:=Zh (show Below w1.heap.size w1 W2 by rw[←hW2];exact Zb);have HQ:=Zh (show W2.heap[q]? = some (.cells #[.slice va vn vc] PRT (0,0)) by rw[←hW2,←hq];exact heap_alloc_new _ _);have B2:=Zh (B1.o.trans (A2.o.mono (by have:=Qb HR1.o;omega)):Below z w W2);have HR2:=Zh (Qc HR1.o A2.o (Qb HR1.o));have KO2:=Zh (KO.o W2 B2.o _ (HV.o.keep (Qf.below A2.o) (Qf.below A2.o) (Qf.below A2.o) (Qf.below A2.o)));have HW2:=Zh hW2;clear hv b1 hW2 hvn KP;go_upto_region 2 with(fail)
 try rw[hq]
 rw[show w1.alloc (.cells #[.slice va vn vc] PRT)=W2 from HW2.o];clear hq;have x0:=(Qd HQ.o).1 0;simp at x0;go_wp2_with fail;refine KO2.o.mono ?_;rintro e w3 ⟨dv,tv,bv,rfl,hs,b3⟩;obtain⟨SS,hSS⟩:=Ze (ofT Qtc kind);rw[hSS] at hs ⊢;have HSS:=Zh hSS;clear KO2 KO hSS;obtain⟨da,dc,rfl,-⟩:=hs.deps.cell;obtain⟨ta,tc,rfl,-⟩:=hs.trans.cell;obtain⟨ba,bc,rfl,-⟩:=hs.bnds.cell;obtain⟨dn,hdn⟩:=Ze SS.1.deps.length;obtain⟨tn,htn⟩:=Ze SS.1.trans.length;obtain⟨bn,hbn⟩:=Ze SS.1.bnds.length;obtain⟨sw,hsw⟩:=Ze SS.1.width;obtain⟨er,her⟩:=Ze SS.2;rw[hdn,htn,hbn] at hs;simp only[sysV,hdn,htn,hbn,hsw,her];have HS:=Zh hs;have HSW:=Zh (And.intro hsw her);have B3:=Zh (B2.o.trans (b3.mono (by have:=Qb HR2.o;omega)));have HR3:=Zh (Qc HR2.o b3 (Qb HR2.o));clear hs b3 hdn htn hbn hsw her x0;obtain⟨c0,c1,c2,c3⟩:=Qt HR3.o;have f0:=(Qa HR3.o).2 0;have f1:=(Qa HR3.o).2 1;have f2:=(Qa HR3.o).2 2;have f3:=(Qa HR3.o).2 3;have E4:=Zh (set4 HR3.o (iv sw) (.slice da dn dc) (.slice ta tn tc) (.slice ba bn bc));have HS5:=Zh (fun (U:TypeId) (hne:U≠SYT)=>Qsg (T:=U) (Qv HR3.o ZO) hne (iv sw) (.slice da dn dc) (.slice ta tn tc) (.slice ba bn bc));have HSA2:=Zh (HS.o.keep fun U hU=>HS5.o U (by
  simp only[List.mem_cons,List.mem_nil_iff,or_false] at hU;rcases hU with rfl|rfl|rfl|rfl|rfl|rfl <;> decide))
 have HB4:=Zh (show Below z w ((((w3.setCell ⟨z,0,none⟩ (iv sw)).setCell ⟨z,1,none⟩ (.slice da dn dc)).setCell ⟨z,2,none⟩ (.slice ta tn tc)).setCell ⟨z,3,none⟩ (.slice ba bn bc)) from
  (((B3.o.setCell (Nat.le_refl _) _).setCell (Nat.le_refl _) _).setCell (Nat.le_refl _) _).setCell (Nat.le_refl _) _)
 go_wp2;obtain⟨g0,g1,g2,g3⟩:=Qt E4.o;refine bodyPost_ret (v:=.tuple #[.agg #[iv sw,.slice da dn dc,.slice ta tn tc,.slice ba bn bc],iv er]) (by simp[results,Tryz.results57,go_sem,g0,g1,g2,g3]) rfl ?_;rw[HSS.o];exact⟨.slice da dn dc,.slice ta tn tc,.slice ba bn bc,by simp only[sysV];rw[HSW.o.1,HSW.o.2],HSA2.o,by rw[HZ.o];exact HB4.o⟩
end
section
open Go.RowKit
variable [Base]
theorem Qkj {α:Type}{E:Qlg α}{w:World}{b:Nat}{cs:List Value}{x:α}(h:w.heap[b]? = some (.cells cs.toArray E.T (0,0)))(hc:E.C w cs x):Qoa E w (.slice (some ⟨b,0,none⟩) 1 1) [x]:=
 ⟨[cs],⟨1,1,by simpa using E.len hc,Nat.le_refl _,by unfold maxLen;omega,.inr ⟨b,0,cs.toArray,(0,0),rfl,.of h,fun i _=>by simp⟩⟩,⟨hc,trivial⟩⟩
theorem QEm {w:World}{b:Nat}{x:Int}(h:w.heap[b]? = some (.cells #[iv x] 3 (0,0))):QJa w (.slice (some ⟨b,0,none⟩) 1 1) [x]:=
 ⟨1,1,by simp,Nat.le_refl _,by unfold maxLen;omega,.inr ⟨b,0,#[iv x],(0,0),rfl,.of h,fun i _=>by simp⟩⟩
theorem QJs {w:World}{b:Nat}{x y:Int}(h:w.heap[b]? = some (.cells #[iv x,iv y] CT (0,0))):QKc w (.slice (some ⟨b,0,none⟩) 1 1) [(x,y)]:=
 ⟨1,1,by simp[QHa,copV],Nat.le_refl _,by unfold maxLen;omega,.inr ⟨b,0,#[iv x,iv y],(0,0),rfl,.of h,fun i _=>by simp[QHa,copV]⟩⟩
theorem QKr {B:Nat}{w:World}(kw:KwIn B w)(ef:Qmg B w)(tz:TzIn B w)(hB:B≤w.heap.size):Calls Tryz.prog 15 #[] w (Qia true w):=by
 have hbw:Base.b≤w.heap.size:=by have:=kw.bs;omega
 have KS:=Zh (fun (x:World) (b:Below w.heap.size w x) (kind:Int)=>QBn (B:=B) (kw.keep fun k hk=>b.block k ZO) (ef.below (b.mono ZO)) (tz.below (b.mono ZO)) (by have:=b.size;omega) kind);have K1:=Zh (show Calls Tryz.prog 57 #[.string ⟨#[102,117,110,99,32,109,59,32,98,108,111,99,107,32,98,59,32,120,32,61,32,121,59,32,114,101,116,117,114,110,59,32,101,110,100]⟩,iv 3] w (SysE (QZc Qtc 3,0) w) by
  have h:=KS.o w (Below.refl _ _) 3
  rwa [show ofT Qtc 3=(QZc Qtc 3,0) by unfold ofT;rw[Qlu];rfl] at h)
 have K2:=Zh (show ∀x,Below w.heap.size w x→Calls Tryz.prog 57 #[.string ⟨#[102,117,110,99,32,109,59,32,98,108,111,99,107,32,98,59,32,120,32,61,32,121,59,32,114,101,116,117,114,110,59,32,101,110,100]⟩,iv 2] x (SysE (QZc Qtc 2,0) x) from fun x b=>by
  have h:=KS.o x b 2
  rwa [show ofT Qtc 2=(QZc Qtc 2,0) by unfold ofT;rw[Qmu];rfl] at h)
 clear kw ef tz hB KS;obtain⟨S3,hS3⟩:=Ze (QZc Qtc 3);obtain⟨S2,hS2⟩:=Ze (QZc Qtc 2);have T1:=Zh (hS3▸Qtt);have T2:=Zh (hS3▸Qst);have L1:=Zh (hS2▸Qvt);have L2:=Zh (hS2▸Qut);rw[hS3] at K1;rw[hS2] at K2;clear hS3 hS2;go_enter Tryz.func15,Tryz.ntmps15;go_wp2_with fail;refine K1.o.mono ?_;rintro e w1 ⟨dv,tv,bv,rfl,hs,b1⟩;obtain⟨da,dc,rfl,-⟩:=hs.deps.cell;obtain⟨ta,tc,rfl,-,-,-,htc⟩:=hs.trans.cell;obtain⟨ba,bc,rfl,-⟩:=hs.bnds.cell;obtain⟨dn,hdn⟩:=Ze S3.deps.length;obtain⟨bn,hbn⟩:=Ze S3.bnds.length;obtain⟨sw,hsw⟩:=Ze S3.width;simp only[sysV,hdn,hbn,hsw,T2.o];obtain⟨tb,tof,cs,rfl,htb,⟨gu,ku,cu,rfl,htr⟩,hcs⟩:=htc 1 QOi T1.o;obtain⟨gua,guc,rfl,-⟩:=htr.gen.cell;obtain⟨kua,kuc,rfl,-⟩:=htr.kill.cell;obtain⟨cua,cuc,rfl,-⟩:=htr.cops.cell;simp only[trEl] at hcs;have p0:=hcs 0 ZD;have p1:=hcs 1 ZD;have p2:=hcs 2 ZD;have p3:=hcs 3 ZD;have p4:=hcs 4 ZD;simp only[Nat.add_zero,List.getElem?_cons_zero,List.getElem?_cons_succ,Nat.one_mul] at p0 p1 p2 p3 p4;have HTR:=Zh htr;have HP1:=Zh (And.intro htb (And.intro p0 (And.intro p1 (And.intro p2 (And.intro p3 p4)))));have B1:=Zh b1;obtain⟨q1,hq1⟩:=Ze w1.heap.size;obtain⟨x1,hx1⟩:=Ze (w1.alloc (.cells #[iv sw,.slice da dn dc,.slice (some ⟨tb,tof,none⟩) 4 tc,.slice ba bn bc] SYT));have HX1:=Zh hx1;have A1:=Zh (show Below w1.heap.size w1 x1 by rw[←hx1];exact Zb);have HQ1:=Zh (show x1.heap[q1]? = some (.cells #[iv sw,.slice da dn dc,.slice (some ⟨tb,tof,none⟩) 4 tc,.slice ba bn bc] SYT (0,0)) by rw[←hx1,←hq1];exact heap_alloc_new _ _);have BX1:=Zh (B1.o.trans (A1.o.mono B1.o.size):Below w.heap.size w x1);have HQ1S:=Zh hq1;clear hs htc hcs htr p0 p1 p2 p3 p4 htb b1 hx1 hdn hbn hsw K1;go_upto_region 2 with(fail)
 try rw[hq1]
 rw[show w1.alloc (.cells #[iv sw,.slice da dn dc,.slice (some ⟨tb,tof,none⟩) 4 tc,.slice ba bn bc] SYT)=x1 from HX1.o];clear hq1;go_wp2_with fail;refine(K2.o x1 BX1.o).mono ?_;rintro e w2 ⟨dv,tv,bv,rfl,hs,b2⟩;obtain⟨ea,ec,rfl,-,-,-,hec⟩:=hs.deps.cell;obtain⟨fa,fc,rfl,-⟩:=hs.trans.cell;obtain⟨ga,gc,rfl,-⟩:=hs.bnds.cell;obtain⟨fn,hfn⟩:=Ze S2.trans.length;obtain⟨gn,hgn⟩:=Ze S2.bnds.length;obtain⟨lw,hlw⟩:=Ze S2.width;simp only[sysV,hfn,hgn,hlw,L2.o];obtain⟨eb,eo,cs,rfl,heb,⟨du,rfl,hdu⟩,hcs⟩:=hec 0 [1] L1.o;obtain⟨dua,duc,rfl,-⟩:=hdu.cell;have k0:=hcs 0 (show 0<1 by omega);simp only[Qqc,Nat.add_zero,Nat.mul_one,List.getElem?_cons_zero] at k0;have HDU:=Zh hdu;have HK0:=Zh (And.intro heb k0);have B2:=Zh b2;obtain⟨q2,hq2⟩:=Ze w2.heap.size;obtain⟨x2,hx2⟩:=Ze (w2.alloc (.cells #[iv lw,.slice (some ⟨eb,eo,none⟩) 4 ec,.slice fa fn fc,.slice ga gn gc] SYT));have HX2:=Zh hx2;have A2:=Zh (show Below w2.heap.size w2 x2 by rw[←hx2];exact Zb);have HQ2:=Zh (show x2.heap[q2]? = some (.cells #[iv lw,.slice (some ⟨eb,eo,none⟩) 4 ec,.slice fa fn fc,.slice ga gn gc] SYT (0,0)) by rw[←hx2,←hq2];exact heap_alloc_new _ _);have HQ2S:=Zh hq2;have BX2:=Zh (B2.o.trans (A2.o.mono B2.o.size):Below x1.heap.size x1 x2);clear hs hec hcs hdu k0 heb b2 hx2 hfn hgn hlw K2;go_upto_region 3 with(fail)
 try rw[hq2]
 rw[show w2.alloc (.cells #[iv lw,.slice (some ⟨eb,eo,none⟩) 4 ec,.slice fa fn fc,.slice ga gn gc] SYT)=x2 from HX2.o];clear hq2;have hbx2:Base.b≤x2.heap.size:=by have:=BX1.o.size;have:=BX2.o.size;omega
 obtain⟨a1,ha1⟩:=Ze x2.heap.size;have HA1S:=Zh ha1;obtain⟨x3,hx3⟩:=Ze ((x2.alloc (.cells #[iv 0] 3)).alloc (.cells #[.slice (some ⟨a1,0,none⟩) 1 1] IT));have HX3:=Zh hx3;have A3:=Zh (show Below x2.heap.size x2 x3 by rw[←hx3];exact(Zb).alloc ZS _);have HE1:=Zh (show x3.heap[a1]? = some (.cells #[iv 0] 3 (0,0)) by rw[←hx3,←ha1,Below.heap_alloc _ _ _ ZS];exact heap_alloc_new _ _);have HE2:=Zh (show x3.heap[a1+1]? = some (.cells #[.slice (some ⟨a1,0,none⟩) 1 1] IT (0,0)) by rw[←hx3,←ha1];exact Qda _ _);have hx3s:x3.heap.size=a1+2:=by rw[←hx3,←ha1];simp
 clear hx3;go_wp2_with fail
 try rw[ha1]
 rw[show(x2.alloc (.cells #[iv 0] 3)).alloc (.cells #[.slice (some ⟨a1,0,none⟩) 1 1] IT)=x3 from HX3.o];refine(QXn 0 ZO x3 ZO).mono ?_;rintro e x4 ⟨iu,ju,ku2,rfl,hti,b4⟩;obtain⟨iua,iuc,rfl,-⟩:=hti.gen.cell;obtain⟨jua,juc,rfl,-⟩:=hti.kill.cell;obtain⟨lua,luc,rfl,-⟩:=hti.cops.cell;rw[show trV (idT 0) (.slice iua (idT 0).gen.words.length iuc) (.slice jua (idT 0).kill.words.length juc) (.slice lua (idT 0).cops.length luc)=.agg #[iv 0,.slice iua 0 iuc,iv 0,.slice jua 0 juc,.slice lua 0 luc] from rfl];have HTI:=Zh (show Qja x4 (.slice iua 0 iuc) (.slice jua 0 juc) (.slice lua 0 luc) (idT 0) from hti);have B4:=Zh b4;obtain⟨a3,ha3⟩:=Ze x4.heap.size;obtain⟨x5,hx5⟩:=Ze (x4.alloc (.cells #[iv 0,.slice iua 0 iuc,iv 0,.slice jua 0 juc,.slice lua 0 luc] FNA));have HX5:=Zh hx5;have A5:=Zh (show Below x4.heap.size x4 x5 by rw[←hx5];exact Zb);have HE3:=Zh (show x5.heap[a3]? = some (.cells #[iv 0,.slice iua 0 iuc,iv 0,.slice jua 0 juc,.slice lua 0 luc] FNA (0,0)) by rw[←hx5,←ha3];exact heap_alloc_new _ _);have HTI5:=Zh (HTI.o.below A5.o);have hx5s:x5.heap.size=a3+1:=by rw[←hx5,←ha3];simp
 clear hti b4 hx5;go_wp2_with fail
 try rw[ha3]
 rw[show x4.alloc (.cells #[iv 0,.slice iua 0 iuc,iv 0,.slice jua 0 juc,.slice lua 0 luc] FNA)=x5 from HX5.o];refine(Qjc 0 ZO x5).mono ?_;rintro e x6 ⟨u,rfl,ho,b6⟩;obtain⟨oa,oc,rfl,-⟩:=ho.words.cell;rw[show setV (Qy 0) (.slice oa (Qy 0).words.length oc)=.agg #[iv 0,.slice oa 0 oc] from rfl];have HO6:=Zh (show Qi x6 (.slice oa 0 oc) [] from ho.words);have B6:=Zh b6;have HTI6:=Zh (HTI5.o.below b6);have HE36:=Zh (Qc HE3.o b6 (Qb HE3.o));obtain⟨a4,ha4⟩:=Ze x6.heap.size;obtain⟨x7,hx7⟩:=Ze ((x6.alloc (.cells #[iv 0,.slice oa 0 oc] ST)).alloc (.cells #[iv 0,.slice (some ⟨a1+1,0,none⟩) 1 1,.slice (some ⟨a3,0,none⟩) 1 1,.slice (some ⟨a4,0,none⟩) 1 1] SYT));have HX7:=Zh hx7;have A7:=Zh (show Below x6.heap.size x6 x7 by rw[←hx7];exact(Zb).alloc ZS _);have HE4:=Zh (show x7.heap[a4]? = some (.cells #[iv 0,.slice oa 0 oc] ST (0,0)) by rw[←hx7,←ha4,Below.heap_alloc _ _ _ ZS];exact heap_alloc_new _ _);have HQ3:=Zh (show x7.heap[a4+1]? = some (.cells #[iv 0,.slice (some ⟨a1+1,0,none⟩) 1 1,.slice (some ⟨a3,0,none⟩) 1 1,.slice (some ⟨a4,0,none⟩) 1 1] SYT (0,0)) by rw[←hx7,←ha4];exact Qda _ _);have BX7:=Zh (show Below x2.heap.size x2 x7 from(A3.o.trans ((B4.o.mono A3.o.size).trans ((A5.o.mono (by have:=B4.o.size;have:=A3.o.size;omega)).trans ((B6.o.mono (by have:=B4.o.size;have:=A3.o.size;have:=A5.o.size;omega)).trans (A7.o.mono (by have:=B4.o.size;have:=A3.o.size;have:=A5.o.size;have:=B6.o.size;omega)))))));have B37:=Zh (show Below x3.heap.size x3 x7 from(B4.o.trans ((A5.o.mono B4.o.size).trans ((B6.o.mono (by have:=B4.o.size;have:=A5.o.size;omega)).trans (A7.o.mono (by have:=B4.o.size;have:=A5.o.size;have:=B6.o.size;omega))))));have HONE:=Zh (show QKd x7 (.slice (some ⟨a1+1,0,none⟩) 1 1) (.slice (some ⟨a3,0,none⟩) 1 1) (.slice (some ⟨a4,0,none⟩) 1 1) oneS from by
  have e1:=Qc HE1.o B37.o (Qb HE1.o);have e2:=Qc HE2.o B37.o (Qb HE2.o);have e3:=Qc HE36.o A7.o (Qb HE36.o);exact⟨Qkj (E:=Qqc) (cs:=[.slice (some ⟨a1,0,none⟩) 1 1]) e2 ⟨_,rfl,QEm e1⟩,Qkj (E:=trEl) (cs:=[iv 0,.slice iua 0 iuc,iv 0,.slice jua 0 juc,.slice lua 0 luc]) e3 ⟨_,_,_,rfl,HTI6.o.below A7.o⟩,
   Qkj (E:=Qsa) (cs:=[iv 0,.slice oa 0 oc]) HE4.o ⟨_,rfl,HO6.o.below A7.o⟩⟩)
 have HA4S:=Zh ha4;clear ho b6 hx7 ha3;go_upto_region 4 with(fail)
 try rw[ha4]
 rw[show(x6.alloc (.cells #[iv 0,.slice oa 0 oc] ST)).alloc (.cells #[iv 0,.slice (some ⟨a1+1,0,none⟩) 1 1,.slice (some ⟨a3,0,none⟩) 1 1,.slice (some ⟨a4,0,none⟩) 1 1] SYT)=x7 from HX7.o];clear ha4 ha1;have HQ27:=Zh (Qc HQ2.o BX7.o (Qb HQ2.o));have BX17:=Zh (BX2.o.trans (BX7.o.mono BX2.o.size):Below x1.heap.size x1 x7);have HQ17:=Zh (Qc HQ1.o BX17.o (Qb HQ1.o));obtain⟨s0,s1,s2,s3⟩:=Qt HQ17.o;obtain⟨l0,l1,l2,l3⟩:=Qt HQ27.o;have hbx7:Base.b≤x7.heap.size:=by have:=BX7.o.size;omega
 go_wp2_with fail;clear s0 s1 s2 s3 l0 l1 l2 l3;refine(Qjc 2 ZO x7).mono ?_;rintro e y1 ⟨u,rfl,ho,b8⟩;obtain⟨pa,pc,rfl,-⟩:=ho.words.cell;rw[show setV (Qy 2) (.slice pa (Qy 2).words.length pc)=.agg #[iv 2,.slice pa 1 pc] from rfl];have HP:=Zh (show Qi y1 (.slice pa 1 pc) [0] from ho.words);have C1:=Zh b8;clear ho b8;go_wp2_with fail;refine(Qjc 2 ZO y1).mono ?_;rintro e y2 ⟨u,rfl,ho,b9⟩;obtain⟨ra,rc,rfl,-⟩:=ho.words.cell;rw[show setV (Qy 2) (.slice ra (Qy 2).words.length rc)=.agg #[iv 2,.slice ra 1 rc] from rfl];have HRR:=Zh (show Qi y2 (.slice ra 1 rc) (Qy 2).words from ho.words);have C2:=Zh (C1.o.trans (b9.mono C1.o.size));have HP2:=Zh (HP.o.below b9);have KP:=Zh (Qvp (Qy 2) 0 (.slice ra 1 rc) y2 (QZb ZO) ZD HRR.o);rw[show setV (Qy 2) (.slice ra 1 rc)=.agg #[iv 2,.slice ra 1 rc] from rfl] at KP;clear ho b9;go_wp2_with fail;refine KP.o.mono ?_;rintro e y3 ⟨u,rfl,ho,b10⟩;obtain⟨va,vc,rfl,-⟩:=ho.words.cell;rw[show setV (putS (Qy 2) 0) (.slice va (putS (Qy 2) 0).words.length vc)=.agg #[iv 2,.slice va 1 vc] from rfl];have HV:=Zh (show Qi y3 (.slice va 1 vc) [1] from ho.words);have C3:=Zh (C2.o.trans (b10.mono C2.o.size));have HP3:=Zh (HP2.o.below b10);obtain⟨a5,ha5⟩:=Ze y3.heap.size;obtain⟨V,hV⟩:=Ze ((y3.alloc (.cells #[iv 1,iv 0] CT)).alloc (.cells #[iv 2,.slice pa 1 pc,iv 2,.slice va 1 vc,.slice (some ⟨a5,0,none⟩) 1 1] FNA));have HVV:=Zh hV;have AV:=Zh (show Below y3.heap.size y3 V by rw[←hV];exact(Zb).alloc ZS _);have HE5:=Zh (show V.heap[a5]? = some (.cells #[iv 1,iv 0] CT (0,0)) by rw[←hV,←ha5,Below.heap_alloc _ _ _ ZS];exact heap_alloc_new _ _);have HQ4:=Zh (show V.heap[a5+1]? = some (.cells #[iv 2,.slice pa 1 pc,iv 2,.slice va 1 vc,.slice (some ⟨a5,0,none⟩) 1 1] FNA (0,0)) by rw[←hV,←ha5];exact Qda _ _);have C4:=Zh (C3.o.trans (AV.o.mono C3.o.size):Below x7.heap.size x7 V);have HWT:=Zh (show Qja V (.slice pa 1 pc) (.slice va 1 vc) (.slice (some ⟨a5,0,none⟩) 1 1) QOi from⟨HP3.o.below AV.o,HV.o.below AV.o,QJs HE5.o⟩);clear ho b10 hV KP;go_upto_region 7 with(fail)
 try rw[ha5]
 rw[show(y3.alloc (.cells #[iv 1,iv 0] CT)).alloc (.cells #[iv 2,.slice pa 1 pc,iv 2,.slice va 1 vc,.slice (some ⟨a5,0,none⟩) 1 1] FNA)=V from HVV.o];clear ha5;have BV1:=Zh (BX17.o.trans (C4.o.mono BX17.o.size):Below x1.heap.size x1 V);have BV2:=Zh (BX7.o.trans (C4.o.mono BX7.o.size):Below x2.heap.size x2 V);have BVW:=Zh (BX1.o.trans (BV1.o.mono BX1.o.size):Below w.heap.size w V);have HSS:=Zh (show ∀w',Below V.heap.size V w'→(w'.cell? ⟨q1,2,none⟩=some (.slice (some ⟨tb,tof,none⟩) 4 tc)∧w'.cell? ⟨tb,tof+5,none⟩=some (iv 2)∧w'.cell? ⟨tb,tof+5+1,none⟩=some (.slice gua 1 guc)∧w'.cell? ⟨tb,tof+5+2,none⟩=some (iv 2)∧w'.cell? ⟨tb,tof+5+3,none⟩=some (.slice kua 1 kuc)∧w'.cell? ⟨tb,tof+5+4,none⟩=some (.slice cua 1 cuc)∧w'.cell? ⟨a5+1,0,none⟩=some (iv 2)∧w'.cell? ⟨a5+1,1,none⟩=some (.slice pa 1 pc)∧w'.cell? ⟨a5+1,2,none⟩=some (iv 2)∧w'.cell? ⟨a5+1,3,none⟩=some (.slice va 1 vc)∧w'.cell? ⟨a5+1,4,none⟩=some (.slice (some ⟨a5,0,none⟩) 1 1)∧w'.cell? ⟨q2,1,none⟩=some (.slice (some ⟨eb,eo,none⟩) 4 ec)∧w'.cell? ⟨eb,eo,none⟩=some (.slice dua 1 duc)∧w'.cell? ⟨a4+1,0,none⟩=some (iv 0)∧w'.cell? ⟨a4+1,1,none⟩=some (.slice (some ⟨a1+1,0,none⟩) 1 1)∧w'.cell? ⟨a4+1,2,none⟩=some (.slice (some ⟨a3,0,none⟩) 1 1)∧w'.cell? ⟨a4+1,3,none⟩=some (.slice (some ⟨a4,0,none⟩) 1 1)) from fun w' h=>by
  have z1:Below x1.heap.size x1 w':=BV1.o.trans (h.mono BV1.o.size);have z2:Below x2.heap.size x2 w':=BV2.o.trans (h.mono BV2.o.size);have z7:Below x7.heap.size x7 w':=C4.o.trans (h.mono C4.o.size);have zw1:Below w1.heap.size w1 w':=A1.o.trans (z1.mono A1.o.size);have zw2:Below w2.heap.size w2 w':=A2.o.trans (z2.mono A2.o.size);obtain⟨-,-,u2,-⟩:=Qt (Qc HQ1.o z1 (Qb HQ1.o));obtain⟨-,v1,-,-⟩:=Qt (Qc HQ2.o z2 (Qb HQ2.o));obtain⟨o0,o1,o2,o3⟩:=Qt (Qc HQ3.o z7 (Qb HQ3.o));obtain⟨f0,f1,f2,f3,f4⟩:=QJ (Qc HQ4.o h (Qb HQ4.o));obtain⟨htb,p0,p1,p2,p3,p4⟩:=HP1.o;obtain⟨heb,k0⟩:=HK0.o;exact⟨u2,(zw1.cell (p:=⟨tb,tof+5,none⟩) htb).trans p0,(zw1.cell (p:=⟨tb,tof+5+1,none⟩) htb).trans p1,(zw1.cell (p:=⟨tb,tof+5+2,none⟩) htb).trans p2,(zw1.cell (p:=⟨tb,tof+5+3,none⟩) htb).trans p3,(zw1.cell (p:=⟨tb,tof+5+4,none⟩) htb).trans p4,
   f0,f1,f2,f3,f4,v1,(zw2.cell (p:=⟨eb,eo,none⟩) heb).trans k0,o0,o1,o2,o3⟩)
 have KE:=Zh (show ∀w',Below V.heap.size V w'→Calls Tryz.prog 20 #[.agg #[iv 2,.slice gua 1 guc,iv 2,.slice kua 1 kuc,.slice cua 1 cuc],.agg #[iv 2,.slice pa 1 pc,iv 2,.slice va 1 vc,.slice (some ⟨a5,0,none⟩) 1 1]] w' (Qia true w') from fun w' h=>by
  have z1:Below w1.heap.size w1 w':=(A1.o.trans (BV1.o.mono A1.o.size)).trans (h.mono (by have:=A1.o.size;have:=BV1.o.size;omega));have h1:=Qdm QOi QOi (.slice gua 1 guc) (.slice kua 1 kuc) (.slice cua 1 cuc) (.slice pa 1 pc) (.slice va 1 vc) (.slice (some ⟨a5,0,none⟩) 1 1) w' (HTR.o.below z1) (HWT.o.below h);rw[Qjt] at h1;exact h1)
 have KI:=Zh (show ∀w' w'',Below V.heap.size V w'→w'.heap.size=w'.heap.size→Below w'.heap.size w' w''→∀a6,w''.heap[a6]? = some (.cells #[iv 1] 3 (0,0))→Calls Tryz.prog 59 #[.slice dua 1 duc,.slice (some ⟨a6,0,none⟩) 1 1] w'' (Qia true w'') from fun w' w'' h _ h2 a6 h6=>by
  have z2:Below w2.heap.size w2 w'':=((A2.o.trans (BV2.o.mono A2.o.size)).trans (h.mono (by have:=A2.o.size;have:=BV2.o.size;omega))).trans (h2.mono (by have:=A2.o.size;have:=BV2.o.size;have:=h.size;omega));have h1:=Qqs [1] [1] (.slice dua 1 duc) (.slice (some ⟨a6,0,none⟩) 1 1) w'' (Qg.same HDU.o (Qf.below z2)) (QEm h6)
  simpa using h1)
 have KV:=Zh (show ∀w',Below V.heap.size V w'→Calls Tryz.prog 18 #[.agg #[iv 0,.slice (some ⟨a1+1,0,none⟩) 1 1,.slice (some ⟨a3,0,none⟩) 1 1,.slice (some ⟨a4,0,none⟩) 1 1]] w' (Qia true w') from fun w' h=>
  QVh Qpu (HONE.o.below (C4.o.trans (h.mono C4.o.size))))
 have KD:=Zh (show ∀w',Below V.heap.size V w'→Calls Tryz.prog 60 #[.agg #[iv 0,.slice (some ⟨a1+1,0,none⟩) 1 1,.slice (some ⟨a3,0,none⟩) 1 1,.slice (some ⟨a4,0,none⟩) 1 1]] w' (IntQ 1 w') from fun w' h=>by
  have h1:=QTo oneS one_w _ _ _ w' (HONE.o.below (C4.o.trans (h.mono C4.o.size)));rw[QIq] at h1;exact h1)
 refine Zr (fun w'=>w'.cell? ⟨q1,2,none⟩=some (.slice (some ⟨tb,tof,none⟩) 4 tc)∧w'.cell? ⟨tb,tof+5,none⟩=some (iv 2)∧w'.cell? ⟨tb,tof+5+1,none⟩=some (.slice gua 1 guc)∧w'.cell? ⟨tb,tof+5+2,none⟩=some (iv 2)∧w'.cell? ⟨tb,tof+5+3,none⟩=some (.slice kua 1 kuc)∧w'.cell? ⟨tb,tof+5+4,none⟩=some (.slice cua 1 cuc)∧w'.cell? ⟨a5+1,0,none⟩=some (iv 2)∧w'.cell? ⟨a5+1,1,none⟩=some (.slice pa 1 pc)∧w'.cell? ⟨a5+1,2,none⟩=some (iv 2)∧w'.cell? ⟨a5+1,3,none⟩=some (.slice va 1 vc)∧w'.cell? ⟨a5+1,4,none⟩=some (.slice (some ⟨a5,0,none⟩) 1 1)∧w'.cell? ⟨q2,1,none⟩=some (.slice (some ⟨eb,eo,none⟩) 4 ec)∧w'.cell? ⟨eb,eo,none⟩=some (.slice dua 1 duc)∧w'.cell? ⟨a4+1,0,none⟩=some (iv 0)∧w'.cell? ⟨a4+1,1,none⟩=some (.slice (some ⟨a1+1,0,none⟩) 1 1)∧w'.cell? ⟨a4+1,2,none⟩=some (.slice (some ⟨a3,0,none⟩) 1 1)∧w'.cell? ⟨a4+1,3,none⟩=some (.slice (some ⟨a4,0,none⟩) 1 1)) 24 (HSS.o (V.drewN 1) (Qp (Below.refl _ _) 1)) fun hS0=>?_
 refine Yn 0 46 ?_;refine Yn 1 47 ?_;refine Yn 2 48 ?_;refine Yn 3 49 ?_;refine Yn 4 50 ?_;refine QP 5 (some 51) 20 #[.agg #[iv 2,.slice gua 1 guc,iv 2,.slice kua 1 kuc,.slice cua 1 cuc],.agg #[iv 2,.slice pa 1 pc,iv 2,.slice va 1 vc,.slice (some ⟨a5,0,none⟩) 1 1]] rfl ZK ZK ZK rfl ?_;refine(KE.o (V.drewN 1) (Qp (Below.refl _ _) 1)).mono ?_;rintro e m1 ⟨rfl,b1⟩;have BB1:=Zh ((Qp (Below.refl _ _) 1).trans b1:Below V.heap.size V m1);clear hS0 b1;have hS0:=HSS.o _ BB1.o;refine⟨_,rfl,fun _=>hS0,?_⟩;refine Yn 6 52 ?_;refine Yn 7 53 ?_;refine Yn 8 54 ?_;refine Yn 9 55 ?_;refine Yn 10 56 ?_;have AL:=Zh (show Below m1.heap.size m1 (m1.alloc (.cells #[iv 1] 3)) from Zb);have BBA:=Zh (BB1.o.trans (AL.o.mono BB1.o.size):Below V.heap.size V (m1.alloc (.cells #[iv 1] 3)));clear hS0;have hS0:=HSS.o _ BBA.o;refine QW 11 (some 57) (.slice (some ⟨m1.heap.size,0,none⟩) 1 1) (m1.alloc (.cells #[iv 1] 3)) rfl ZK ZK ?rva rfl (fun _=>hS0) ?_
 case rva=>go_simp
 refine QP 12 (some 58) 59 #[.slice dua 1 duc,.slice (some ⟨m1.heap.size,0,none⟩) 1 1] rfl ZK ZK ZK rfl ?_;refine(KI.o m1 (m1.alloc (.cells #[iv 1] 3)) BB1.o rfl AL.o m1.heap.size (heap_alloc_new _ _)).mono ?_;rintro e m2 ⟨rfl,b2⟩;have BB2:=Zh (BBA.o.trans (b2.mono BBA.o.size));clear hS0 b2;have hS0:=HSS.o _ BB2.o;refine⟨_,rfl,fun _=>hS0,?_⟩;refine Yn 13 59 ?_;refine Yn 14 60 ?_;refine Yn 15 61 ?_;refine QP 16 (some 62) 18 #[.agg #[iv 0,.slice (some ⟨a1+1,0,none⟩) 1 1,.slice (some ⟨a3,0,none⟩) 1 1,.slice (some ⟨a4,0,none⟩) 1 1]] rfl ZK ZK ZK rfl ?_;refine(KV.o m2 BB2.o).mono ?_;rintro e m3 ⟨rfl,b3⟩;have BB3:=Zh (BB2.o.trans (b3.mono BB2.o.size));clear hS0 b3;have hS0:=HSS.o _ BB3.o;refine⟨_,rfl,fun _=>hS0,?_⟩;refine Yn 17 63 ?_;refine Yn 18 64 ?_;refine Yn 19 65 ?_;refine QP 20 (some 66) 60 #[.agg #[iv 0,.slice (some ⟨a1+1,0,none⟩) 1 1,.slice (some ⟨a3,0,none⟩) 1 1,.slice (some ⟨a4,0,none⟩) 1 1]] rfl ZK ZK ZK rfl ?_;refine(KD.o m3 BB3.o).mono ?_;rintro e m4 ⟨rfl,b4⟩;have BB4:=Zh (BB3.o.trans (b4.mono BB3.o.size));clear hS0 b4;have hS0:=HSS.o _ BB4.o;refine⟨_,rfl,fun _=>hS0,?_⟩;refine Yn 21 67 ?_;refine Yn 22 68 ?_;refine Yn 23 0 ?_;refine Qu ZK ?_ _;generalize hA:Act.put _ _ _=A0;simp only[Qba,Qaa,Zu,Zv,Zw] at hA;subst hA;go_wp2;go_ret;exact⟨rfl,BVW.o.trans (BB4.o.mono BVW.o.size)⟩
end
end Go.Proofs.YtijekimobahgpaaGreatDoor
