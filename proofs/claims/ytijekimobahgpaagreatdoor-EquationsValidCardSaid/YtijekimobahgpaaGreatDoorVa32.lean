/- A part of the proof. -/
import Derived.Test.YtijekimobahgpaaGreatDoorVa31
import Derived.WalkMore
import Derived.ChangeAlike
import Derived.Laws.EntriesVeiled
import Derived.Lib.Strings
set_option linter.unusedVariables false
set_option linter.unusedSimpArgs false
set_option linter.unusedSectionVars false
set_option maxRecDepth 100000
set_option maxHeartbeats 16000000
namespace Go.Proofs.YtijekimobahgpaaGreatDoor
section
namespace R
open Go.RowKit
variable [Base]
structure LpL (U E:TypeId)(esz B bp R bb:Nat)(zR:Obj)(pre:List Value)(T:List Tok)(w0:World)(s:PS)(w:World)(v:Value)(n:Nat)(xs:List Value):Prop where
 p:PSt B bp T s w
 but:But bp w0 w
 lt:bp<w0.heap.size
 ne:R≠bp
 rb:R<bb
 ge:w0.heap.size≤bb
 res:w.heap[R]? = some zR
 loc:w.heap[bb]? = some (.cells (pre++[v]).toArray U (0,0))
 own:w.ownsRow (bb+1) E esz v n xs
section
variable {U E:TypeId} {esz B bp R bb:Nat} {zR:Obj} {pre:List Value} {T:List Tok} {w0 w w':World} {s s':PS} {v:Value} {n:Nat} {xs:List Value}
theorem LpL.call (h:LpL U E esz B bp R bb zR pre T w0 s w v n xs)(hp:PSt B bp T s' w')(hb:But bp w w'):LpL U E esz B bp R bb zR pre T w0 s' w' v n xs:=
 ⟨hp,h.but.trans hb,h.lt,h.ne,h.rb,h.ge,hb.blk h.res h.ne,hb.blk h.loc (by have:=h.lt;have:=h.ge;omega),Qvc h.own hb (by have:=h.lt;have:=h.ge;omega)⟩
theorem LpL.drewN (h:LpL U E esz B bp R bb zR pre T w0 s w v n xs)(k:Nat):LpL U E esz B bp R bb zR pre T w0 s (w.drewN k) v n xs:=h.call (h.p.drewN k) ((But.refl _ _).drewN k)
theorem LpL.same (h:LpL U E esz B bp R bb zR pre T w0 s w v n xs){ts:List TypeId}(ht:227∉ts)(hb:But bp w w'):QBe ts w w':=fun t hm=>Qf.but hb (by rw[h.p.ty];intro e;injection e with e;exact ht (e▸hm)) (by have:=h.p.kw.bs;have:=h.p.ge;omega)
theorem LpL.lth (h:LpL U E esz B bp R bb zR pre T w0 s w v n xs):bb+1≤w.heap.size:=Qb h.loc
theorem LpL.cell1 (h:LpL U E esz B bp R bb zR pre T w0 s w v n xs)(hg:w.grownBy w' v.ownBlock):w'.heap[bb]? = some (.cells (pre++[v]).toArray U (0,0)):=
 ((Below.of_grown hg h.own h.lth).block bb ZO).trans h.loc
theorem LpL.push (h:LpL U E esz B bp R bb zR pre T w0 s w v n xs){news:List Value}{v':Value}(ho:w'.ownsRow (bb+1) E esz v' (n+1) (xs++news))(hg:w.grownBy w' v.ownBlock)(hUT:232≠U)(hET:232≠E)(f:Nat)(hf:f=pre.length):
  LpL U E esz B bp R bb zR pre T w0 s (w'.setCell ⟨bb,f,none⟩ v') v' (n+1) (xs++news):=by
 subst hf;have hlt:=h.lt;have hge:=h.ge;have hrb:=h.rb;have hpg:=h.p.ge;have hbs:=h.p.kw.bs;have hl1:=h.lth;have hbel:=Below.of_grown hg h.own h.lth;have c1:=h.cell1 hg;refine⟨?_,?_,hlt,h.ne,hrb,hge,?_,?_,?_⟩
 ·exact(h.p.grown hg h.own hET ZO h.lth).setOther (Qv c1) hUT ZO ZO _
 ·exact(h.but.belowB hbel ZO).setCell _ (.inr hge) _
 ·exact(Below.heap_setCell _ _ _ _ (by show R≠bb;omega)).trans ((hbel.block R ZO).trans h.res)
 ·simp[World.setCell,Array.getElem?_modify,c1]
 ·exact ownsRow_setCell_below ho (by show bb<bb+1;omega) _
theorem LpL.pushSame (h:LpL U E esz B bp R bb zR pre T w0 s w v n xs){ts:List TypeId}(hE:E∉ts)(hU:U∉ts)(hg:w.grownBy w' v.ownBlock)(f:Nat)(x:Value):QBe ts w (w'.setCell ⟨bb,f,none⟩ x):=fun t hm=>
 (Qf.grown hg h.own (fun e=>hE (e▸hm)) (by have:=h.p.kw.bs;have:=h.p.ge;have:=h.lt;have:=h.ge;omega)).trans (Qf.setCell (U:=U) (Qv (h.cell1 hg) (by show Base.b≤bb;have:=h.p.kw.bs;have:=h.p.ge;have:=h.lt;have:=h.ge;omega)) (fun e=>hU (e▸hm)))
end
theorem LpL.store2 {U E:TypeId}{esz B bp R bb:Nat}{zR:Obj}{pre:List Value}{T:List Tok}{w0 w:World}{s:PS}{v:Value}{n:Nat}{xs:List Value}(h:LpL U E esz B bp R bb zR pre T w0 s w v n xs)(hUT:232≠U)(hR:tyAt w R=some U)(hR0:w0.heap.size=R)(x0 x1:Value):
  PSt B bp T s ((w.setCell ⟨R,0,none⟩ x0).setCell ⟨R,1,none⟩ x1)∧But bp w0 ((w.setCell ⟨R,0,none⟩ x0).setCell ⟨R,1,none⟩ x1):=by
 have hlt:=h.lt;have hpg:=h.p.ge;have hbs:=h.p.kw.bs;exact⟨(h.p.setOther hR hUT h.ne ZO _).setOther (by rw[QSg];exact hR) hUT h.ne ZO _,(h.but.setCell _ (.inr (by show w0.heap.size≤R;omega)) _).setCell _ (.inr (by show w0.heap.size≤R;omega)) _⟩
def QUj (B bp:Nat)(T:List Tok)(s:PS)(w:World)(e:Ending)(w':World):Prop:=
 ∃v,e=.returned (.agg #[sv (Qhc T Qua s),v])∧v.oneCell'=true∧PSt B bp T (Qmb T s).2 w'∧But bp w w'∧((Qmb T s).2.err=0→QKa w' [sv (Qhc T Qua s),v] (Qmb T s).1)
def QSj (B bp:Nat)(T:List Tok)(s:PS)(w:World)(e:Ending)(w':World):Prop:=
 ∃v,e=.returned (.agg #[sv (Qhc T Qrb s),v])∧v.oneCell'=true∧PSt B bp T (QHc T s).2 w'∧But bp w w'∧((QHc T s).2.err=0→Qab w' [sv (Qhc T Qrb s),v] (QHc T s).1)
theorem LpL.name {U E:TypeId}{esz B bp R bb:Nat}{zR:Obj}{x:Value}{T:List Tok}{w0 w:World}{s:PS}{v:Value}{n:Nat}{xs:List Value}(h:LpL U E esz B bp R bb zR [x] T w0 s w v n xs)(hUT:232≠U)(y:Value):LpL U E esz B bp R bb zR [y] T w0 s (w.setCell ⟨bb,0,none⟩ y) v n xs:=by
 have hlt:=h.lt;have hge:=h.ge;have hrb:=h.rb;have hpg:=h.p.ge;have hbs:=h.p.kw.bs;refine⟨h.p.setOther (Qv h.loc) hUT ZO ZO _,h.but.setCell _ (.inr hge) _,hlt,h.ne,hrb,hge,?_,?_,?_⟩
 ·exact(Below.heap_setCell _ _ _ _ (by show R≠bb;omega)).trans h.res
 ·have:=h.loc;exact Qof this y
 ·exact ownsRow_setCell_below h.own (by show bb<bb+1;omega) _
def LpIn {X:Type}(Cells:World→List Value→X→Prop)(bg:PS→Bool)(st:PS→X×PS)(U E:TypeId)(esz B bp R bb mx:Nat)(zR:Obj)(pre:List Value)(T:List Tok)(RM:List X×PS)(w0:World)(g:Nat)(w:World):Prop:=
 ∃s v n xs,LpL U E esz B bp R bb zR pre T w0 s w v n xs∧g+n=mx+2∧Md bg st RM mx n s (Qhf Cells w xs)
theorem Md.full {X:Type}{bg:PS→Bool}{st:PS→X×PS}{R:List X×PS}{mx:Nat}{s:PS}{OK:List X→Prop}(herr:∀s:PS,s.err≠0→bg s=false)(h:Md bg st R mx mx s OK)(hb:bg s=true):R.2=s.fail 7∧(s.fail 7).err≠0:=by
 rcases h with⟨m,acc,h1,h2,h3,h4⟩|⟨h1,_⟩
 ·obtain rfl:m=0:=by omega
  rw[Qxj hb] at h1;rw[←h1];exact⟨rfl,Qfd s ZD⟩
 ·rw[herr s h1] at hb;cases hb
theorem Md.start {X:Type}{bg:PS→Bool}{st:PS→X×PS}{R:List X×PS}{mx:Nat}{s:PS}{OK:List X→Prop}(hR:QSb bg st mx [] s=R)(hOK:OK []):Md bg st R mx 0 s OK:=.inl ⟨mx,[],hR,rfl,by omega,hOK⟩
theorem Md.le {X:Type}{bg:PS→Bool}{st:PS→X×PS}{R:List X×PS}{mx n:Nat}{s:PS}{OK:List X→Prop}(herr:∀s:PS,s.err≠0→bg s=false)(h:Md bg st R mx n s OK)(hb:bg s=true):n≤mx:=by
 rcases h with⟨m,acc,h1,h2,h3,h4⟩|⟨h1,_⟩
 ·omega
 ·rw[herr s h1] at hb;cases hb
theorem QQk {B bp:Nat}{T:List Tok}{s:PS}{w:World}(h:PSt B bp T s w)(hT:T.length≤1000000):
  Calls Tryz.prog 223 #[.pointer (some ⟨bp,0,none⟩)] w (QUj B bp T s w):=by
 have hlt:=h.lt;have hge:=h.ge;have L0:Hid (LpL 92 94 4 B bp w.heap.size (w.heap.size+1) (.cells #[.string ⟨#[]⟩,.slice none 0 0] 92 (0,0)) [.string ⟨#[]⟩] T w s ((w.alloc (.cells #[.string ⟨#[]⟩,.slice none 0 0] 92)).alloc (.cells #[.string ⟨#[]⟩,.slice none 0 0] 92)) (.slice none 0 0) 0 []):=⟨(h.alloc _).alloc _,((But.refl _ _).alloc _).alloc _,hlt,by omega,by omega,by omega,Qfa _ (heap_alloc_new _ _),by have h2:=heap_alloc_new (w.alloc (.cells #[.string ⟨#[]⟩,.slice none 0 0] 92)) (.cells #[.string ⟨#[]⟩,.slice none 0 0] 92);rw[World.size_alloc] at h2;exact h2,World.ownsRow_nil _ _ _ _⟩;clear h;go_enter Tryz.func223,Tryz.ntmps223;go_wp2_with fail;refine(QOg L0.o.p hT Qua).mono ?_;rintro e v1 ⟨rfl,hp,hb⟩;have L1:=Zh (L0.o.call hp hb);clear hp hb;obtain⟨s1,hs1⟩:=Ze (QBb (isW T Qua s) s);rw[hs1] at L1;have HS1:=Zh hs1;clear hs1;go_wp2_with fail;refine(name_any L1.o.p hT).mono ?_;rintro e v2 ⟨rfl,hp,hb⟩;have L2:=Zh (L1.o.call hp hb);clear hp hb;obtain⟨nm,hnm⟩:=Ze (Qib T s1);rw[hnm];have HNM:=Zh hnm;clear hnm;have c0:=(Qd L2.o.loc).1 0;have cf:=(Qd L2.o.loc).2;simp at c0;have L3:=Zh (L2.o.name ZD (sv nm));go_wp2_with fail;refine(QFc L3.o.p hT).mono ?_;rintro e v4 ⟨rfl,hp,hb⟩;have L4:=Zh (L3.o.call hp hb);clear hp hb;clear c0 cf;have hs5:endM T (Qhb T s1)=Qfg T Qua s:=by unfold Qfg;rw[HS1.o]
 rw[hs5] at L4;clear hs5;obtain⟨s4,hs4⟩:=Ze (Qfg T Qua s);rw[hs4] at L4;have HS4:=Zh hs4;clear hs4;go_wp2_with fail;refine(QLg L4.o.p).mono ?_;rintro e v5 ⟨rfl,hp,hb⟩;have L5:=Zh (L4.o.call hp hb);clear hp hb;obtain⟨s5,hs5⟩:=Ze ((if (QY T) s4=true then s4 else s4.fail 4));have HS5:=Zh hs5;obtain⟨RM,hRM⟩:=Ze (QSb (QY T) (stS T) 32 [] s5);have HRM:=Zh hRM;clear hRM
 cases hb0:(QY T) s4
 ·have HB0:=Zh hb0;rw[hb0,if_neg ZD] at hs5;clear hb0;go_wp2_with fail;refine(Qtb L5.o.p 4 ZD).mono ?_;rintro e v6 ⟨rfl,hp,hb⟩;have L6:=Zh (L5.o.call hp hb);clear hp hb;rw[hs5] at L6;clear hs5;have I0:Hid (LpIn QZa (QY T) (stS T) 92 94 4 B bp w.heap.size (w.heap.size+1) 32 (.cells #[.string ⟨#[]⟩,.slice none 0 0] 92 (0,0)) [sv nm] T RM w 34 v6):=⟨s5,.slice none 0 0,0,[],L6.o,rfl,Md.start HRM.o ⟨[],rfl,trivial⟩⟩;clear L6;go_wp2;go_loopg [] 34 (fun g wr=>Hid (LpIn QZa (QY T) (stS T) 92 94 4 B bp w.heap.size (w.heap.size+1) 32 (.cells #[.string ⟨#[]⟩,.slice none 0 0] 92 (0,0)) [sv nm] T RM w g wr))
  case atStart=>exact I0
  case round=>
   obtain⟨s6,v,n,xs,l6,hgn,md⟩:=hrel.o;obtain⟨va,vc,rfl⟩:=Qkd l6.own;have L6:=Zh l6;have MD:=Zh md;clear l6 md hrel I0;go_wp2_with fail;refine(QLg L6.o.p).mono ?_;rintro e v7 ⟨rfl,hp,hb⟩;have L7:=Zh (L6.o.call hp hb);have K7:=Zh (L6.o.same (ts:=[9]) ZD hb);clear hp hb
   cases hbg:(QY T) s6
   ·have HBG:=Zh hbg;clear hbg;obtain⟨hr2,hok⟩:=Hd.done (show Hd _ _ RM 32 n s6 _ false from .inl ⟨HBG.o.symm,MD.o⟩);have HR2:=Zh hr2;have HOK:=Zh hok;clear hr2 hok MD;have KX:=Zh K7.o;have c1:=(Qd L7.o.loc).1 1;have c0:=(Qd L7.o.loc).1 0;have cf:=(Qd L7.o.loc).2;have r0:=(Qd L7.o.res).1 0;have r1:=(Qd L7.o.res).1 1;have rf:=(Qd L7.o.res).2;simp at c0 c1 r0 r1;go_wp2;have G:=QBf (Qof L7.o.res (sv nm)) (.slice va n vc);have ⟨gc,_⟩:=Qd G;have ⟨q1,q2⟩:=L7.o.store2 ZD (Qv L7.o.res (by have:=L7.o.p.kw.bs;have:=L7.o.p.ge;have:=L7.o.lt;omega)) rfl (sv nm) (.slice va n vc);refine bodyPost_ret (v:=.agg #[sv nm,.slice va n vc]) ?_ rfl ?_
    ·simp[results,Tryz.results223,go_sem,gc]
    have hv:Qhc T Qua s=nm:=by unfold Qhc;rw[HS1.o,HNM.o]
    have hM:Qmb T s=(⟨nm,RM.1⟩,RM.2):=by
     unfold Qmb;dsimp only;rw[hv,HS4.o,HS5.o,QWc];rw[show QSb (QY T) (stS T) 32 [] s5=RM from HRM.o]
    unfold QUj;rw[hM,hv];refine⟨_,rfl,rfl,by rw[HR2.o];exact q1,q2,fun h0=>?_⟩;have hrow:=HOK.o (by rw[←HR2.o];exact h0);have hk:=KX.o.trans <| QRb (ts:=[9]) (Qv L7.o.res (by have:=L7.o.p.kw.bs;have:=L7.o.p.ge;have:=L7.o.lt;omega)) ZD (sv nm) (.slice va n vc)
    obtain⟨xss,ex,hall⟩:=hrow.mono (QYc hk);refine⟨_,rfl,xss,?_,hall⟩;rw[←ex];exact(Qg.of_owns L7.o.own).same (QRb (ts:=[94]) (Qv L7.o.res (by have:=L7.o.p.kw.bs;have:=L7.o.p.ge;have:=L7.o.lt;omega)) ZD _ _ _ ZS)
   ·have HBG:=Zh hbg;have hle:=Md.le (fun _ h=>Qsc h) MD.o hbg;clear hbg;have c1:=(Qd L7.o.loc).1 1;have cf:=(Qd L7.o.loc).2;have hlth:=L7.o.lth;simp at c1;by_cases hfull:(n:Int)=32
    ·obtain rfl:n=32:=by omega
     have ⟨hr2,hne⟩:=Md.full (fun _ h=>Qsc h) MD.o HBG.o;have HR2:=Zh hr2;have HNE:=Zh hne;clear hr2 hne hfull MD;go_wp2_with fail;refine(Qtb L7.o.p 7 ZD).mono ?_;rintro e v8 ⟨rfl,hp,hb⟩;have L8:=Zh (L7.o.call hp hb);clear hp hb c1 cf;have c1:=(Qd L8.o.loc).1 1;have c0:=(Qd L8.o.loc).1 0;have cf:=(Qd L8.o.loc).2;have r0:=(Qd L8.o.res).1 0;have r1:=(Qd L8.o.res).1 1;have rf:=(Qd L8.o.res).2;simp at c0 c1 r0 r1;go_wp2;have G:=QBf (Qof L8.o.res (sv nm)) (.slice va 32 vc);have ⟨gc,_⟩:=Qd G;have ⟨q1,q2⟩:=L8.o.store2 ZD (Qv L8.o.res (by have:=L8.o.p.kw.bs;have:=L8.o.p.ge;have:=L8.o.lt;omega)) rfl (sv nm) (.slice va 32 vc);refine bodyPost_ret (v:=.agg #[sv nm,.slice va 32 vc]) ?_ rfl ?_
     ·simp[results,Tryz.results223,go_sem,gc]
     have hv:Qhc T Qua s=nm:=by unfold Qhc;rw[HS1.o,HNM.o]
     have hM:Qmb T s=(⟨nm,RM.1⟩,RM.2):=by
      unfold Qmb;dsimp only;rw[hv,HS4.o,HS5.o,QWc];rw[show QSb (QY T) (stS T) 32 [] s5=RM from HRM.o]
     unfold QUj;rw[hM,hv];refine⟨_,rfl,rfl,by rw[HR2.o];exact q1,q2,fun h0=>absurd h0 (by rw[HR2.o];exact HNE.o)⟩
    ·have hnf:((n:Int)==32)=false:=by rw[beq_eq_false_iff_ne];exact hfull
     have hroom:Qsd 32 n s6=s6:=by unfold Qsd;exact if_neg ZO
     have HRM2:=Zh hroom;clear hroom;have hn32:n<32:=by omega
     clear hfull;go_wp2_with fail;refine QK (S:=fun w'=>w'.cell? ⟨w.heap.size+1,1,none⟩=some (.slice va n vc)) (st:=7) ZK ?_;refine Zp 0 ?z1 c1 ?rz1 ?sz1
     case rz1=>intro w hS;go_simp;rfl
     case sz1=>
     refine Zp 1 ?z2 c1 ?rz2 ?sz2
     case rz2=>intro w hS;go_simp;rfl
     case sz2=>
     refine Zp 2 ?z3 c1 ?rz3 ?sz3
     case rz3=>intro w hS;go_simp;rfl
     case sz3=>
     refine Zt 3 ?_;refine Ql rfl ?_;go_wp2_with fail;refine(Qok (L7.o.drewN 1).p hT HBG.o).mono ?_;rintro e v8 ⟨op,d,us,ts,rfl,hu,ht,hp,hb,hc⟩;have hb:=But.undrew hb;have L8:=Zh (L7.o.call hp hb);have K8:=Zh (K7.o.trans (L7.o.same (ts:=[9]) ZD hb));have HC:=Zh hc;have HU:=Zh (show List.all [.int .i64 op,sv d,us,ts] Value.oneCell'=true by simp only[List.all_cons,List.all_nil,hu,ht];rfl);clear c1 cf hp hb hc hu ht;have c1:=(Qd L8.o.loc).1 1;have cf:=(Qd L8.o.loc).2;simp at c1;have hl8:=L8.o.lth;go_wp2;refine⟨fun _=>c1,?_⟩;refine Zt 4 ?_;refine Ql rfl ?_;have c1a:=(((Below.refl v8.heap.size v8).alloc (Nat.le_refl _) (.cells #[.int .i64 op,sv d,us,ts] 94)).cell (p:=⟨w.heap.size+1,1,none⟩) hl8).trans c1;go_wp2;refine⟨fun _=>c1a,?_⟩;refine Zt 5 ?_;refine Ql rfl ?_;refine Qcb [.int .i64 op,sv d,us,ts] rfl _ _ 90 rfl (w.heap.size+1+1) 94 _ 4 72 Tryz.underlying90 QGm rfl ZO _ n xs L8.o.own rfl _ rfl ZS rfl HU.o (by unfold maxLen;omega) ZO ZO ?_;intro g cap w9 hown1 hg1 hg2 hg3;have c1b:=(Qd (L8.o.cell1 hg1)).1 1;have cfb:=(Qd (L8.o.cell1 hg1)).2;simp at c1b;have hl9:=Qb (L8.o.cell1 hg1);have L9:=Zh (L8.o.push hown1 hg1 ZD ZD 1 rfl);have K9:=Zh (L8.o.pushSame (ts:=[9]) ZD ZD hg1 1 (.slice (some ⟨g,0,none⟩) (n+1) cap));clear hown1 hg1 c1 cf c1a;have c1:=c1b;have cf:=cfb;clear c1b cfb;go_wp2;refine⟨fun _=>c1,?_⟩;refine Zp 6 ?z4 c1 ?rz4 ?sz4
     case rz4=>intro w hS;go_simp;rfl
     case sz4=>
     refine Zt 7 ?_;refine Ql rfl ?_;go_wp2;refine⟨fun h=>absurd rfl h,?_⟩;refine Qu ZK ?_ _;clear c1 cf;go_wp2;go_roundg (gk-1)
     case measure=>omega
     case rel=>
      refine⟨_,_,n+1,_,L9.o,by omega,?_⟩;have st:=Hd.step (OK':=Qhf QZa (w9.setCell ⟨w.heap.size+1,1,none⟩ (.slice (some ⟨g,0,none⟩) (n+1) cap)) (xs++[.int .i64 op,sv d,us,ts])) (QVt T) (fun _ h=>Qsc h) ZD (show Hd _ _ RM 32 n s6 _ true from .inl ⟨HBG.o.symm,MD.o⟩) (fun acc hok hb hr h5=>?_)
      ·rw[HRM2.o] at st;exact st
      ·exact(hok.mono (QYc (K8.o.trans K9.o))).snoc (QYc K9.o _ _ (HC.o hb h5))
 ·have HB0:=Zh hb0;rw[hb0,if_pos rfl] at hs5;clear hb0;rw[hs5] at L5;clear hs5;have I0:Hid (LpIn QZa (QY T) (stS T) 92 94 4 B bp w.heap.size (w.heap.size+1) 32 (.cells #[.string ⟨#[]⟩,.slice none 0 0] 92 (0,0)) [sv nm] T RM w 34 v5):=⟨s5,.slice none 0 0,0,[],L5.o,rfl,Md.start HRM.o ⟨[],rfl,trivial⟩⟩;clear L5;go_wp2;go_loopg [] 34 (fun g wr=>Hid (LpIn QZa (QY T) (stS T) 92 94 4 B bp w.heap.size (w.heap.size+1) 32 (.cells #[.string ⟨#[]⟩,.slice none 0 0] 92 (0,0)) [sv nm] T RM w g wr))
  case atStart=>exact I0
  case round=>
   obtain⟨s6,v,n,xs,l6,hgn,md⟩:=hrel.o;obtain⟨va,vc,rfl⟩:=Qkd l6.own;have L6:=Zh l6;have MD:=Zh md;clear l6 md hrel I0;go_wp2_with fail;refine(QLg L6.o.p).mono ?_;rintro e v7 ⟨rfl,hp,hb⟩;have L7:=Zh (L6.o.call hp hb);have K7:=Zh (L6.o.same (ts:=[9]) ZD hb);clear hp hb
   cases hbg:(QY T) s6
   ·have HBG:=Zh hbg;clear hbg;obtain⟨hr2,hok⟩:=Hd.done (show Hd _ _ RM 32 n s6 _ false from .inl ⟨HBG.o.symm,MD.o⟩);have HR2:=Zh hr2;have HOK:=Zh hok;clear hr2 hok MD;have KX:=Zh K7.o;have c1:=(Qd L7.o.loc).1 1;have c0:=(Qd L7.o.loc).1 0;have cf:=(Qd L7.o.loc).2;have r0:=(Qd L7.o.res).1 0;have r1:=(Qd L7.o.res).1 1;have rf:=(Qd L7.o.res).2;simp at c0 c1 r0 r1;go_wp2;have G:=QBf (Qof L7.o.res (sv nm)) (.slice va n vc);have ⟨gc,_⟩:=Qd G;have ⟨q1,q2⟩:=L7.o.store2 ZD (Qv L7.o.res (by have:=L7.o.p.kw.bs;have:=L7.o.p.ge;have:=L7.o.lt;omega)) rfl (sv nm) (.slice va n vc);refine bodyPost_ret (v:=.agg #[sv nm,.slice va n vc]) ?_ rfl ?_
    ·simp[results,Tryz.results223,go_sem,gc]
    have hv:Qhc T Qua s=nm:=by unfold Qhc;rw[HS1.o,HNM.o]
    have hM:Qmb T s=(⟨nm,RM.1⟩,RM.2):=by
     unfold Qmb;dsimp only;rw[hv,HS4.o,HS5.o,QWc];rw[show QSb (QY T) (stS T) 32 [] s5=RM from HRM.o]
    unfold QUj;rw[hM,hv];refine⟨_,rfl,rfl,by rw[HR2.o];exact q1,q2,fun h0=>?_⟩;have hrow:=HOK.o (by rw[←HR2.o];exact h0);have hk:=KX.o.trans <| QRb (ts:=[9]) (Qv L7.o.res (by have:=L7.o.p.kw.bs;have:=L7.o.p.ge;have:=L7.o.lt;omega)) ZD (sv nm) (.slice va n vc)
    obtain⟨xss,ex,hall⟩:=hrow.mono (QYc hk);refine⟨_,rfl,xss,?_,hall⟩;rw[←ex];exact(Qg.of_owns L7.o.own).same (QRb (ts:=[94]) (Qv L7.o.res (by have:=L7.o.p.kw.bs;have:=L7.o.p.ge;have:=L7.o.lt;omega)) ZD _ _ _ ZS)
   ·have HBG:=Zh hbg;have hle:=Md.le (fun _ h=>Qsc h) MD.o hbg;clear hbg;have c1:=(Qd L7.o.loc).1 1;have cf:=(Qd L7.o.loc).2;have hlth:=L7.o.lth;simp at c1;by_cases hfull:(n:Int)=32
    ·obtain rfl:n=32:=by omega
     have ⟨hr2,hne⟩:=Md.full (fun _ h=>Qsc h) MD.o HBG.o;have HR2:=Zh hr2;have HNE:=Zh hne;clear hr2 hne hfull MD;go_wp2_with fail;refine(Qtb L7.o.p 7 ZD).mono ?_;rintro e v8 ⟨rfl,hp,hb⟩;have L8:=Zh (L7.o.call hp hb);clear hp hb c1 cf;have c1:=(Qd L8.o.loc).1 1;have c0:=(Qd L8.o.loc).1 0;have cf:=(Qd L8.o.loc).2;have r0:=(Qd L8.o.res).1 0;have r1:=(Qd L8.o.res).1 1;have rf:=(Qd L8.o.res).2;simp at c0 c1 r0 r1;go_wp2;have G:=QBf (Qof L8.o.res (sv nm)) (.slice va 32 vc);have ⟨gc,_⟩:=Qd G;have ⟨q1,q2⟩:=L8.o.store2 ZD (Qv L8.o.res (by have:=L8.o.p.kw.bs;have:=L8.o.p.ge;have:=L8.o.lt;omega)) rfl (sv nm) (.slice va 32 vc);refine bodyPost_ret (v:=.agg #[sv nm,.slice va 32 vc]) ?_ rfl ?_
     ·simp[results,Tryz.results223,go_sem,gc]
     have hv:Qhc T Qua s=nm:=by unfold Qhc;rw[HS1.o,HNM.o]
     have hM:Qmb T s=(⟨nm,RM.1⟩,RM.2):=by
      unfold Qmb;dsimp only;rw[hv,HS4.o,HS5.o,QWc];rw[show QSb (QY T) (stS T) 32 [] s5=RM from HRM.o]
     unfold QUj;rw[hM,hv];refine⟨_,rfl,rfl,by rw[HR2.o];exact q1,q2,fun h0=>absurd h0 (by rw[HR2.o];exact HNE.o)⟩
    ·have hnf:((n:Int)==32)=false:=by rw[beq_eq_false_iff_ne];exact hfull
     have hroom:Qsd 32 n s6=s6:=by unfold Qsd;exact if_neg ZO
     have HRM2:=Zh hroom;clear hroom;have hn32:n<32:=by omega
     clear hfull;go_wp2_with fail;refine QK (S:=fun w'=>w'.cell? ⟨w.heap.size+1,1,none⟩=some (.slice va n vc)) (st:=7) ZK ?_;refine Zp 0 ?z5 c1 ?rz5 ?sz5
     case rz5=>intro w hS;go_simp;rfl
     case sz5=>
     refine Zp 1 ?z6 c1 ?rz6 ?sz6
     case rz6=>intro w hS;go_simp;rfl
     case sz6=>
     refine Zp 2 ?z7 c1 ?rz7 ?sz7
     case rz7=>intro w hS;go_simp;rfl
     case sz7=>
     refine Zt 3 ?_;refine Ql rfl ?_;go_wp2_with fail;refine(Qok (L7.o.drewN 1).p hT HBG.o).mono ?_;rintro e v8 ⟨op,d,us,ts,rfl,hu,ht,hp,hb,hc⟩;have hb:=But.undrew hb;have L8:=Zh (L7.o.call hp hb);have K8:=Zh (K7.o.trans (L7.o.same (ts:=[9]) ZD hb));have HC:=Zh hc;have HU:=Zh (show List.all [.int .i64 op,sv d,us,ts] Value.oneCell'=true by simp only[List.all_cons,List.all_nil,hu,ht];rfl);clear c1 cf hp hb hc hu ht;have c1:=(Qd L8.o.loc).1 1;have cf:=(Qd L8.o.loc).2;simp at c1;have hl8:=L8.o.lth;go_wp2;refine⟨fun _=>c1,?_⟩;refine Zt 4 ?_;refine Ql rfl ?_;have c1a:=(((Below.refl v8.heap.size v8).alloc (Nat.le_refl _) (.cells #[.int .i64 op,sv d,us,ts] 94)).cell (p:=⟨w.heap.size+1,1,none⟩) hl8).trans c1;go_wp2;refine⟨fun _=>c1a,?_⟩;refine Zt 5 ?_;refine Ql rfl ?_;refine Qcb [.int .i64 op,sv d,us,ts] rfl _ _ 90 rfl (w.heap.size+1+1) 94 _ 4 72 Tryz.underlying90 QGm rfl ZO _ n xs L8.o.own rfl _ rfl ZS rfl HU.o (by unfold maxLen;omega) ZO ZO ?_;intro g cap w9 hown1 hg1 hg2 hg3;have c1b:=(Qd (L8.o.cell1 hg1)).1 1;have cfb:=(Qd (L8.o.cell1 hg1)).2;simp at c1b;have hl9:=Qb (L8.o.cell1 hg1);have L9:=Zh (L8.o.push hown1 hg1 ZD ZD 1 rfl);have K9:=Zh (L8.o.pushSame (ts:=[9]) ZD ZD hg1 1 (.slice (some ⟨g,0,none⟩) (n+1) cap));clear hown1 hg1 c1 cf c1a;have c1:=c1b;have cf:=cfb;clear c1b cfb;go_wp2;refine⟨fun _=>c1,?_⟩;refine Zp 6 ?z8 c1 ?rz8 ?sz8
     case rz8=>intro w hS;go_simp;rfl
     case sz8=>
     refine Zt 7 ?_;refine Ql rfl ?_;go_wp2;refine⟨fun h=>absurd rfl h,?_⟩;refine Qu ZK ?_ _;clear c1 cf;go_wp2;go_roundg (gk-1)
     case measure=>omega
     case rel=>
      refine⟨_,_,n+1,_,L9.o,by omega,?_⟩;have st:=Hd.step (OK':=Qhf QZa (w9.setCell ⟨w.heap.size+1,1,none⟩ (.slice (some ⟨g,0,none⟩) (n+1) cap)) (xs++[.int .i64 op,sv d,us,ts])) (QVt T) (fun _ h=>Qsc h) ZD (show Hd _ _ RM 32 n s6 _ true from .inl ⟨HBG.o.symm,MD.o⟩) (fun acc hok hb hr h5=>?_)
      ·rw[HRM2.o] at st;exact st
      ·exact(hok.mono (QYc (K8.o.trans K9.o))).snoc (QYc K9.o _ _ (HC.o hb h5))
theorem QUg {T:List Tok}{s:PS}(h:s.err≠0):endM T (QBb (isW T kEnd s) s)=s:=by
 unfold endM;rw[Qpc h,QEd h,QUf h ZD,QEd h]
theorem Qql {B bp:Nat}{T:List Tok}{s:PS}{w:World}(h:PSt B bp T s w)(hT:T.length≤1000000):
  Calls Tryz.prog 174 #[.pointer (some ⟨bp,0,none⟩)] w (QSj B bp T s w):=by
 have hlt:=h.lt;have hge:=h.ge;have L0:Hid (LpL 89 92 2 B bp w.heap.size (w.heap.size+1) (.cells #[.string ⟨#[]⟩,.slice none 0 0] 89 (0,0)) [.string ⟨#[]⟩] T w s ((w.alloc (.cells #[.string ⟨#[]⟩,.slice none 0 0] 89)).alloc (.cells #[.string ⟨#[]⟩,.slice none 0 0] 89)) (.slice none 0 0) 0 []):=⟨(h.alloc _).alloc _,((But.refl _ _).alloc _).alloc _,hlt,by omega,by omega,by omega,Qfa _ (heap_alloc_new _ _),by have h2:=heap_alloc_new (w.alloc (.cells #[.string ⟨#[]⟩,.slice none 0 0] 89)) (.cells #[.string ⟨#[]⟩,.slice none 0 0] 89);rw[World.size_alloc] at h2;exact h2,World.ownsRow_nil _ _ _ _⟩;clear h;go_enter Tryz.func174,Tryz.ntmps174;go_wp2_with fail;refine(QOg L0.o.p hT Qrb).mono ?_;rintro e v1 ⟨rfl,hp,hb⟩;have L1:=Zh (L0.o.call hp hb);clear hp hb;obtain⟨s1,hs1⟩:=Ze (QBb (isW T Qrb s) s);rw[hs1] at L1;have HS1:=Zh hs1;clear hs1;go_wp2_with fail;refine(name_any L1.o.p hT).mono ?_;rintro e v2 ⟨rfl,hp,hb⟩;have L2:=Zh (L1.o.call hp hb);clear hp hb;obtain⟨nm,hnm⟩:=Ze (Qib T s1);rw[hnm];have HNM:=Zh hnm;clear hnm;have c0:=(Qd L2.o.loc).1 0;have cf:=(Qd L2.o.loc).2;simp at c0;have L3:=Zh (L2.o.name ZD (sv nm));go_wp2_with fail;refine(QFc L3.o.p hT).mono ?_;rintro e v4 ⟨rfl,hp,hb⟩;have L4:=Zh (L3.o.call hp hb);clear hp hb;clear c0 cf;have hs5:endM T (Qhb T s1)=Qfg T Qrb s:=by unfold Qfg;rw[HS1.o]
 rw[hs5] at L4;clear hs5;obtain⟨s4,hs4⟩:=Ze (Qfg T Qrb s);rw[hs4] at L4;have HS4:=Zh hs4;clear hs4;go_wp2_with fail;refine(QDf L4.o.p Qua).mono ?_;rintro e v5 ⟨rfl,hp,hb⟩;have L5:=Zh (L4.o.call hp hb);clear hp hb;obtain⟨s5,hs5⟩:=Ze ((if (isW T Qua) s4=true then s4 else s4.fail 4));have HS5:=Zh hs5;obtain⟨RM,hRM⟩:=Ze (QSb (isW T Qua) (Qmb T) 16 [] s5);have HRM:=Zh hRM;clear hRM
 cases hb0:(isW T Qua) s4
 ·have HB0:=Zh hb0;rw[hb0,if_neg ZD] at hs5;clear hb0;go_wp2_with fail;refine(Qtb L5.o.p 4 ZD).mono ?_;rintro e v6 ⟨rfl,hp,hb⟩;have L6:=Zh (L5.o.call hp hb);clear hp hb;rw[hs5] at L6;clear hs5;have I0:Hid (LpIn QKa (isW T Qua) (Qmb T) 89 92 2 B bp w.heap.size (w.heap.size+1) 16 (.cells #[.string ⟨#[]⟩,.slice none 0 0] 89 (0,0)) [sv nm] T RM w 18 v6):=⟨s5,.slice none 0 0,0,[],L6.o,rfl,Md.start HRM.o ⟨[],rfl,trivial⟩⟩;clear L6;go_wp2;go_loopg [] 18 (fun g wr=>Hid (LpIn QKa (isW T Qua) (Qmb T) 89 92 2 B bp w.heap.size (w.heap.size+1) 16 (.cells #[.string ⟨#[]⟩,.slice none 0 0] 89 (0,0)) [sv nm] T RM w g wr))
  case atStart=>exact I0
  case round=>
   obtain⟨s6,v,n,xs,l6,hgn,md⟩:=hrel.o;obtain⟨va,vc,rfl⟩:=Qkd l6.own;have L6:=Zh l6;have MD:=Zh md;clear l6 md hrel I0;go_wp2_with fail;refine(QDf L6.o.p Qua).mono ?_;rintro e v7 ⟨rfl,hp,hb⟩;have L7:=Zh (L6.o.call hp hb);have K7:=Zh (L6.o.same (ts:=[9,94]) ZD hb);clear hp hb
   cases hbg:(isW T Qua) s6
   ·have HBG:=Zh hbg;clear hbg;obtain⟨hr2,hok⟩:=Hd.done (show Hd _ _ RM 16 n s6 _ false from .inl ⟨HBG.o.symm,MD.o⟩);have HR2:=Zh hr2;have HOK:=Zh hok;clear hr2 hok MD;go_wp2_with fail;refine(QOg L7.o.p hT kEnd).mono ?_;rintro e v8 ⟨rfl,hp,hb⟩;have L8:=Zh (L7.o.call hp hb);have K8:=Zh (K7.o.trans (L7.o.same (ts:=[9,94]) ZD hb));clear hp hb;go_wp2_with fail;refine(QFc L8.o.p hT).mono ?_;rintro e v9 ⟨rfl,hp,hb⟩;have L9:=Zh (L8.o.call hp hb);have KX:=Zh (K8.o.trans (L8.o.same (ts:=[9,94]) ZD hb));clear hp hb;have c1:=(Qd L9.o.loc).1 1;have c0:=(Qd L9.o.loc).1 0;have cf:=(Qd L9.o.loc).2;have r0:=(Qd L9.o.res).1 0;have r1:=(Qd L9.o.res).1 1;have rf:=(Qd L9.o.res).2;simp at c0 c1 r0 r1;go_wp2;have G:=QBf (Qof L9.o.res (sv nm)) (.slice va n vc);have ⟨gc,_⟩:=Qd G;have ⟨q1,q2⟩:=L9.o.store2 ZD (Qv L9.o.res (by have:=L9.o.p.kw.bs;have:=L9.o.p.ge;have:=L9.o.lt;omega)) rfl (sv nm) (.slice va n vc);refine bodyPost_ret (v:=.agg #[sv nm,.slice va n vc]) ?_ rfl ?_
    ·simp[results,Tryz.results174,go_sem,gc]
    have hv:Qhc T Qrb s=nm:=by unfold Qhc;rw[HS1.o,HNM.o]
    have hM:QHc T s=(⟨nm,RM.1⟩,endM T (QBb (isW T kEnd RM.2) RM.2)):=by
     unfold QHc;dsimp only;rw[hv,HS4.o,HS5.o,QGc];rw[show QSb (isW T Qua) (Qmb T) 16 [] s5=RM from HRM.o]
    unfold QSj;rw[hM,hv];refine⟨_,rfl,rfl,by rw[HR2.o];exact q1,q2,fun h0=>?_⟩;have hrow:=HOK.o (by rw[HR2.o] at h0;exact Qpp h0);have hk:=KX.o.trans <| QRb (ts:=[9,94]) (Qv L9.o.res (by have:=L9.o.p.kw.bs;have:=L9.o.p.ge;have:=L9.o.lt;omega)) ZD (sv nm) (.slice va n vc)
    obtain⟨xss,ex,hall⟩:=hrow.mono (QDc hk);refine⟨_,rfl,xss,?_,hall⟩;rw[←ex];exact(Qg.of_owns L9.o.own).same (QRb (ts:=[92]) (Qv L9.o.res (by have:=L9.o.p.kw.bs;have:=L9.o.p.ge;have:=L9.o.lt;omega)) ZD _ _ _ ZS)
   ·have HBG:=Zh hbg;have hle:=Md.le (fun _ h=>Qpc h _) MD.o hbg;clear hbg;have c1:=(Qd L7.o.loc).1 1;have cf:=(Qd L7.o.loc).2;have hlth:=L7.o.lth;simp at c1;by_cases hfull:(n:Int)=16
    ·obtain rfl:n=16:=by omega
     have ⟨hr2,hne⟩:=Md.full (fun _ h=>Qpc h _) MD.o HBG.o;have HR2:=Zh hr2;have HNE:=Zh hne;clear hr2 hne hfull MD;go_wp2_with fail;refine(Qtb L7.o.p 7 ZD).mono ?_;rintro e v8 ⟨rfl,hp,hb⟩;have L8:=Zh (L7.o.call hp hb);clear hp hb c1 cf;have c1:=(Qd L8.o.loc).1 1;have c0:=(Qd L8.o.loc).1 0;have cf:=(Qd L8.o.loc).2;have r0:=(Qd L8.o.res).1 0;have r1:=(Qd L8.o.res).1 1;have rf:=(Qd L8.o.res).2;simp at c0 c1 r0 r1;go_wp2;have G:=QBf (Qof L8.o.res (sv nm)) (.slice va 16 vc);have ⟨gc,_⟩:=Qd G;have ⟨q1,q2⟩:=L8.o.store2 ZD (Qv L8.o.res (by have:=L8.o.p.kw.bs;have:=L8.o.p.ge;have:=L8.o.lt;omega)) rfl (sv nm) (.slice va 16 vc);refine bodyPost_ret (v:=.agg #[sv nm,.slice va 16 vc]) ?_ rfl ?_
     ·simp[results,Tryz.results174,go_sem,gc]
     have hv:Qhc T Qrb s=nm:=by unfold Qhc;rw[HS1.o,HNM.o]
     have hM:QHc T s=(⟨nm,RM.1⟩,endM T (QBb (isW T kEnd RM.2) RM.2)):=by
      unfold QHc;dsimp only;rw[hv,HS4.o,HS5.o,QGc];rw[show QSb (isW T Qua) (Qmb T) 16 [] s5=RM from HRM.o]
     unfold QSj;rw[hM,hv];refine⟨_,rfl,rfl,by rw[HR2.o,QUg HNE.o];exact q1,q2,fun h0=>absurd h0 (by rw[HR2.o,QUg HNE.o];exact HNE.o)⟩
    ·have hnf:((n:Int)==16)=false:=by rw[beq_eq_false_iff_ne];exact hfull
     have hroom:Qsd 16 n s6=s6:=by unfold Qsd;exact if_neg ZO
     have HRM2:=Zh hroom;clear hroom;have hn32:n<16:=by omega
     clear hfull;go_wp2_with fail;refine QK (S:=fun w'=>w'.cell? ⟨w.heap.size+1,1,none⟩=some (.slice va n vc)) (st:=7) ZK ?_;refine Zp 0 ?z9 c1 ?rz9 ?sz9
     case rz9=>intro w hS;go_simp;rfl
     case sz9=>
     refine Zp 1 ?z10 c1 ?rz10 ?sz10
     case rz10=>intro w hS;go_simp;rfl
     case sz10=>
     refine Zp 2 ?z11 c1 ?rz11 ?sz11
     case rz11=>intro w hS;go_simp;rfl
     case sz11=>
     refine Zt 3 ?_;refine Ql rfl ?_;go_wp2_with fail;refine(QQk (L7.o.drewN 1).p hT).mono ?_;rintro e v8 ⟨bv,rfl,hu,hp,hb,hc⟩;obtain⟨bn,hbn⟩:=Ze (Qhc T Qua s6);rw[hbn] at hc ⊢;clear hbn;have hb:=But.undrew hb;have L8:=Zh (L7.o.call hp hb);have K8:=Zh (K7.o.trans (L7.o.same (ts:=[9,94]) ZD hb));have HC:=Zh hc;have HU:=Zh (show List.all [sv bn,bv] Value.oneCell'=true by simp only[List.all_cons,List.all_nil,hu];rfl);clear c1 cf hp hb hc hu;have c1:=(Qd L8.o.loc).1 1;have cf:=(Qd L8.o.loc).2;simp at c1;have hl8:=L8.o.lth;go_wp2;refine⟨fun _=>c1,?_⟩;refine Zt 4 ?_;refine Ql rfl ?_;have c1a:=(((Below.refl v8.heap.size v8).alloc (Nat.le_refl _) (.cells #[sv bn,bv] 92)).cell (p:=⟨w.heap.size+1,1,none⟩) hl8).trans c1;go_wp2;refine⟨fun _=>c1a,?_⟩;refine Zt 5 ?_;refine Ql rfl ?_;refine Qcb [sv bn,bv] rfl _ _ 87 rfl (w.heap.size+1+1) 92 _ 2 40 Tryz.underlying87 QEk rfl ZO _ n xs L8.o.own rfl _ rfl ZS rfl HU.o (by unfold maxLen;omega) ZO ZO ?_;intro g cap w9 hown1 hg1 hg2 hg3;have c1b:=(Qd (L8.o.cell1 hg1)).1 1;have cfb:=(Qd (L8.o.cell1 hg1)).2;simp at c1b;have hl9:=Qb (L8.o.cell1 hg1);have L9:=Zh (L8.o.push hown1 hg1 ZD ZD 1 rfl);have K9:=Zh (L8.o.pushSame (ts:=[9,94]) ZD ZD hg1 1 (.slice (some ⟨g,0,none⟩) (n+1) cap));clear hown1 hg1 c1 cf c1a;have c1:=c1b;have cf:=cfb;clear c1b cfb;go_wp2;refine⟨fun _=>c1,?_⟩;refine Zp 6 ?z12 c1 ?rz12 ?sz12
     case rz12=>intro w hS;go_simp;rfl
     case sz12=>
     refine Zt 7 ?_;refine Ql rfl ?_;go_wp2;refine⟨fun h=>absurd rfl h,?_⟩;refine Qu ZK ?_ _;clear c1 cf;go_wp2;go_roundg (gk-1)
     case measure=>omega
     case rel=>
      refine⟨_,_,n+1,_,L9.o,by omega,?_⟩;have st:=Hd.step (OK':=Qhf QKa (w9.setCell ⟨w.heap.size+1,1,none⟩ (.slice (some ⟨g,0,none⟩) (n+1) cap)) (xs++[sv bn,bv])) (Qnn T) (fun _ h=>Qpc h _) ZD (show Hd _ _ RM 16 n s6 _ true from .inl ⟨HBG.o.symm,MD.o⟩) (fun acc hok hb hr h5=>?_)
      ·rw[HRM2.o] at st;exact st
      ·exact(hok.mono (QDc (K8.o.trans K9.o))).snoc (QDc K9.o _ _ (HC.o h5))
 ·have HB0:=Zh hb0;rw[hb0,if_pos rfl] at hs5;clear hb0;rw[hs5] at L5;clear hs5;have I0:Hid (LpIn QKa (isW T Qua) (Qmb T) 89 92 2 B bp w.heap.size (w.heap.size+1) 16 (.cells #[.string ⟨#[]⟩,.slice none 0 0] 89 (0,0)) [sv nm] T RM w 18 v5):=⟨s5,.slice none 0 0,0,[],L5.o,rfl,Md.start HRM.o ⟨[],rfl,trivial⟩⟩;clear L5;go_wp2;go_loopg [] 18 (fun g wr=>Hid (LpIn QKa (isW T Qua) (Qmb T) 89 92 2 B bp w.heap.size (w.heap.size+1) 16 (.cells #[.string ⟨#[]⟩,.slice none 0 0] 89 (0,0)) [sv nm] T RM w g wr))
  case atStart=>exact I0
  case round=>
   obtain⟨s6,v,n,xs,l6,hgn,md⟩:=hrel.o;obtain⟨va,vc,rfl⟩:=Qkd l6.own;have L6:=Zh l6;have MD:=Zh md;clear l6 md hrel I0;go_wp2_with fail;refine(QDf L6.o.p Qua).mono ?_;rintro e v7 ⟨rfl,hp,hb⟩;have L7:=Zh (L6.o.call hp hb);have K7:=Zh (L6.o.same (ts:=[9,94]) ZD hb);clear hp hb
   cases hbg:(isW T Qua) s6
   ·have HBG:=Zh hbg;clear hbg;obtain⟨hr2,hok⟩:=Hd.done (show Hd _ _ RM 16 n s6 _ false from .inl ⟨HBG.o.symm,MD.o⟩);have HR2:=Zh hr2;have HOK:=Zh hok;clear hr2 hok MD;go_wp2_with fail;refine(QOg L7.o.p hT kEnd).mono ?_;rintro e v8 ⟨rfl,hp,hb⟩;have L8:=Zh (L7.o.call hp hb);have K8:=Zh (K7.o.trans (L7.o.same (ts:=[9,94]) ZD hb));clear hp hb;go_wp2_with fail;refine(QFc L8.o.p hT).mono ?_;rintro e v9 ⟨rfl,hp,hb⟩;have L9:=Zh (L8.o.call hp hb);have KX:=Zh (K8.o.trans (L8.o.same (ts:=[9,94]) ZD hb));clear hp hb;have c1:=(Qd L9.o.loc).1 1;have c0:=(Qd L9.o.loc).1 0;have cf:=(Qd L9.o.loc).2;have r0:=(Qd L9.o.res).1 0;have r1:=(Qd L9.o.res).1 1;have rf:=(Qd L9.o.res).2;simp at c0 c1 r0 r1;go_wp2;have G:=QBf (Qof L9.o.res (sv nm)) (.slice va n vc);have ⟨gc,_⟩:=Qd G;have ⟨q1,q2⟩:=L9.o.store2 ZD (Qv L9.o.res (by have:=L9.o.p.kw.bs;have:=L9.o.p.ge;have:=L9.o.lt;omega)) rfl (sv nm) (.slice va n vc);refine bodyPost_ret (v:=.agg #[sv nm,.slice va n vc]) ?_ rfl ?_
    ·simp[results,Tryz.results174,go_sem,gc]
    have hv:Qhc T Qrb s=nm:=by unfold Qhc;rw[HS1.o,HNM.o]
    have hM:QHc T s=(⟨nm,RM.1⟩,endM T (QBb (isW T kEnd RM.2) RM.2)):=by
     unfold QHc;dsimp only;rw[hv,HS4.o,HS5.o,QGc];rw[show QSb (isW T Qua) (Qmb T) 16 [] s5=RM from HRM.o]
    unfold QSj;rw[hM,hv];refine⟨_,rfl,rfl,by rw[HR2.o];exact q1,q2,fun h0=>?_⟩;have hrow:=HOK.o (by rw[HR2.o] at h0;exact Qpp h0);have hk:=KX.o.trans <| QRb (ts:=[9,94]) (Qv L9.o.res (by have:=L9.o.p.kw.bs;have:=L9.o.p.ge;have:=L9.o.lt;omega)) ZD (sv nm) (.slice va n vc)
    obtain⟨xss,ex,hall⟩:=hrow.mono (QDc hk);refine⟨_,rfl,xss,?_,hall⟩;rw[←ex];exact(Qg.of_owns L9.o.own).same (QRb (ts:=[92]) (Qv L9.o.res (by have:=L9.o.p.kw.bs;have:=L9.o.p.ge;have:=L9.o.lt;omega)) ZD _ _ _ ZS)
   ·have HBG:=Zh hbg;have hle:=Md.le (fun _ h=>Qpc h _) MD.o hbg;clear hbg;have c1:=(Qd L7.o.loc).1 1;have cf:=(Qd L7.o.loc).2;have hlth:=L7.o.lth;simp at c1;by_cases hfull:(n:Int)=16
    ·obtain rfl:n=16:=by omega
     have ⟨hr2,hne⟩:=Md.full (fun _ h=>Qpc h _) MD.o HBG.o;have HR2:=Zh hr2;have HNE:=Zh hne;clear hr2 hne hfull MD;go_wp2_with fail;refine(Qtb L7.o.p 7 ZD).mono ?_;rintro e v8 ⟨rfl,hp,hb⟩;have L8:=Zh (L7.o.call hp hb);clear hp hb c1 cf;have c1:=(Qd L8.o.loc).1 1;have c0:=(Qd L8.o.loc).1 0;have cf:=(Qd L8.o.loc).2;have r0:=(Qd L8.o.res).1 0;have r1:=(Qd L8.o.res).1 1;have rf:=(Qd L8.o.res).2;simp at c0 c1 r0 r1;go_wp2;have G:=QBf (Qof L8.o.res (sv nm)) (.slice va 16 vc);have ⟨gc,_⟩:=Qd G;have ⟨q1,q2⟩:=L8.o.store2 ZD (Qv L8.o.res (by have:=L8.o.p.kw.bs;have:=L8.o.p.ge;have:=L8.o.lt;omega)) rfl (sv nm) (.slice va 16 vc);refine bodyPost_ret (v:=.agg #[sv nm,.slice va 16 vc]) ?_ rfl ?_
     ·simp[results,Tryz.results174,go_sem,gc]
     have hv:Qhc T Qrb s=nm:=by unfold Qhc;rw[HS1.o,HNM.o]
     have hM:QHc T s=(⟨nm,RM.1⟩,endM T (QBb (isW T kEnd RM.2) RM.2)):=by
      unfold QHc;dsimp only;rw[hv,HS4.o,HS5.o,QGc];rw[show QSb (isW T Qua) (Qmb T) 16 [] s5=RM from HRM.o]
     unfold QSj;rw[hM,hv];refine⟨_,rfl,rfl,by rw[HR2.o,QUg HNE.o];exact q1,q2,fun h0=>absurd h0 (by rw[HR2.o,QUg HNE.o];exact HNE.o)⟩
    ·have hnf:((n:Int)==16)=false:=by rw[beq_eq_false_iff_ne];exact hfull
     have hroom:Qsd 16 n s6=s6:=by unfold Qsd;exact if_neg ZO
     have HRM2:=Zh hroom;clear hroom;have hn32:n<16:=by omega
     clear hfull;go_wp2_with fail;refine QK (S:=fun w'=>w'.cell? ⟨w.heap.size+1,1,none⟩=some (.slice va n vc)) (st:=7) ZK ?_;refine Zp 0 ?z13 c1 ?rz13 ?sz13
     case rz13=>intro w hS;go_simp;rfl
     case sz13=>
     refine Zp 1 ?z14 c1 ?rz14 ?sz14
     case rz14=>intro w hS;go_simp;rfl
     case sz14=>
     refine Zp 2 ?z15 c1 ?rz15 ?sz15
     case rz15=>intro w hS;go_simp;rfl
     case sz15=>
     refine Zt 3 ?_;refine Ql rfl ?_;go_wp2_with fail;refine(QQk (L7.o.drewN 1).p hT).mono ?_;rintro e v8 ⟨bv,rfl,hu,hp,hb,hc⟩;obtain⟨bn,hbn⟩:=Ze (Qhc T Qua s6);rw[hbn] at hc ⊢;clear hbn;have hb:=But.undrew hb;have L8:=Zh (L7.o.call hp hb);have K8:=Zh (K7.o.trans (L7.o.same (ts:=[9,94]) ZD hb));have HC:=Zh hc;have HU:=Zh (show List.all [sv bn,bv] Value.oneCell'=true by simp only[List.all_cons,List.all_nil,hu];rfl);clear c1 cf hp hb hc hu;have c1:=(Qd L8.o.loc).1 1;have cf:=(Qd L8.o.loc).2;simp at c1;have hl8:=L8.o.lth;go_wp2;refine⟨fun _=>c1,?_⟩;refine Zt 4 ?_;refine Ql rfl ?_;have c1a:=(((Below.refl v8.heap.size v8).alloc (Nat.le_refl _) (.cells #[sv bn,bv] 92)).cell (p:=⟨w.heap.size+1,1,none⟩) hl8).trans c1;go_wp2;refine⟨fun _=>c1a,?_⟩;refine Zt 5 ?_;refine Ql rfl ?_;refine Qcb [sv bn,bv] rfl _ _ 87 rfl (w.heap.size+1+1) 92 _ 2 40 Tryz.underlying87 QEk rfl ZO _ n xs L8.o.own rfl _ rfl ZS rfl HU.o (by unfold maxLen;omega) ZO ZO ?_;intro g cap w9 hown1 hg1 hg2 hg3;have c1b:=(Qd (L8.o.cell1 hg1)).1 1;have cfb:=(Qd (L8.o.cell1 hg1)).2;simp at c1b;have hl9:=Qb (L8.o.cell1 hg1);have L9:=Zh (L8.o.push hown1 hg1 ZD ZD 1 rfl);have K9:=Zh (L8.o.pushSame (ts:=[9,94]) ZD ZD hg1 1 (.slice (some ⟨g,0,none⟩) (n+1) cap));clear hown1 hg1 c1 cf c1a;have c1:=c1b;have cf:=cfb;clear c1b cfb;go_wp2;refine⟨fun _=>c1,?_⟩;refine Zp 6 ?z16 c1 ?rz16 ?sz16
     case rz16=>intro w hS;go_simp;rfl
     case sz16=>
     refine Zt 7 ?_;refine Ql rfl ?_;go_wp2;refine⟨fun h=>absurd rfl h,?_⟩;refine Qu ZK ?_ _;clear c1 cf;go_wp2;go_roundg (gk-1)
     case measure=>omega
     case rel=>
      refine⟨_,_,n+1,_,L9.o,by omega,?_⟩;have st:=Hd.step (OK':=Qhf QKa (w9.setCell ⟨w.heap.size+1,1,none⟩ (.slice (some ⟨g,0,none⟩) (n+1) cap)) (xs++[sv bn,bv])) (Qnn T) (fun _ h=>Qpc h _) ZD (show Hd _ _ RM 16 n s6 _ true from .inl ⟨HBG.o.symm,MD.o⟩) (fun acc hok hb hr h5=>?_)
      ·rw[HRM2.o] at st;exact st
      ·exact(hok.mono (QDc (K8.o.trans K9.o))).snoc (QDc K9.o _ _ (HC.o h5))
end R
end
section
open Go.RowKit
variable [Base]
theorem QKe:(Tryz.prog.info? 232).map (fun i=>(i.zero,i.size,i.bytes))=some (some (.agg #[.int .i64 0,.string ⟨#[]⟩,.int .i64 0,.int .i64 0]),4,40):=by kernel_rfl
theorem QMr (toks:List Tok)(t:Tok):((toks++[t]).map Qpa).flatten=(toks.map Qpa).flatten++Qpa t:=by simp
end
section
open Go.RowKit
variable [Base]
section
variable {P:Program} {a:Act} {w:World} {Q:Exit→Act→World→Prop} {J:Nat→Act→World→Prop}
end
section
variable {w0 w:World} {B:Nat} {toks:List Tok} {i line start:Int} {op:Bool}
end
def QGb (w0:World)(R:Qub)(e:Ending)(w':World):Prop:=
 ∃v,e=.returned (.tuple #[v,.int .i64 R.line,.int .i64 R.col,.int .i64 R.err])∧QFb w' v R.toks∧Below w0.heap.size w0 w'
theorem QCb {fn:Func}{t u v x:Tmp}(h:fn.results=#[.tmp t,.tmp u,.tmp v,.tmp x])(tmps:Array Value)(P:Program)(w:World):
  (results fn tmps).run P w=.ok (.tuple #[tmps.getD t undef,tmps.getD u undef,tmps.getD v undef,tmps.getD x undef]) w:=by
 simp[results,h]
end
section
open Go.RowKit
variable [Base]
theorem QYj {α:Type}(p:α→Bool):∀l:List α,(l.takeWhile p).length≤l.length
|[]=>by simp
|x::l=>by
  rw[List.takeWhile_cons]
  split
  ·have:=QYj p l
   simp only[List.length_cons];omega
  ·simp
theorem Qhe {α:Type}(p:α→Bool):∀l:List α,l.take (l.takeWhile p).length=l.takeWhile p
|[]=>rfl
|x::l=>by
  rw[List.takeWhile_cons]
  split
  ·simp[Qhe p l]
  ·simp
theorem Qwe {α:Type}(p:α→Bool):∀l:List α,l.drop (l.takeWhile p).length=l.dropWhile p
|[]=>rfl
|x::l=>by
  rw[List.takeWhile_cons,List.dropWhile_cons]
  split
  ·simp[Qwe p l]
  ·simp
end
section
open Go.RowKit
variable [Base]
def Qet (w0:World)(toks:List Tok)(n:Nat)(line col err:Int)(e:Ending)(w':World):Prop:=
 ∃a c,e=.returned (.tuple #[.slice a n c,.int .i64 line,.int .i64 col,.int .i64 err])∧Hid (QFb w' (.slice a n c) toks)∧Hid (Below w0.heap.size w0 w')
theorem Qsq {w0 w':World}{R:Qub}{e:Ending}(h:QGb w0 R e w'):Qet w0 R.toks R.toks.length R.line R.col R.err e w':=by
 obtain⟨v,rfl,ht,hb⟩:=h;obtain⟨a,c,rfl,_⟩:=ht.form;exact⟨a,c,rfl,ht,hb⟩
end
section
open Go.RowKit
variable [Base]
theorem Qfj {w:World}{b:Nat}{a0:Value}{t:TypeId}{fr:Nat×Nat}(h:w.heap[b]? = some (.cells #[a0] t fr))(x:Value):(w.setCell ⟨b,0,none⟩ x).heap[b]? = some (.cells #[x] t fr):=by
 simp[World.setCell,Array.getElem?_modify,h]
theorem QGj (op:Bool)(line col:Int)(acc:List Tok):(fin op line col acc).length≤acc.length+1:=by
 unfold fin
 split <;> simp
theorem Qzc:∀(n:Nat) (l:List UInt8) (line col:Int) (op:Bool) (acc:List Tok),(lexF n l line col op acc).toks.length≤acc.length+2*l.length+1
|0,_,_,_,_,_=>by simp[lexF]
|_+1,[],line,col,op,acc=>by have:=QGj op line col acc;show(fin op line col acc).length≤_;simp;omega
|n+1,c::r,line,col,op,acc=>by
  have hf:=QGj op line col acc
  have hd:=QSa (fun b:UInt8=>b.toNat != 10) r
  have hd2:=QSa Qha r
  simp only[lexF]
  split
  ·have:=Qzc n r line (col+1) op acc;simp;omega
  split
  ·have:=Qzc n r line (col+1) false (fin op line col acc);simp;omega
  split
  ·have:=Qzc n (r.dropWhile fun b=>b.toNat != 10) line (col+1+((r.takeWhile fun b=>b.toNat != 10).length:Int)) false (fin op line col acc);simp at this ⊢;omega
  split
  ·have:=Qzc n r (line+1) 1 false (fin op line col acc);simp;omega
  split
  ·have:=Qzc n r line (col+1) true (acc++[⟨2,[61],line,col⟩]);simp at this ⊢;omega
  split
  ·rename_i hp
   split
   ·simp
   split
   ·simp
   have he:(c::r).dropWhile Qha=r.dropWhile Qha:=by rw[List.dropWhile_cons,if_pos hp]
   have:=Qzc n ((c::r).dropWhile Qha) line (col+(((c::r).takeWhile Qha).length:Int)) true (acc++[⟨1,(c::r).takeWhile Qha,line,col⟩])
   have hl:=congrArg List.length he
   rw[hl] at this
   simp at this ⊢
   omega
  ·simp
theorem Qgj (l:List UInt8):(Qhd l).toks.length≤1000000:=by
 unfold Qhd
 split
 ·simp
 ·have:=Qzc (l.length+1) l 1 1 false [];unfold lex;simp at this;omega
def Qip (w:World)(P:Qhp)(e:Ending)(w':World):Prop:=
 ∃v,e=.returned (.tuple #[.agg #[v],.int .i64 P.line,.int .i64 P.col,.int .i64 P.err])∧QAa w' v P.funcs∧Below w.heap.size w w'
theorem QLe (w:World):QAa w (.slice none 0 0) []:=⟨[],Qg.nil,trivial⟩
theorem QTl {ts:List TypeId}{U:TypeId}{w:World}{R:Nat}(hR:tyAt w R=some U)(hU:U∉ts)(x:Value):QBe ts w (w.setCell ⟨R,0,none⟩ x):=fun t hm=>
 Qf.setCell (U:=U) hR (fun e=>hU (e▸hm))
def QOf (T:List Tok)(fs:List Qo)(s:PS):Qhp:=
 if s.err=0 then ⟨fs,0,0,0⟩ else ⟨[],((T[s.at_]?).getD ⟨0,[],0,0⟩).line,((T[s.at_]?).getD ⟨0,[],0,0⟩).col,s.err⟩
theorem QEq {l:List UInt8}{T:List Tok}(h:Qhd l=⟨T,0,0,0⟩){R:List Qo×PS}(hR:QSb (isW T Qrb) (QHc T) 8 [] (if isW T Qrb ⟨0,0⟩=true then ⟨0,0⟩ else PS.fail ⟨0,0⟩ 4)=R):
  Qug l=QOf T R.1 (if R.2.err=0∧R.2.at_<T.length then R.2.fail 4 else R.2):=by
 have e:QRr T=(R.1,if R.2.err=0∧R.2.at_<T.length then R.2.fail 4 else R.2):=by
  unfold QRr;dsimp only;rw[Qxi,hR]
 unfold Qug;rw[h];dsimp only;rw[e,if_neg ZD];unfold QOf;dsimp only;generalize (if R.2.err=0∧R.2.at_<T.length then R.2.fail 4 else R.2)=q
 split
 ·rfl
 ·cases T[q.at_]? <;> rfl
theorem QXf {w W w':World}{bp R:Nat}(hb:Below w.heap.size w W)(hbut:But bp W w')(hbp:w.heap.size≤bp)(hW:w.heap.size≤W.heap.size)(hR:R=w.heap.size)(x:Value):Below w.heap.size w (w'.setCell ⟨R,0,none⟩ x):=
 (hb.trans (hbut.toBelow hbp hW)).setCell (by show w.heap.size≤R;omega) _
end
end Go.Proofs.YtijekimobahgpaaGreatDoor
