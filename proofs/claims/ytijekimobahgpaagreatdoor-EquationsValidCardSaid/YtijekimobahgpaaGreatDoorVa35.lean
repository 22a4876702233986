/- A part of the proof. -/
import Derived.Test.YtijekimobahgpaaGreatDoorVa06
set_option linter.unusedVariables false
set_option linter.unusedSimpArgs false
set_option linter.unusedSectionVars false
set_option maxRecDepth 100000
set_option maxHeartbeats 16000000
namespace Go.Proofs.YtijekimobahgpaaGreatDoor
section
open Go.RowKit
variable [Base]
structure In2 (B bt fb:Nat)(F K:Int)(w0 w:World)(name:Str)(l:List QI):Prop where
 tape:QZ B w bt
 but:But bt w0 w
 ge:w0.heap.size≤fb
 lt:bt<w0.heap.size
 row:∃v xss,w.heap[fb]? = some (.cells #[sv name,v] 89 (0,0))∧w.ownsRow (fb+1) 92 2 v l.length xss.flatten∧All2 (QKa w) xss l
 gen:∀k b,l[k]? = some b→QHw F K k b
theorem In2.call {B bt fb:Nat}{F K:Int}{w0 w w1:World}{name:Str}{l:List QI}(h:In2 B bt fb F K w0 w name l)(ht:QZ B w1 bt)(hb':But bt w w1):In2 B bt fb F K w0 w1 name l:=by
 obtain⟨v,xss,h1,h2,h3⟩:=h.row;have:=h.lt;have:=h.ge;have hbs:=h.tape.bs;exact⟨ht,h.but.trans hb',h.ge,h.lt,⟨v,xss,hb'.blk h1 ZO,Qvc h2 hb' ZO,h3.mono fun _ _=>QKa.keep (Qf.but hb' (by rw[h.tape.ty];decide)) (Qf.but hb' (by rw[h.tape.ty];decide))⟩,h.gen⟩
theorem In2.alloc {B bt fb:Nat}{F K:Int}{w0 w:World}{name:Str}{l:List QI}(h:In2 B bt fb F K w0 w name l)(o:Obj):In2 B bt fb F K w0 (w.alloc o) name l:=
 h.call (h.tape.alloc o) ((But.refl bt w).alloc o)
theorem In3.alloc {B bt bb:Nat}{F:Int}{w0 w:World}{name:Str}{l:List QD}(h:In3 B bt bb F w0 w name l)(o:Obj):In3 B bt bb F w0 (w.alloc o) name l:=
 h.call (h.tape.alloc o) ((But.refl bt w).alloc o)
theorem Qww {w:World}{b:Nat}{a0 a1:Value}{t:TypeId}{fr:Nat×Nat}(h:w.heap[b]? = some (.cells #[a0,a1] t fr))(x:Value):
  (w.setCell ⟨b,1,none⟩ x).heap[b]? = some (.cells #[a0,x] t fr):=by
 simp[World.setCell,Array.getElem?_modify,h]
theorem In3.cells {B bt bb:Nat}{F:Int}{w0 w:World}{name:Str}{l:List QD}(h:In3 B bt bb F w0 w name l){v:Value}{fr:Nat×Nat}(hb:w.heap[bb]? = some (.cells #[sv name,v] 92 fr)):
  QKa w [sv name,v] ⟨name,l⟩:=by
 obtain⟨v',xss,h1,h2,h3⟩:=h.row;rw[h1] at hb;injection hb with hb
 injection hb with hb _ _
 injection hb with hb
 injection hb with _ hb
 injection hb with hb _
 subst hb;exact⟨v',rfl,xss,Qg.of_owns h2,h3⟩
theorem In2.push {B bt fb:Nat}{F K:Int}{w0 w w1:World}{name:Str}{l:List QI}(h:In2 B bt fb F K w0 w name l)(b:QI)(hgen:QHw F K l.length b)(cs:List Value)(hc:QKa w cs b){v:Value}{xss:List (List Value)}(hb:w.heap[fb]? = some (.cells #[sv name,v] 89 (0,0)))(hown:w.ownsRow (fb+1) 92 2 v l.length xss.flatten)(hall:All2 (QKa w) xss l){g cap:Nat}(hown1:w1.ownsRow (fb+1) 92 2 (.slice (some ⟨g,0,none⟩) (l.length+1) cap) (l.length+1) (xss.flatten++cs))(hg:w.grownBy w1 v.ownBlock):
  In2 B bt fb F K w0 (w1.setCell ⟨fb,1,none⟩ (.slice (some ⟨g,0,none⟩) (l.length+1) cap)) name (l++[b]):=by
 have hlt:=h.lt;have hge:=h.ge;have hbs:=h.tape.bs;have hbb:=Qb hb;have hbel:Below (fb+1) w w1:=Below.of_grown hg hown hbb;have hb1:w1.heap[fb]? = some (.cells #[sv name,v] 89 (0,0)):=(hbel.block fb ZO).trans hb;have hS (T:TypeId) (h1:T≠92) (h2:T≠89):Qf T w (w1.setCell ⟨fb,1,none⟩ (.slice (some ⟨g,0,none⟩) (l.length+1) cap)):=
  (Qf.grown hg hown h1).trans (Qf.setCell (U:=89) (Qv hb1) h2)
 have h9:=hS 9 ZD ZD;have h64:=hS 94 ZD ZD;have hget:=h.tape.ge;refine⟨?_,?_,hge,hlt,⟨.slice (some ⟨g,0,none⟩) (l.length+1) cap,xss++[cs],?_,?_,?_⟩,?_⟩
 ·have t1:QZ B w1 bt:=h.tape.keep (hbel.block bt ZO) (fun k hk=>hbel.block k ZO) hbel.size;exact t1.setCell (by show fb≠bt;omega) (by show B≤fb;omega) _
 ·exact(h.but.belowB hbel ZO).setCell _ (.inr hge) _
 ·simp[World.setCell,Array.getElem?_modify,hb1]
 ·rw[List.length_append,List.flatten_append];refine ownsRow_setCell_below ?_ (by show fb<fb+1;omega) _
  simpa using hown1
 ·exact All2.append (hall.mono fun _ _=>QKa.keep h9 h64) ⟨hc.keep h9 h64,trivial⟩
 ·intro k x hx;rcases Nat.lt_or_ge k l.length with hk|hk
  ·rw[List.getElem?_append_left hk] at hx;exact h.gen k x hx
  ·rw[List.getElem?_append_right hk] at hx;have:k=l.length:=by
    rcases Nat.eq_or_lt_of_le hk with h|h
    ·exact h.symm
    ·rw[List.getElem?_eq_none (by simp;omega)] at hx;cases hx
   subst this;simp at hx;subst hx;exact hgen
structure Bun (B bt bb:Nat)(F:Int)(w0 w:World)(nm:Str)(st:List QD)(v:Value)(xss:List (List Value)):Prop where
 in3:In3 B bt bb F w0 w nm st
 hb:w.heap[bb]? = some (.cells #[sv nm,v] 92 (0,0))
 ho:w.ownsRow (bb+1) 94 4 v st.length xss.flatten
 ha:All2 (QZa w) xss st
theorem Bun.cell {B bt bb:Nat}{F:Int}{w0 w:World}{nm:Str}{st:List QD}{v:Value}{xss:List (List Value)}(h:Bun B bt bb F w0 w nm st v xss):w.cell? ⟨bb,1,none⟩=some v:=by
 have:=(Qd h.hb).1 1
 simpa using this
theorem Bun.call {B bt bb:Nat}{F:Int}{w0 w w1:World}{nm:Str}{st:List QD}{v:Value}{xss:List (List Value)}(h:Bun B bt bb F w0 w nm st v xss)(ht:QZ B w1 bt)(hb:But bt w w1):Bun B bt bb F w0 w1 nm st v xss:=by
 have:=h.in3.lt;have:=h.in3.ge;have hbs:=h.in3.tape.bs;exact⟨h.in3.call ht hb,hb.blk h.hb ZO,Qvc h.ho hb ZO,h.ha.mono fun _ _=>QZa.keep (Qf.but hb (by rw[h.in3.tape.ty];decide))⟩
theorem Bun.alloc {B bt bb:Nat}{F:Int}{w0 w:World}{nm:Str}{st:List QD}{v:Value}{xss:List (List Value)}(h:Bun B bt bb F w0 w nm st v xss)(o:Obj):Bun B bt bb F w0 (w.alloc o) nm st v xss:=
 h.call (h.in3.tape.alloc o) ((But.refl bt w).alloc o)
theorem Bun.below {B bt bb:Nat}{F:Int}{w0 w w1:World}{nm:Str}{st:List QD}{v:Value}{xss:List (List Value)}(h:Bun B bt bb F w0 w nm st v xss)(hb:Below w.heap.size w w1):Bun B bt bb F w0 w1 nm st v xss:=
 h.call (h.in3.tape.below hb) ((But.refl bt w).below hb)
theorem Qg.newH {w:World}{T:TypeId}{sz:Nat}(xs:List Value)(n:Nat)(H:Nat)(hH:w.heap.size=H)(h:xs.length=n*sz)(hn:n≤maxLen):
  Qg (w.alloc (.cells xs.toArray T)) T sz (.slice (some ⟨H,0,none⟩) n n) xs:=by
 subst hH;exact Qg.new xs n h hn
theorem QAx {B bt fb R:Nat}{F:Int}{Kn:Nat}{w0 w:World}{name:Str}{l:List QI}(iv bp n:Value)(u:Nat→Value)(hF1:1≤F)(hF3:F≤3)(hK:Kn≤3)(h:In2 B bt fb F Kn w0 w name l)(hk:l.length<Kn):
  QAw.wp Tryz.prog (Exit.then (fun a' w'=>(∃b,a'=frP bt R F iv (.pointer (some ⟨fb,0,none⟩)) (.int .i64 (Kn:Int)) (.int .i64 ((l.length+1:Nat):Int)) (Qqp a' 9) (Qqp a' 10) (Qqp a')∧In2 B bt fb F Kn w0 w' name (l++[b]))) Qqy)
   (frP bt R F iv (.pointer (some ⟨fb,0,none⟩)) (.int .i64 (Kn:Int)) (.int .i64 (l.length:Int)) bp n u) w:=by
 obtain⟨kn,hkn⟩:=Ze l.length;rw[hkn];have hk3:kn<3:=by omega
 have hkK:kn<Kn:=by omega
 have Hkn:=Zh hkn;have hlt:=h.lt;have H:=Zh h;clear h hkn hk;obtain⟨nm,hnm⟩:∃nm,Qpw[kn]? = some nm:=by
  have:kn=0∨kn=1∨kn=2:=by omega
  rcases this with rfl|rfl|rfl <;> exact⟨_,rfl⟩
 have hcell:(#[sv [97],sv [98],sv [99]]:Array Value)[kn]? = some (sv nm):=by
  have:kn=0∨kn=1∨kn=2:=by omega
  rcases this with rfl|rfl|rfl <;>(injection hnm with hnm;rw[←hnm];rfl)
 have hc:=(Qd (heap_alloc_new w (.cells #[sv [97],sv [98],sv [99]] 9))).1 kn;rw[hcell] at hc;have Hnm:=Zh hnm;clear hnm hcell
 conv=>arg 2;whnf
 unfold frP;go_wp2_with fail;refine(QMc ((H.o.tape.alloc _).alloc _) _ ZO).mono ?_;rintro e w1 ⟨r,r0,r4,rfl,t1,b1⟩;have I1:Hid (In3 B bt (w.heap.size+1) F w w1 nm []):=by
  have hlt2:=H.o.tape.lt;refine⟨t1,(((But.refl bt w).alloc _).alloc _).trans b1,by omega,hlt2,⟨.slice none 0 0,[],?_,World.ownsRow_nil _ _ _ _,trivial⟩⟩;refine b1.blk ?_ ZO;have:=heap_alloc_new (w.alloc (.cells #[sv [97],sv [98],sv [99]] 9)) (.cells #[sv nm,.slice none 0 0] 92);rw[World.size_alloc] at this;exact this
 have H1:Hid (In2 B bt fb F Kn w0 w1 name l):=(((H.o.alloc _).alloc _).call t1 b1);clear t1 b1;obtain⟨m,rfl⟩:=Int.eq_ofNat_of_zero_le r0;go_wp2_with fail;rename_i K2 hK2;refine QCx (iv:=iv) (fp:=.pointer (some ⟨fb,0,none⟩)) (K:=.int .i64 (Kn:Int)) (k:=.int .i64 (kn:Int)) (m:=m) hF1 hF3 I1.o (by show 0+m≤3;omega) ZS rfl ?_;rintro a w2 ⟨st,ha,hI3,hl3,hgen⟩;rw[ha];generalize Qqp a=u2;refine hK2 _ _ ?_;have hfw:fb<w.heap.size:=by
  obtain⟨v,xss,h1,_⟩:=H.o.row;exact Qb h1
 have I3:=Zh hI3;have HGen:=Zh hgen;clear ha hI3 hgen I1 H1 hc hK2;unfold frP;obtain⟨bb,hbb⟩:=Ze (w.heap.size+1);rw[hbb] at I3 ⊢;have hfb:fb<bb:=by omega
 have Hbb:=Zh hbb;clear hbb;go_wp2_with fail;refine(QMc I3.o.tape _ ZO).mono ?_;rintro e w3 ⟨r,q1,q2,rfl,t3,b3⟩;have I4:=Zh (I3.o.call t3 b3);clear t3 b3 I3;obtain⟨rn,rfl⟩:=Int.eq_ofNat_of_zero_le q1;go_wp2_with fail;refine(Qvw rn ZO _).mono ?_;rintro e w4 ⟨⟨tq,hto,rfl⟩,b4⟩;have I5:=Zh (I4.o.call (I4.o.tape.below b4) ((But.refl bt w3).below b4));clear b4 I4;have Hto:=Zh hto;clear hto;go_wp2_with fail;refine(QMc I5.o.tape _ ZO).mono ?_;rintro e w5 ⟨q,q3,q4,rfl,t5,b5⟩;have I6:=Zh (I5.o.call t5 b5);clear t5 b5 I5;obtain⟨v,xss,hb,hown,hall⟩:=I6.o.row;obtain⟨fv,fxss,hfbk,hfown,hfall⟩:=(H.o.call I6.o.tape I6.o.but).row;have HB:=Zh hb;have HO:=Zh hown;have HA:=Zh hall;have hc1:=(Qd hb).1 1;have hf1:=(Qd hb).2 1;simp at hc1;have hsz:=Qb hb;have hlx:l.length≤3:=by have:=Hkn.o;omega
 clear hb hown hall hfbk hfown hfall;have hq:q=0∨q=1∨q=2∨q=3:=by omega
 clear q3 q4;rcases hq with rfl|rfl|rfl|rfl
 ·go_wp2_with (first
  |(at_builtin;refine Qcb [.int .i64 9,.string ⟨#[]⟩,.slice none 0 0,.slice none 0 0] rfl _ _ 90 rfl (bb+1) 94 _ 4 72 Tryz.underlying90 QGm rfl ZO _ _ _ HO.o rfl _ rfl ZS rfl rfl (by unfold maxLen;omega) ZO ZO ?_;intro g cap w6 hown1 hg1 hg2 hg3;have hbl:=Below.of_grown hg1 HO.o ZO;have I7:=Zh (I6.o.push ⟨9,[],[],[]⟩ _ ⟨_,_,rfl,Qg.nil,Qg.nil⟩ HB.o HO.o HA.o hown1 hg1);obtain⟨fv,fxss,hfbk,hfown,hfall⟩:=(H.o.call I7.o.tape I7.o.but).row;have hf6:=(Below.heap_setCell w6 ⟨bb,1,none⟩ _ fb (by show fb≠bb;omega)).symm.trans hfbk;have hb6:=(hbl.block bb ZO).trans HB.o;have c0:=(Qd hb6).1 0;have c1:=(Qd hb6).1 1;have d0:=(Qd hb6).2 0;have d1:=(Qd hb6).2 1;have k1:=(Qd hf6).1 1;have k2:=(Qd hf6).2 1;simp only[List.getElem?_toArray,List.getElem?_cons_succ,List.getElem?_cons_zero] at c0 c1 k1;have HBC:=Zh (I7.o.cells (Qww hb6 _));have HF7:=Zh hfown;have HF8:=Zh hfbk;have HF9:=Zh hfall;have hne:¬fb=bb:=ZO;clear hown1 hg1 hbl hfbk hfown hfall hf6 hb6)
  |(at_builtin;refine Qcb _ rfl _ _ 87 rfl (fb+1) 92 _ 2 40 Tryz.underlying87 QEk rfl ZO _ _ _ HF7.o rfl _ rfl ZS rfl rfl (by unfold maxLen;omega) ZO (by have:=HF8.o;have:=Qb this;omega) ?_;intro g2 cap2 w8 hown8 hg8 hg9 hg10;have hb8:=Below.of_grown hg8 HF7.o (by have:=HF8.o;have:=Qb this;omega);have e1:=(Qd ((hb8.block fb ZO).trans HF8.o)).1 1;have e2:=(Qd ((hb8.block fb ZO).trans HF8.o)).2 1;simp only[List.getElem?_toArray,List.getElem?_cons_succ,List.getElem?_cons_zero] at e1;have J2:=Zh hown8;have J3:=Zh hg8;clear hown8 hg8 hb8)
  |fail)
  have hfin:=Zh ((H.o.call I7.o.tape I7.o.but).push _ (by rw[Hkn.o];exact⟨Hnm.o,st,_,rfl,hl3,HGen.o,.inl ⟨rfl,rfl,rfl,rfl⟩⟩) _ HBC.o HF8.o HF7.o HF9.o J2.o J3.o);go_wp2
  try simp only[Exit.then]
  exact⟨_,rfl,hfin.o⟩
 ·go_wp2_with (first
  |(at_builtin;refine Qcb [.int .i64 7,.string ⟨#[]⟩,.slice none 0 0,.slice (some ⟨w5.heap.size,0,none⟩) 1 1] rfl _ _ 90 rfl (bb+1) 94 _ 4 72 Tryz.underlying90 QGm rfl ZO _ _ _ (HO.o.alloc _) rfl _ rfl ZS rfl rfl (by unfold maxLen;omega) ZO (by simp;omega) ?_;intro g cap w6 hown1 hg1 hg2 hg3;have hbl:=Below.of_grown hg1 (HO.o.alloc _) (by simp;omega);have I7:=Zh ((I6.o.alloc _).push ⟨7,[],[],[tq]⟩ _ ⟨_,_,rfl,Qg.nil,Qg.new [sv tq] 1 rfl (by unfold maxLen;omega)⟩ (Qfa _ HB.o) (HO.o.alloc _) (HA.o.mono fun _ _=>QZa.keep Qf.alloc) hown1 hg1);obtain⟨fv,fxss,hfbk,hfown,hfall⟩:=(H.o.call I7.o.tape I7.o.but).row;have hf6:=(Below.heap_setCell w6 ⟨bb,1,none⟩ _ fb (by show fb≠bb;omega)).symm.trans hfbk;have hb6:=(hbl.block bb ZO).trans (Qfa _ HB.o);have c0:=(Qd hb6).1 0;have c1:=(Qd hb6).1 1;have d0:=(Qd hb6).2 0;have d1:=(Qd hb6).2 1;have k1:=(Qd hf6).1 1;have k2:=(Qd hf6).2 1;simp only[List.getElem?_toArray,List.getElem?_cons_succ,List.getElem?_cons_zero] at c0 c1 k1;have HBC:=Zh (I7.o.cells (Qww hb6 _));have HF7:=Zh hfown;have HF8:=Zh hfbk;have HF9:=Zh hfall;have hne:¬fb=bb:=ZO;clear hown1 hg1 hbl hfbk hfown hfall hf6 hb6)
  |(at_builtin;refine Qcb _ rfl _ _ 87 rfl (fb+1) 92 _ 2 40 Tryz.underlying87 QEk rfl ZO _ _ _ HF7.o rfl _ rfl ZS rfl rfl (by unfold maxLen;omega) ZO (by have:=HF8.o;have:=Qb this;omega) ?_;intro g2 cap2 w8 hown8 hg8 hg9 hg10;have hb8:=Below.of_grown hg8 HF7.o (by have:=HF8.o;have:=Qb this;omega);have e1:=(Qd ((hb8.block fb ZO).trans HF8.o)).1 1;have e2:=(Qd ((hb8.block fb ZO).trans HF8.o)).2 1;simp only[List.getElem?_toArray,List.getElem?_cons_succ,List.getElem?_cons_zero] at e1;have J2:=Zh hown8;have J3:=Zh hg8;clear hown8 hg8 hb8)
  |fail)
  have hfin:=Zh ((H.o.call I7.o.tape I7.o.but).push _ (by rw[Hkn.o];exact⟨Hnm.o,st,_,rfl,hl3,HGen.o,.inr (.inl ⟨rfl,rfl,rfl,rn,by omega,tq,Hto.o,rfl⟩)⟩) _ HBC.o HF8.o HF7.o HF9.o J2.o J3.o);go_wp2
  try simp only[Exit.then]
  exact⟨_,rfl,hfin.o⟩
 ·have BU:=Zh (show Bun B bt bb F w w5 nm st v xss from⟨I6.o,HB.o,HO.o,HA.o⟩);clear HB HO HA I6;go_wp2_with fail;refine QDl (S:=fun w'=>w'.cell? ⟨bb,1,none⟩=some v) (st:=15) ZK ?_;refine Zp 0 ?v1 BU.o.cell ?run1 ?rest1
  case run1=>intro w hS;go_simp;rfl
  case rest1=>
   refine Zp 1 ?v2 BU.o.cell ?run2 ?rest2
   case run2=>intro w hS;go_simp;rfl
   case rest2=>
    refine Zp 2 ?v3 BU.o.cell ?run3 ?rest3
    case run3=>intro w hS;go_simp;rfl
    case rest3=>
     refine Zp 5 ?v4 BU.o.cell ?run4 ?rest4
     case run4=>intro w hS;go_simp;rfl
     case rest4=>
      refine Zp 6 ?v5 BU.o.cell ?run5 ?rest5
      case run5=>intro w hS;go_simp;rfl
      case rest5=>
       refine Zp 7 ?v6 BU.o.cell ?run6 ?rest6
       case run6=>intro w hS;go_simp;rfl
       case rest6=>
        refine Zt 3 ?_;refine Ql rfl ?_;go_wp2_with fail;refine(name_any (BU.o.in3.tape.drewN 1)).mono ?_;rintro e wA ⟨vn,hvn,rfl,tA,bA⟩;have IA:=Zh (BU.o.call tA (But.undrew bA));clear tA bA;go_wp2;refine⟨fun _=>(IA.o).cell,?_⟩;refine Qh (rs:=[4,8]) ZK ZD ?_;intro i hi;have hi2:i=4∨i=8:=by simpa using hi
        clear hi;rcases hi2 with rfl|rfl
        ·skip
         refine Ql rfl ?_;go_wp2;have UU:Hid (Qea (wA.alloc (.cells #[sv vn] 9)) (.slice (some ⟨wA.heap.size,0,none⟩) 1 1) [vn]):=Qg.newH [sv vn] 1 _ ZS rfl (by unfold maxLen;omega);refine⟨fun _=>((IA.o.alloc (.cells #[sv vn] 9))).cell,?_⟩;refine Zt 8 ?_;refine Ql rfl ?_;go_wp2_with fail;refine(QMc ((IA.o.alloc (.cells #[sv vn] 9))).in3.tape _ ZO).mono ?_;rintro e wB ⟨rB,p1,p2,rfl,tB,bB⟩;have IB:=Zh (((IA.o.alloc (.cells #[sv vn] 9))).call tB bB);have UB:=Zh (Qg.same (UU.o) (Qf.but bB (by rw[((IA.o.alloc (.cells #[sv vn] 9))).in3.tape.ty];decide) IA.o.in3.tape.bs));clear tB bB;obtain⟨rb,rfl⟩:=Int.eq_ofNat_of_zero_le p1;go_wp2;refine⟨fun _=>(IB.o).cell,?_⟩;refine Zt 9 ?_;refine Ql rfl ?_;go_wp2_with fail;refine(Qvw rb ZO _).mono ?_;rintro e wC ⟨⟨to2,hto2,rfl⟩,bC⟩;have IC:=Zh ((IB.o).below bC);have UC:=Zh (Qg.same (UB.o) (Qf.below bC));have Hto2:=Zh hto2;clear bC hto2;go_wp2;refine⟨fun _=>(IC.o).cell,?_⟩;refine Zt 10 ?_;refine Ql rfl ?_;go_wp2;have TT:Hid (Qea (wC.alloc (.cells #[sv tq,sv to2] 9)) (.slice (some ⟨wC.heap.size,0,none⟩) 2 2) [tq,to2]):=Qg.newH [sv tq,sv to2] 2 _ ZS rfl (by unfold maxLen;omega);refine⟨fun _=>((IC.o.alloc (.cells #[sv tq,sv to2] 9))).cell,?_⟩;refine Qr 11 ?v7 rfl ZK ZK ZK ZK (fun _ _ _ h=>h) ((IC.o.alloc (.cells #[sv tq,sv to2] 9))).cell rfl ?run7 ?rest7
         case run7=>intro w hS;go_simp;rfl
         case rest7=>
          refine Zt 12 ?_;refine Ql rfl ?_;go_wp2;refine⟨fun _=>((IC.o.alloc (.cells #[sv tq,sv to2] 9)).alloc _).cell,?_⟩;refine Zt 13 ?_;refine Ql rfl ?_
          (refine Qcb _ rfl _ _ 90 rfl (bb+1) 94 _ 4 72 Tryz.underlying90 QGm rfl ZO v st.length xss.flatten ((IC.o.alloc (.cells #[sv tq,sv to2] 9))).ho rfl _ rfl ZS rfl rfl (by unfold maxLen;omega) ZO (by have:=Qb ((IC.o.alloc (.cells #[sv tq,sv to2] 9))).hb;omega) ?_;intro g cap w6 hown1 hg1 hg2 hg3;have BW:=Zh ((IC.o.alloc (.cells #[sv tq,sv to2] 9)));have CS:=Zh (show QZa (wC.alloc (.cells #[sv tq,sv to2] 9)) _ ⟨8,[],[vn],[tq,to2]⟩ from⟨_,_,rfl,(Qg.same (UC.o) Qf.alloc),TT.o⟩);have I7:=Zh (BW.o.in3.push _ _ CS.o BW.o.hb BW.o.ho BW.o.ha hown1 hg1);have hbl:=Below.of_grown hg1 BW.o.ho (Qb BW.o.hb);obtain⟨fv,fxss,hfbk,hfown,hfall⟩:=(H.o.call I7.o.tape I7.o.but).row;have hf6:=(Below.heap_setCell w6 ⟨bb,1,none⟩ _ fb (by show fb≠bb;omega)).symm.trans hfbk;have hb6:=(hbl.block bb ZO).trans BW.o.hb;have c0:=(Qd hb6).1 0;have c1:=(Qd hb6).1 1;have d0:=(Qd hb6).2 0;have d1:=(Qd hb6).2 1;have k1:=(Qd hf6).1 1;have k2:=(Qd hf6).2 1;simp only[List.getElem?_toArray,List.getElem?_cons_succ,List.getElem?_cons_zero] at c0 c1 k1;have HBC:=Zh (I7.o.cells (Qww hb6 _));have HF7:=Zh hfown;have HF8:=Zh hfbk;have HF9:=Zh hfall;have hne:¬fb=bb:=ZO;clear hown1 hg1 hbl hfbk hfown hfall hf6 hb6)
          go_wp2;refine Zp 14 ?v8 c1 ?run8 ?rest8
          case run8=>intro w hS;go_simp;rfl
          case rest8=>
           refine Zt 15 ?_;refine Ql rfl ?_;go_wp2;refine⟨fun h=>absurd rfl h,?_⟩;refine Qu ZK ?_ _;go_wp2_with (first|(at_builtin;refine Qcb _ rfl _ _ 87 rfl (fb+1) 92 _ 2 40 Tryz.underlying87 QEk rfl ZO _ _ _ HF7.o rfl _ rfl ZS rfl rfl (by unfold maxLen;omega) ZO (by have:=HF8.o;have:=Qb this;omega) ?_;intro g2 cap2 w8 hown8 hg8 hg9 hg10;have hb8:=Below.of_grown hg8 HF7.o (by have:=HF8.o;have:=Qb this;omega);have e1:=(Qd ((hb8.block fb ZO).trans HF8.o)).1 1;have e2:=(Qd ((hb8.block fb ZO).trans HF8.o)).2 1;simp only[List.getElem?_toArray,List.getElem?_cons_succ,List.getElem?_cons_zero] at e1;have J2:=Zh hown8;have J3:=Zh hg8;clear hown8 hg8 hb8)|fail);have hfin:=Zh ((H.o.call I7.o.tape I7.o.but).push _ (by rw[Hkn.o];exact⟨Hnm.o,st,_,rfl,hl3,HGen.o,.inr (.inr ⟨rfl,rfl,⟨vn,hvn,rfl⟩,rn,rb,by omega,by omega,tq,to2,Hto.o,Hto2.o,rfl⟩)⟩) _ HBC.o HF8.o HF7.o HF9.o J2.o J3.o);go_wp2
           try simp only[Exit.then]
           exact⟨_,rfl,hfin.o⟩
        ·skip
         refine Ql rfl ?_;go_wp2_with fail;refine(QMc (IA.o).in3.tape _ ZO).mono ?_;rintro e wB ⟨rB,p1,p2,rfl,tB,bB⟩;have IB:=Zh ((IA.o).call tB bB);clear tB bB;obtain⟨rb,rfl⟩:=Int.eq_ofNat_of_zero_le p1;go_wp2;refine⟨fun _=>(IB.o).cell,?_⟩;refine Qh (rs:=[4,9]) ZK ZD ?_;intro i hi;have hi2:i=4∨i=9:=by simpa using hi
         clear hi;rcases hi2 with rfl|rfl
         ·skip
          refine Ql rfl ?_;go_wp2;have UU:Hid (Qea (wB.alloc (.cells #[sv vn] 9)) (.slice (some ⟨wB.heap.size,0,none⟩) 1 1) [vn]):=Qg.newH [sv vn] 1 _ ZS rfl (by unfold maxLen;omega);refine⟨fun _=>((IB.o.alloc (.cells #[sv vn] 9))).cell,?_⟩;refine Zt 9 ?_;refine Ql rfl ?_;go_wp2_with fail;refine(Qvw rb ZO _).mono ?_;rintro e wC ⟨⟨to2,hto2,rfl⟩,bC⟩;have IC:=Zh (((IB.o.alloc (.cells #[sv vn] 9))).below bC);have UC:=Zh (Qg.same (UU.o) (Qf.below bC));have Hto2:=Zh hto2;clear bC hto2;go_wp2;refine⟨fun _=>(IC.o).cell,?_⟩;refine Zt 10 ?_;refine Ql rfl ?_;go_wp2;have TT:Hid (Qea (wC.alloc (.cells #[sv tq,sv to2] 9)) (.slice (some ⟨wC.heap.size,0,none⟩) 2 2) [tq,to2]):=Qg.newH [sv tq,sv to2] 2 _ ZS rfl (by unfold maxLen;omega);refine⟨fun _=>((IC.o.alloc (.cells #[sv tq,sv to2] 9))).cell,?_⟩;refine Qr 11 ?v9 rfl ZK ZK ZK ZK (fun _ _ _ h=>h) ((IC.o.alloc (.cells #[sv tq,sv to2] 9))).cell rfl ?run9 ?rest9
          case run9=>intro w hS;go_simp;rfl
          case rest9=>
           refine Zt 12 ?_;refine Ql rfl ?_;go_wp2;refine⟨fun _=>((IC.o.alloc (.cells #[sv tq,sv to2] 9)).alloc _).cell,?_⟩;refine Zt 13 ?_;refine Ql rfl ?_
           (refine Qcb _ rfl _ _ 90 rfl (bb+1) 94 _ 4 72 Tryz.underlying90 QGm rfl ZO v st.length xss.flatten ((IC.o.alloc (.cells #[sv tq,sv to2] 9))).ho rfl _ rfl ZS rfl rfl (by unfold maxLen;omega) ZO (by have:=Qb ((IC.o.alloc (.cells #[sv tq,sv to2] 9))).hb;omega) ?_;intro g cap w6 hown1 hg1 hg2 hg3;have BW:=Zh ((IC.o.alloc (.cells #[sv tq,sv to2] 9)));have CS:=Zh (show QZa (wC.alloc (.cells #[sv tq,sv to2] 9)) _ ⟨8,[],[vn],[tq,to2]⟩ from⟨_,_,rfl,(Qg.same (UC.o) Qf.alloc),TT.o⟩);have I7:=Zh (BW.o.in3.push _ _ CS.o BW.o.hb BW.o.ho BW.o.ha hown1 hg1);have hbl:=Below.of_grown hg1 BW.o.ho (Qb BW.o.hb);obtain⟨fv,fxss,hfbk,hfown,hfall⟩:=(H.o.call I7.o.tape I7.o.but).row;have hf6:=(Below.heap_setCell w6 ⟨bb,1,none⟩ _ fb (by show fb≠bb;omega)).symm.trans hfbk;have hb6:=(hbl.block bb ZO).trans BW.o.hb;have c0:=(Qd hb6).1 0;have c1:=(Qd hb6).1 1;have d0:=(Qd hb6).2 0;have d1:=(Qd hb6).2 1;have k1:=(Qd hf6).1 1;have k2:=(Qd hf6).2 1;simp only[List.getElem?_toArray,List.getElem?_cons_succ,List.getElem?_cons_zero] at c0 c1 k1;have HBC:=Zh (I7.o.cells (Qww hb6 _));have HF7:=Zh hfown;have HF8:=Zh hfbk;have HF9:=Zh hfall;have hne:¬fb=bb:=ZO;clear hown1 hg1 hbl hfbk hfown hfall hf6 hb6)
           go_wp2;refine Zp 14 ?v10 c1 ?run10 ?rest10
           case run10=>intro w hS;go_simp;rfl
           case rest10=>
            refine Zt 15 ?_;refine Ql rfl ?_;go_wp2;refine⟨fun h=>absurd rfl h,?_⟩;refine Qu ZK ?_ _;go_wp2_with (first|(at_builtin;refine Qcb _ rfl _ _ 87 rfl (fb+1) 92 _ 2 40 Tryz.underlying87 QEk rfl ZO _ _ _ HF7.o rfl _ rfl ZS rfl rfl (by unfold maxLen;omega) ZO (by have:=HF8.o;have:=Qb this;omega) ?_;intro g2 cap2 w8 hown8 hg8 hg9 hg10;have hb8:=Below.of_grown hg8 HF7.o (by have:=HF8.o;have:=Qb this;omega);have e1:=(Qd ((hb8.block fb ZO).trans HF8.o)).1 1;have e2:=(Qd ((hb8.block fb ZO).trans HF8.o)).2 1;simp only[List.getElem?_toArray,List.getElem?_cons_succ,List.getElem?_cons_zero] at e1;have J2:=Zh hown8;have J3:=Zh hg8;clear hown8 hg8 hb8)|fail);have hfin:=Zh ((H.o.call I7.o.tape I7.o.but).push _ (by rw[Hkn.o];exact⟨Hnm.o,st,_,rfl,hl3,HGen.o,.inr (.inr ⟨rfl,rfl,⟨vn,hvn,rfl⟩,rn,rb,by omega,by omega,tq,to2,Hto.o,Hto2.o,rfl⟩)⟩) _ HBC.o HF8.o HF7.o HF9.o J2.o J3.o);go_wp2
            try simp only[Exit.then]
            exact⟨_,rfl,hfin.o⟩
         ·skip
          refine Ql rfl ?_;go_wp2_with fail;refine(Qvw rb ZO _).mono ?_;rintro e wC ⟨⟨to2,hto2,rfl⟩,bC⟩;have IC:=Zh ((IB.o).below bC);have Hto2:=Zh hto2;clear bC hto2;go_wp2;refine⟨fun _=>(IC.o).cell,?_⟩;refine Qh (rs:=[4,10]) ZK ZD ?_;intro i hi;have hi2:i=4∨i=10:=by simpa using hi
          clear hi;rcases hi2 with rfl|rfl
          ·skip
           refine Ql rfl ?_;go_wp2;have UU:Hid (Qea (wC.alloc (.cells #[sv vn] 9)) (.slice (some ⟨wC.heap.size,0,none⟩) 1 1) [vn]):=Qg.newH [sv vn] 1 _ ZS rfl (by unfold maxLen;omega);refine⟨fun _=>((IC.o.alloc (.cells #[sv vn] 9))).cell,?_⟩;refine Zt 10 ?_;refine Ql rfl ?_;go_wp2;have TT:Hid (Qea ((wC.alloc (.cells #[sv vn] 9)).alloc (.cells #[sv tq,sv to2] 9)) (.slice (some ⟨wC.heap.size+1,0,none⟩) 2 2) [tq,to2]):=Qg.newH [sv tq,sv to2] 2 _ ZS rfl (by unfold maxLen;omega);refine⟨fun _=>(((IC.o.alloc (.cells #[sv vn] 9)).alloc (.cells #[sv tq,sv to2] 9))).cell,?_⟩;refine Qr 11 ?v11 rfl ZK ZK ZK ZK (fun _ _ _ h=>h) (((IC.o.alloc (.cells #[sv vn] 9)).alloc (.cells #[sv tq,sv to2] 9))).cell rfl ?run11 ?rest11
           case run11=>intro w hS;go_simp;rfl
           case rest11=>
            refine Zt 12 ?_;refine Ql rfl ?_;go_wp2;refine⟨fun _=>(((IC.o.alloc (.cells #[sv vn] 9)).alloc (.cells #[sv tq,sv to2] 9)).alloc _).cell,?_⟩;refine Zt 13 ?_;refine Ql rfl ?_
            (refine Qcb _ rfl _ _ 90 rfl (bb+1) 94 _ 4 72 Tryz.underlying90 QGm rfl ZO v st.length xss.flatten (((IC.o.alloc (.cells #[sv vn] 9)).alloc (.cells #[sv tq,sv to2] 9))).ho rfl _ rfl ZS rfl rfl (by unfold maxLen;omega) ZO (by have:=Qb (((IC.o.alloc (.cells #[sv vn] 9)).alloc (.cells #[sv tq,sv to2] 9))).hb;omega) ?_;intro g cap w6 hown1 hg1 hg2 hg3;have BW:=Zh (((IC.o.alloc (.cells #[sv vn] 9)).alloc (.cells #[sv tq,sv to2] 9)));have CS:=Zh (show QZa ((wC.alloc (.cells #[sv vn] 9)).alloc (.cells #[sv tq,sv to2] 9)) _ ⟨8,[],[vn],[tq,to2]⟩ from⟨_,_,rfl,(Qg.same (UU.o) Qf.alloc),TT.o⟩);have I7:=Zh (BW.o.in3.push _ _ CS.o BW.o.hb BW.o.ho BW.o.ha hown1 hg1);have hbl:=Below.of_grown hg1 BW.o.ho (Qb BW.o.hb);obtain⟨fv,fxss,hfbk,hfown,hfall⟩:=(H.o.call I7.o.tape I7.o.but).row;have hf6:=(Below.heap_setCell w6 ⟨bb,1,none⟩ _ fb (by show fb≠bb;omega)).symm.trans hfbk;have hb6:=(hbl.block bb ZO).trans BW.o.hb;have c0:=(Qd hb6).1 0;have c1:=(Qd hb6).1 1;have d0:=(Qd hb6).2 0;have d1:=(Qd hb6).2 1;have k1:=(Qd hf6).1 1;have k2:=(Qd hf6).2 1;simp only[List.getElem?_toArray,List.getElem?_cons_succ,List.getElem?_cons_zero] at c0 c1 k1;have HBC:=Zh (I7.o.cells (Qww hb6 _));have HF7:=Zh hfown;have HF8:=Zh hfbk;have HF9:=Zh hfall;have hne:¬fb=bb:=ZO;clear hown1 hg1 hbl hfbk hfown hfall hf6 hb6)
            go_wp2;refine Zp 14 ?v12 c1 ?run12 ?rest12
            case run12=>intro w hS;go_simp;rfl
            case rest12=>
             refine Zt 15 ?_;refine Ql rfl ?_;go_wp2;refine⟨fun h=>absurd rfl h,?_⟩;refine Qu ZK ?_ _;go_wp2_with (first|(at_builtin;refine Qcb _ rfl _ _ 87 rfl (fb+1) 92 _ 2 40 Tryz.underlying87 QEk rfl ZO _ _ _ HF7.o rfl _ rfl ZS rfl rfl (by unfold maxLen;omega) ZO (by have:=HF8.o;have:=Qb this;omega) ?_;intro g2 cap2 w8 hown8 hg8 hg9 hg10;have hb8:=Below.of_grown hg8 HF7.o (by have:=HF8.o;have:=Qb this;omega);have e1:=(Qd ((hb8.block fb ZO).trans HF8.o)).1 1;have e2:=(Qd ((hb8.block fb ZO).trans HF8.o)).2 1;simp only[List.getElem?_toArray,List.getElem?_cons_succ,List.getElem?_cons_zero] at e1;have J2:=Zh hown8;have J3:=Zh hg8;clear hown8 hg8 hb8)|fail);have hfin:=Zh ((H.o.call I7.o.tape I7.o.but).push _ (by rw[Hkn.o];exact⟨Hnm.o,st,_,rfl,hl3,HGen.o,.inr (.inr ⟨rfl,rfl,⟨vn,hvn,rfl⟩,rn,rb,by omega,by omega,tq,to2,Hto.o,Hto2.o,rfl⟩)⟩) _ HBC.o HF8.o HF7.o HF9.o J2.o J3.o);go_wp2
             try simp only[Exit.then]
             exact⟨_,rfl,hfin.o⟩
          ·skip
           refine Ql rfl ?_;go_wp2;have TT:Hid (Qea (wC.alloc (.cells #[sv tq,sv to2] 9)) (.slice (some ⟨wC.heap.size,0,none⟩) 2 2) [tq,to2]):=Qg.newH [sv tq,sv to2] 2 _ ZS rfl (by unfold maxLen;omega);refine⟨fun _=>((IC.o.alloc (.cells #[sv tq,sv to2] 9))).cell,?_⟩;refine Zt 4 ?_;refine Ql rfl ?_;go_wp2;have UU:Hid (Qea ((wC.alloc (.cells #[sv tq,sv to2] 9)).alloc (.cells #[sv vn] 9)) (.slice (some ⟨wC.heap.size+1,0,none⟩) 1 1) [vn]):=Qg.newH [sv vn] 1 _ ZS rfl (by unfold maxLen;omega);refine⟨fun _=>(((IC.o.alloc (.cells #[sv tq,sv to2] 9)).alloc (.cells #[sv vn] 9))).cell,?_⟩;refine Qr 11 ?v13 rfl ZK ZK ZK ZK (fun _ _ _ h=>h) (((IC.o.alloc (.cells #[sv tq,sv to2] 9)).alloc (.cells #[sv vn] 9))).cell rfl ?run13 ?rest13
           case run13=>intro w hS;go_simp;rfl
           case rest13=>
            refine Zt 12 ?_;refine Ql rfl ?_;go_wp2;refine⟨fun _=>(((IC.o.alloc (.cells #[sv tq,sv to2] 9)).alloc (.cells #[sv vn] 9)).alloc _).cell,?_⟩;refine Zt 13 ?_;refine Ql rfl ?_
            (refine Qcb _ rfl _ _ 90 rfl (bb+1) 94 _ 4 72 Tryz.underlying90 QGm rfl ZO v st.length xss.flatten (((IC.o.alloc (.cells #[sv tq,sv to2] 9)).alloc (.cells #[sv vn] 9))).ho rfl _ rfl ZS rfl rfl (by unfold maxLen;omega) ZO (by have:=Qb (((IC.o.alloc (.cells #[sv tq,sv to2] 9)).alloc (.cells #[sv vn] 9))).hb;omega) ?_;intro g cap w6 hown1 hg1 hg2 hg3;have BW:=Zh (((IC.o.alloc (.cells #[sv tq,sv to2] 9)).alloc (.cells #[sv vn] 9)));have CS:=Zh (show QZa ((wC.alloc (.cells #[sv tq,sv to2] 9)).alloc (.cells #[sv vn] 9)) _ ⟨8,[],[vn],[tq,to2]⟩ from⟨_,_,rfl,UU.o,(Qg.same (TT.o) Qf.alloc)⟩);have I7:=Zh (BW.o.in3.push _ _ CS.o BW.o.hb BW.o.ho BW.o.ha hown1 hg1);have hbl:=Below.of_grown hg1 BW.o.ho (Qb BW.o.hb);obtain⟨fv,fxss,hfbk,hfown,hfall⟩:=(H.o.call I7.o.tape I7.o.but).row;have hf6:=(Below.heap_setCell w6 ⟨bb,1,none⟩ _ fb (by show fb≠bb;omega)).symm.trans hfbk;have hb6:=(hbl.block bb ZO).trans BW.o.hb;have c0:=(Qd hb6).1 0;have c1:=(Qd hb6).1 1;have d0:=(Qd hb6).2 0;have d1:=(Qd hb6).2 1;have k1:=(Qd hf6).1 1;have k2:=(Qd hf6).2 1;simp only[List.getElem?_toArray,List.getElem?_cons_succ,List.getElem?_cons_zero] at c0 c1 k1;have HBC:=Zh (I7.o.cells (Qww hb6 _));have HF7:=Zh hfown;have HF8:=Zh hfbk;have HF9:=Zh hfall;have hne:¬fb=bb:=ZO;clear hown1 hg1 hbl hfbk hfown hfall hf6 hb6)
            go_wp2;refine Zp 14 ?v14 c1 ?run14 ?rest14
            case run14=>intro w hS;go_simp;rfl
            case rest14=>
             refine Zt 15 ?_;refine Ql rfl ?_;go_wp2;refine⟨fun h=>absurd rfl h,?_⟩;refine Qu ZK ?_ _;go_wp2_with (first|(at_builtin;refine Qcb _ rfl _ _ 87 rfl (fb+1) 92 _ 2 40 Tryz.underlying87 QEk rfl ZO _ _ _ HF7.o rfl _ rfl ZS rfl rfl (by unfold maxLen;omega) ZO (by have:=HF8.o;have:=Qb this;omega) ?_;intro g2 cap2 w8 hown8 hg8 hg9 hg10;have hb8:=Below.of_grown hg8 HF7.o (by have:=HF8.o;have:=Qb this;omega);have e1:=(Qd ((hb8.block fb ZO).trans HF8.o)).1 1;have e2:=(Qd ((hb8.block fb ZO).trans HF8.o)).2 1;simp only[List.getElem?_toArray,List.getElem?_cons_succ,List.getElem?_cons_zero] at e1;have J2:=Zh hown8;have J3:=Zh hg8;clear hown8 hg8 hb8)|fail);have hfin:=Zh ((H.o.call I7.o.tape I7.o.but).push _ (by rw[Hkn.o];exact⟨Hnm.o,st,_,rfl,hl3,HGen.o,.inr (.inr ⟨rfl,rfl,⟨vn,hvn,rfl⟩,rn,rb,by omega,by omega,tq,to2,Hto.o,Hto2.o,rfl⟩)⟩) _ HBC.o HF8.o HF7.o HF9.o J2.o J3.o);go_wp2
             try simp only[Exit.then]
             exact⟨_,rfl,hfin.o⟩
 ·have BU:=Zh (show Bun B bt bb F w w5 nm st v xss from⟨I6.o,HB.o,HO.o,HA.o⟩);clear HB HO HA I6;go_wp2_with fail;refine QDl (S:=fun w'=>w'.cell? ⟨bb,1,none⟩=some v) (st:=15) ZK ?_;refine Zp 0 ?v15 BU.o.cell ?run15 ?rest15
  case run15=>intro w hS;go_simp;rfl
  case rest15=>
   refine Zp 1 ?v16 BU.o.cell ?run16 ?rest16
   case run16=>intro w hS;go_simp;rfl
   case rest16=>
    refine Zp 2 ?v17 BU.o.cell ?run17 ?rest17
    case run17=>intro w hS;go_simp;rfl
    case rest17=>
     refine Zp 5 ?v18 BU.o.cell ?run18 ?rest18
     case run18=>intro w hS;go_simp;rfl
     case rest18=>
      refine Zp 6 ?v19 BU.o.cell ?run19 ?rest19
      case run19=>intro w hS;go_simp;rfl
      case rest19=>
       refine Zp 7 ?v20 BU.o.cell ?run20 ?rest20
       case run20=>intro w hS;go_simp;rfl
       case rest20=>
        refine Zt 3 ?_;refine Ql rfl ?_;go_wp2_with fail;refine(name_any (BU.o.in3.tape.drewN 1)).mono ?_;rintro e wA ⟨vn,hvn,rfl,tA,bA⟩;have IA:=Zh (BU.o.call tA (But.undrew bA));clear tA bA;go_wp2;refine⟨fun _=>(IA.o).cell,?_⟩;refine Qh (rs:=[4,8]) ZK ZD ?_;intro i hi;have hi2:i=4∨i=8:=by simpa using hi
        clear hi;rcases hi2 with rfl|rfl
        ·skip
         refine Ql rfl ?_;go_wp2;have UU:Hid (Qea (wA.alloc (.cells #[sv vn] 9)) (.slice (some ⟨wA.heap.size,0,none⟩) 1 1) [vn]):=Qg.newH [sv vn] 1 _ ZS rfl (by unfold maxLen;omega);refine⟨fun _=>((IA.o.alloc (.cells #[sv vn] 9))).cell,?_⟩;refine Zt 8 ?_;refine Ql rfl ?_;go_wp2_with fail;refine(QMc ((IA.o.alloc (.cells #[sv vn] 9))).in3.tape _ ZO).mono ?_;rintro e wB ⟨rB,p1,p2,rfl,tB,bB⟩;have IB:=Zh (((IA.o.alloc (.cells #[sv vn] 9))).call tB bB);have UB:=Zh (Qg.same (UU.o) (Qf.but bB (by rw[((IA.o.alloc (.cells #[sv vn] 9))).in3.tape.ty];decide) IA.o.in3.tape.bs));clear tB bB;obtain⟨rb,rfl⟩:=Int.eq_ofNat_of_zero_le p1;go_wp2;refine⟨fun _=>(IB.o).cell,?_⟩;refine Zt 9 ?_;refine Ql rfl ?_;go_wp2_with fail;refine(Qvw rb ZO _).mono ?_;rintro e wC ⟨⟨to2,hto2,rfl⟩,bC⟩;have IC:=Zh ((IB.o).below bC);have UC:=Zh (Qg.same (UB.o) (Qf.below bC));have Hto2:=Zh hto2;clear bC hto2;go_wp2;refine⟨fun _=>(IC.o).cell,?_⟩;refine Zt 10 ?_;refine Ql rfl ?_;go_wp2;have TT:Hid (Qea (wC.alloc (.cells #[sv tq,sv to2] 9)) (.slice (some ⟨wC.heap.size,0,none⟩) 2 2) [tq,to2]):=Qg.newH [sv tq,sv to2] 2 _ ZS rfl (by unfold maxLen;omega);refine⟨fun _=>((IC.o.alloc (.cells #[sv tq,sv to2] 9))).cell,?_⟩;refine Qr 11 ?v21 rfl ZK ZK ZK ZK (fun _ _ _ h=>h) ((IC.o.alloc (.cells #[sv tq,sv to2] 9))).cell rfl ?run21 ?rest21
         case run21=>intro w hS;go_simp;rfl
         case rest21=>
          refine Zt 12 ?_;refine Ql rfl ?_;go_wp2;refine⟨fun _=>((IC.o.alloc (.cells #[sv tq,sv to2] 9)).alloc _).cell,?_⟩;refine Zt 13 ?_;refine Ql rfl ?_
          (refine Qcb _ rfl _ _ 90 rfl (bb+1) 94 _ 4 72 Tryz.underlying90 QGm rfl ZO v st.length xss.flatten ((IC.o.alloc (.cells #[sv tq,sv to2] 9))).ho rfl _ rfl ZS rfl rfl (by unfold maxLen;omega) ZO (by have:=Qb ((IC.o.alloc (.cells #[sv tq,sv to2] 9))).hb;omega) ?_;intro g cap w6 hown1 hg1 hg2 hg3;have BW:=Zh ((IC.o.alloc (.cells #[sv tq,sv to2] 9)));have CS:=Zh (show QZa (wC.alloc (.cells #[sv tq,sv to2] 9)) _ ⟨8,[],[vn],[tq,to2]⟩ from⟨_,_,rfl,(Qg.same (UC.o) Qf.alloc),TT.o⟩);have I7:=Zh (BW.o.in3.push _ _ CS.o BW.o.hb BW.o.ho BW.o.ha hown1 hg1);have hbl:=Below.of_grown hg1 BW.o.ho (Qb BW.o.hb);obtain⟨fv,fxss,hfbk,hfown,hfall⟩:=(H.o.call I7.o.tape I7.o.but).row;have hf6:=(Below.heap_setCell w6 ⟨bb,1,none⟩ _ fb (by show fb≠bb;omega)).symm.trans hfbk;have hb6:=(hbl.block bb ZO).trans BW.o.hb;have c0:=(Qd hb6).1 0;have c1:=(Qd hb6).1 1;have d0:=(Qd hb6).2 0;have d1:=(Qd hb6).2 1;have k1:=(Qd hf6).1 1;have k2:=(Qd hf6).2 1;simp only[List.getElem?_toArray,List.getElem?_cons_succ,List.getElem?_cons_zero] at c0 c1 k1;have HBC:=Zh (I7.o.cells (Qww hb6 _));have HF7:=Zh hfown;have HF8:=Zh hfbk;have HF9:=Zh hfall;have hne:¬fb=bb:=ZO;clear hown1 hg1 hbl hfbk hfown hfall hf6 hb6)
          go_wp2;refine Zp 14 ?v22 c1 ?run22 ?rest22
          case run22=>intro w hS;go_simp;rfl
          case rest22=>
           refine Zt 15 ?_;refine Ql rfl ?_;go_wp2;refine⟨fun h=>absurd rfl h,?_⟩;refine Qu ZK ?_ _;go_wp2_with (first|(at_builtin;refine Qcb _ rfl _ _ 87 rfl (fb+1) 92 _ 2 40 Tryz.underlying87 QEk rfl ZO _ _ _ HF7.o rfl _ rfl ZS rfl rfl (by unfold maxLen;omega) ZO (by have:=HF8.o;have:=Qb this;omega) ?_;intro g2 cap2 w8 hown8 hg8 hg9 hg10;have hb8:=Below.of_grown hg8 HF7.o (by have:=HF8.o;have:=Qb this;omega);have e1:=(Qd ((hb8.block fb ZO).trans HF8.o)).1 1;have e2:=(Qd ((hb8.block fb ZO).trans HF8.o)).2 1;simp only[List.getElem?_toArray,List.getElem?_cons_succ,List.getElem?_cons_zero] at e1;have J2:=Zh hown8;have J3:=Zh hg8;clear hown8 hg8 hb8)|fail);have hfin:=Zh ((H.o.call I7.o.tape I7.o.but).push _ (by rw[Hkn.o];exact⟨Hnm.o,st,_,rfl,hl3,HGen.o,.inr (.inr ⟨rfl,rfl,⟨vn,hvn,rfl⟩,rn,rb,by omega,by omega,tq,to2,Hto.o,Hto2.o,rfl⟩)⟩) _ HBC.o HF8.o HF7.o HF9.o J2.o J3.o);go_wp2
           try simp only[Exit.then]
           exact⟨_,rfl,hfin.o⟩
        ·skip
         refine Ql rfl ?_;go_wp2_with fail;refine(QMc (IA.o).in3.tape _ ZO).mono ?_;rintro e wB ⟨rB,p1,p2,rfl,tB,bB⟩;have IB:=Zh ((IA.o).call tB bB);clear tB bB;obtain⟨rb,rfl⟩:=Int.eq_ofNat_of_zero_le p1;go_wp2;refine⟨fun _=>(IB.o).cell,?_⟩;refine Qh (rs:=[4,9]) ZK ZD ?_;intro i hi;have hi2:i=4∨i=9:=by simpa using hi
         clear hi;rcases hi2 with rfl|rfl
         ·skip
          refine Ql rfl ?_;go_wp2;have UU:Hid (Qea (wB.alloc (.cells #[sv vn] 9)) (.slice (some ⟨wB.heap.size,0,none⟩) 1 1) [vn]):=Qg.newH [sv vn] 1 _ ZS rfl (by unfold maxLen;omega);refine⟨fun _=>((IB.o.alloc (.cells #[sv vn] 9))).cell,?_⟩;refine Zt 9 ?_;refine Ql rfl ?_;go_wp2_with fail;refine(Qvw rb ZO _).mono ?_;rintro e wC ⟨⟨to2,hto2,rfl⟩,bC⟩;have IC:=Zh (((IB.o.alloc (.cells #[sv vn] 9))).below bC);have UC:=Zh (Qg.same (UU.o) (Qf.below bC));have Hto2:=Zh hto2;clear bC hto2;go_wp2;refine⟨fun _=>(IC.o).cell,?_⟩;refine Zt 10 ?_;refine Ql rfl ?_;go_wp2;have TT:Hid (Qea (wC.alloc (.cells #[sv tq,sv to2] 9)) (.slice (some ⟨wC.heap.size,0,none⟩) 2 2) [tq,to2]):=Qg.newH [sv tq,sv to2] 2 _ ZS rfl (by unfold maxLen;omega);refine⟨fun _=>((IC.o.alloc (.cells #[sv tq,sv to2] 9))).cell,?_⟩;refine Qr 11 ?v23 rfl ZK ZK ZK ZK (fun _ _ _ h=>h) ((IC.o.alloc (.cells #[sv tq,sv to2] 9))).cell rfl ?run23 ?rest23
          case run23=>intro w hS;go_simp;rfl
          case rest23=>
           refine Zt 12 ?_;refine Ql rfl ?_;go_wp2;refine⟨fun _=>((IC.o.alloc (.cells #[sv tq,sv to2] 9)).alloc _).cell,?_⟩;refine Zt 13 ?_;refine Ql rfl ?_
           (refine Qcb _ rfl _ _ 90 rfl (bb+1) 94 _ 4 72 Tryz.underlying90 QGm rfl ZO v st.length xss.flatten ((IC.o.alloc (.cells #[sv tq,sv to2] 9))).ho rfl _ rfl ZS rfl rfl (by unfold maxLen;omega) ZO (by have:=Qb ((IC.o.alloc (.cells #[sv tq,sv to2] 9))).hb;omega) ?_;intro g cap w6 hown1 hg1 hg2 hg3;have BW:=Zh ((IC.o.alloc (.cells #[sv tq,sv to2] 9)));have CS:=Zh (show QZa (wC.alloc (.cells #[sv tq,sv to2] 9)) _ ⟨8,[],[vn],[tq,to2]⟩ from⟨_,_,rfl,(Qg.same (UC.o) Qf.alloc),TT.o⟩);have I7:=Zh (BW.o.in3.push _ _ CS.o BW.o.hb BW.o.ho BW.o.ha hown1 hg1);have hbl:=Below.of_grown hg1 BW.o.ho (Qb BW.o.hb);obtain⟨fv,fxss,hfbk,hfown,hfall⟩:=(H.o.call I7.o.tape I7.o.but).row;have hf6:=(Below.heap_setCell w6 ⟨bb,1,none⟩ _ fb (by show fb≠bb;omega)).symm.trans hfbk;have hb6:=(hbl.block bb ZO).trans BW.o.hb;have c0:=(Qd hb6).1 0;have c1:=(Qd hb6).1 1;have d0:=(Qd hb6).2 0;have d1:=(Qd hb6).2 1;have k1:=(Qd hf6).1 1;have k2:=(Qd hf6).2 1;simp only[List.getElem?_toArray,List.getElem?_cons_succ,List.getElem?_cons_zero] at c0 c1 k1;have HBC:=Zh (I7.o.cells (Qww hb6 _));have HF7:=Zh hfown;have HF8:=Zh hfbk;have HF9:=Zh hfall;have hne:¬fb=bb:=ZO;clear hown1 hg1 hbl hfbk hfown hfall hf6 hb6)
           go_wp2;refine Zp 14 ?v24 c1 ?run24 ?rest24
           case run24=>intro w hS;go_simp;rfl
           case rest24=>
            refine Zt 15 ?_;refine Ql rfl ?_;go_wp2;refine⟨fun h=>absurd rfl h,?_⟩;refine Qu ZK ?_ _;go_wp2_with (first|(at_builtin;refine Qcb _ rfl _ _ 87 rfl (fb+1) 92 _ 2 40 Tryz.underlying87 QEk rfl ZO _ _ _ HF7.o rfl _ rfl ZS rfl rfl (by unfold maxLen;omega) ZO (by have:=HF8.o;have:=Qb this;omega) ?_;intro g2 cap2 w8 hown8 hg8 hg9 hg10;have hb8:=Below.of_grown hg8 HF7.o (by have:=HF8.o;have:=Qb this;omega);have e1:=(Qd ((hb8.block fb ZO).trans HF8.o)).1 1;have e2:=(Qd ((hb8.block fb ZO).trans HF8.o)).2 1;simp only[List.getElem?_toArray,List.getElem?_cons_succ,List.getElem?_cons_zero] at e1;have J2:=Zh hown8;have J3:=Zh hg8;clear hown8 hg8 hb8)|fail);have hfin:=Zh ((H.o.call I7.o.tape I7.o.but).push _ (by rw[Hkn.o];exact⟨Hnm.o,st,_,rfl,hl3,HGen.o,.inr (.inr ⟨rfl,rfl,⟨vn,hvn,rfl⟩,rn,rb,by omega,by omega,tq,to2,Hto.o,Hto2.o,rfl⟩)⟩) _ HBC.o HF8.o HF7.o HF9.o J2.o J3.o);go_wp2
            try simp only[Exit.then]
            exact⟨_,rfl,hfin.o⟩
         ·skip
          refine Ql rfl ?_;go_wp2_with fail;refine(Qvw rb ZO _).mono ?_;rintro e wC ⟨⟨to2,hto2,rfl⟩,bC⟩;have IC:=Zh ((IB.o).below bC);have Hto2:=Zh hto2;clear bC hto2;go_wp2;refine⟨fun _=>(IC.o).cell,?_⟩;refine Qh (rs:=[4,10]) ZK ZD ?_;intro i hi;have hi2:i=4∨i=10:=by simpa using hi
          clear hi;rcases hi2 with rfl|rfl
          ·skip
           refine Ql rfl ?_;go_wp2;have UU:Hid (Qea (wC.alloc (.cells #[sv vn] 9)) (.slice (some ⟨wC.heap.size,0,none⟩) 1 1) [vn]):=Qg.newH [sv vn] 1 _ ZS rfl (by unfold maxLen;omega);refine⟨fun _=>((IC.o.alloc (.cells #[sv vn] 9))).cell,?_⟩;refine Zt 10 ?_;refine Ql rfl ?_;go_wp2;have TT:Hid (Qea ((wC.alloc (.cells #[sv vn] 9)).alloc (.cells #[sv tq,sv to2] 9)) (.slice (some ⟨wC.heap.size+1,0,none⟩) 2 2) [tq,to2]):=Qg.newH [sv tq,sv to2] 2 _ ZS rfl (by unfold maxLen;omega);refine⟨fun _=>(((IC.o.alloc (.cells #[sv vn] 9)).alloc (.cells #[sv tq,sv to2] 9))).cell,?_⟩;refine Qr 11 ?v25 rfl ZK ZK ZK ZK (fun _ _ _ h=>h) (((IC.o.alloc (.cells #[sv vn] 9)).alloc (.cells #[sv tq,sv to2] 9))).cell rfl ?run25 ?rest25
           case run25=>intro w hS;go_simp;rfl
           case rest25=>
            refine Zt 12 ?_;refine Ql rfl ?_;go_wp2;refine⟨fun _=>(((IC.o.alloc (.cells #[sv vn] 9)).alloc (.cells #[sv tq,sv to2] 9)).alloc _).cell,?_⟩;refine Zt 13 ?_;refine Ql rfl ?_
            (refine Qcb _ rfl _ _ 90 rfl (bb+1) 94 _ 4 72 Tryz.underlying90 QGm rfl ZO v st.length xss.flatten (((IC.o.alloc (.cells #[sv vn] 9)).alloc (.cells #[sv tq,sv to2] 9))).ho rfl _ rfl ZS rfl rfl (by unfold maxLen;omega) ZO (by have:=Qb (((IC.o.alloc (.cells #[sv vn] 9)).alloc (.cells #[sv tq,sv to2] 9))).hb;omega) ?_;intro g cap w6 hown1 hg1 hg2 hg3;have BW:=Zh (((IC.o.alloc (.cells #[sv vn] 9)).alloc (.cells #[sv tq,sv to2] 9)));have CS:=Zh (show QZa ((wC.alloc (.cells #[sv vn] 9)).alloc (.cells #[sv tq,sv to2] 9)) _ ⟨8,[],[vn],[tq,to2]⟩ from⟨_,_,rfl,(Qg.same (UU.o) Qf.alloc),TT.o⟩);have I7:=Zh (BW.o.in3.push _ _ CS.o BW.o.hb BW.o.ho BW.o.ha hown1 hg1);have hbl:=Below.of_grown hg1 BW.o.ho (Qb BW.o.hb);obtain⟨fv,fxss,hfbk,hfown,hfall⟩:=(H.o.call I7.o.tape I7.o.but).row;have hf6:=(Below.heap_setCell w6 ⟨bb,1,none⟩ _ fb (by show fb≠bb;omega)).symm.trans hfbk;have hb6:=(hbl.block bb ZO).trans BW.o.hb;have c0:=(Qd hb6).1 0;have c1:=(Qd hb6).1 1;have d0:=(Qd hb6).2 0;have d1:=(Qd hb6).2 1;have k1:=(Qd hf6).1 1;have k2:=(Qd hf6).2 1;simp only[List.getElem?_toArray,List.getElem?_cons_succ,List.getElem?_cons_zero] at c0 c1 k1;have HBC:=Zh (I7.o.cells (Qww hb6 _));have HF7:=Zh hfown;have HF8:=Zh hfbk;have HF9:=Zh hfall;have hne:¬fb=bb:=ZO;clear hown1 hg1 hbl hfbk hfown hfall hf6 hb6)
            go_wp2;refine Zp 14 ?v26 c1 ?run26 ?rest26
            case run26=>intro w hS;go_simp;rfl
            case rest26=>
             refine Zt 15 ?_;refine Ql rfl ?_;go_wp2;refine⟨fun h=>absurd rfl h,?_⟩;refine Qu ZK ?_ _;go_wp2_with (first|(at_builtin;refine Qcb _ rfl _ _ 87 rfl (fb+1) 92 _ 2 40 Tryz.underlying87 QEk rfl ZO _ _ _ HF7.o rfl _ rfl ZS rfl rfl (by unfold maxLen;omega) ZO (by have:=HF8.o;have:=Qb this;omega) ?_;intro g2 cap2 w8 hown8 hg8 hg9 hg10;have hb8:=Below.of_grown hg8 HF7.o (by have:=HF8.o;have:=Qb this;omega);have e1:=(Qd ((hb8.block fb ZO).trans HF8.o)).1 1;have e2:=(Qd ((hb8.block fb ZO).trans HF8.o)).2 1;simp only[List.getElem?_toArray,List.getElem?_cons_succ,List.getElem?_cons_zero] at e1;have J2:=Zh hown8;have J3:=Zh hg8;clear hown8 hg8 hb8)|fail);have hfin:=Zh ((H.o.call I7.o.tape I7.o.but).push _ (by rw[Hkn.o];exact⟨Hnm.o,st,_,rfl,hl3,HGen.o,.inr (.inr ⟨rfl,rfl,⟨vn,hvn,rfl⟩,rn,rb,by omega,by omega,tq,to2,Hto.o,Hto2.o,rfl⟩)⟩) _ HBC.o HF8.o HF7.o HF9.o J2.o J3.o);go_wp2
             try simp only[Exit.then]
             exact⟨_,rfl,hfin.o⟩
          ·skip
           refine Ql rfl ?_;go_wp2;have TT:Hid (Qea (wC.alloc (.cells #[sv tq,sv to2] 9)) (.slice (some ⟨wC.heap.size,0,none⟩) 2 2) [tq,to2]):=Qg.newH [sv tq,sv to2] 2 _ ZS rfl (by unfold maxLen;omega);refine⟨fun _=>((IC.o.alloc (.cells #[sv tq,sv to2] 9))).cell,?_⟩;refine Zt 4 ?_;refine Ql rfl ?_;go_wp2;have UU:Hid (Qea ((wC.alloc (.cells #[sv tq,sv to2] 9)).alloc (.cells #[sv vn] 9)) (.slice (some ⟨wC.heap.size+1,0,none⟩) 1 1) [vn]):=Qg.newH [sv vn] 1 _ ZS rfl (by unfold maxLen;omega);refine⟨fun _=>(((IC.o.alloc (.cells #[sv tq,sv to2] 9)).alloc (.cells #[sv vn] 9))).cell,?_⟩;refine Qr 11 ?v27 rfl ZK ZK ZK ZK (fun _ _ _ h=>h) (((IC.o.alloc (.cells #[sv tq,sv to2] 9)).alloc (.cells #[sv vn] 9))).cell rfl ?run27 ?rest27
           case run27=>intro w hS;go_simp;rfl
           case rest27=>
            refine Zt 12 ?_;refine Ql rfl ?_;go_wp2;refine⟨fun _=>(((IC.o.alloc (.cells #[sv tq,sv to2] 9)).alloc (.cells #[sv vn] 9)).alloc _).cell,?_⟩;refine Zt 13 ?_;refine Ql rfl ?_
            (refine Qcb _ rfl _ _ 90 rfl (bb+1) 94 _ 4 72 Tryz.underlying90 QGm rfl ZO v st.length xss.flatten (((IC.o.alloc (.cells #[sv tq,sv to2] 9)).alloc (.cells #[sv vn] 9))).ho rfl _ rfl ZS rfl rfl (by unfold maxLen;omega) ZO (by have:=Qb (((IC.o.alloc (.cells #[sv tq,sv to2] 9)).alloc (.cells #[sv vn] 9))).hb;omega) ?_;intro g cap w6 hown1 hg1 hg2 hg3;have BW:=Zh (((IC.o.alloc (.cells #[sv tq,sv to2] 9)).alloc (.cells #[sv vn] 9)));have CS:=Zh (show QZa ((wC.alloc (.cells #[sv tq,sv to2] 9)).alloc (.cells #[sv vn] 9)) _ ⟨8,[],[vn],[tq,to2]⟩ from⟨_,_,rfl,UU.o,(Qg.same (TT.o) Qf.alloc)⟩);have I7:=Zh (BW.o.in3.push _ _ CS.o BW.o.hb BW.o.ho BW.o.ha hown1 hg1);have hbl:=Below.of_grown hg1 BW.o.ho (Qb BW.o.hb);obtain⟨fv,fxss,hfbk,hfown,hfall⟩:=(H.o.call I7.o.tape I7.o.but).row;have hf6:=(Below.heap_setCell w6 ⟨bb,1,none⟩ _ fb (by show fb≠bb;omega)).symm.trans hfbk;have hb6:=(hbl.block bb ZO).trans BW.o.hb;have c0:=(Qd hb6).1 0;have c1:=(Qd hb6).1 1;have d0:=(Qd hb6).2 0;have d1:=(Qd hb6).2 1;have k1:=(Qd hf6).1 1;have k2:=(Qd hf6).2 1;simp only[List.getElem?_toArray,List.getElem?_cons_succ,List.getElem?_cons_zero] at c0 c1 k1;have HBC:=Zh (I7.o.cells (Qww hb6 _));have HF7:=Zh hfown;have HF8:=Zh hfbk;have HF9:=Zh hfall;have hne:¬fb=bb:=ZO;clear hown1 hg1 hbl hfbk hfown hfall hf6 hb6)
            go_wp2;refine Zp 14 ?v28 c1 ?run28 ?rest28
            case run28=>intro w hS;go_simp;rfl
            case rest28=>
             refine Zt 15 ?_;refine Ql rfl ?_;go_wp2;refine⟨fun h=>absurd rfl h,?_⟩;refine Qu ZK ?_ _;go_wp2_with (first|(at_builtin;refine Qcb _ rfl _ _ 87 rfl (fb+1) 92 _ 2 40 Tryz.underlying87 QEk rfl ZO _ _ _ HF7.o rfl _ rfl ZS rfl rfl (by unfold maxLen;omega) ZO (by have:=HF8.o;have:=Qb this;omega) ?_;intro g2 cap2 w8 hown8 hg8 hg9 hg10;have hb8:=Below.of_grown hg8 HF7.o (by have:=HF8.o;have:=Qb this;omega);have e1:=(Qd ((hb8.block fb ZO).trans HF8.o)).1 1;have e2:=(Qd ((hb8.block fb ZO).trans HF8.o)).2 1;simp only[List.getElem?_toArray,List.getElem?_cons_succ,List.getElem?_cons_zero] at e1;have J2:=Zh hown8;have J3:=Zh hg8;clear hown8 hg8 hb8)|fail);have hfin:=Zh ((H.o.call I7.o.tape I7.o.but).push _ (by rw[Hkn.o];exact⟨Hnm.o,st,_,rfl,hl3,HGen.o,.inr (.inr ⟨rfl,rfl,⟨vn,hvn,rfl⟩,rn,rb,by omega,by omega,tq,to2,Hto.o,Hto2.o,rfl⟩)⟩) _ HBC.o HF8.o HF7.o HF9.o J2.o J3.o);go_wp2
             try simp only[Exit.then]
             exact⟨_,rfl,hfin.o⟩
end
end Go.Proofs.YtijekimobahgpaaGreatDoor
