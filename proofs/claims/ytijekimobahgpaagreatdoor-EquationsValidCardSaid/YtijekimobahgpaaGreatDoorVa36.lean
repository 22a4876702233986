/- 'flqlaw10.EquationsValid' returns true at every input: the systems of a drawn program are valid, canonical, and lie along the reference's graph. The variables that the program's text lays (keywords, the table of effects, the table of trailing zeros) hold what the text lays (the given tie). No condition beyond the statement's own. (nobase) -/
import Derived.Test.YtijekimobahgpaaGreatDoorVa35
import Derived.Test.YtijekimobahgpaaGreatDoorVa34
import Derived.LaidMore
import Derived.OpenShut
import Derived.Test.YtijekimobahgpaaGreatDoorCards
import Derived.Test.YtijekimobahgpaaGreatDoorTie
import Derived.ProofKit
import Derived.Carry
import Derived.Deep.Strs
import Derived.ChangeMaps5
import Derived.ChangeOld
import Derived.Stop.Joined
import Derived.SevenTiedAt
set_option linter.unusedVariables false
set_option linter.unusedSimpArgs false
set_option linter.unusedSectionVars false
set_option maxRecDepth 100000
set_option maxHeartbeats 16000000
namespace Go.Proofs.YtijekimobahgpaaGreatDoor
section
open Go.RowKit
variable [Base]
def End2 (B bt fb R:Nat)(F:Int)(Kn:Nat)(w0:World)(name:Str)(iv:Value)(a:Act)(w:World):Prop:=
 ∃l,a=frP bt R F iv (.pointer (some ⟨fb,0,none⟩)) (.int .i64 (Kn:Int)) (.int .i64 (Kn:Int)) (Qqp a 9) (Qqp a 10) (Qqp a)∧In2 B bt fb F Kn w0 w name l∧l.length=Kn
theorem QQx {B bt fb R:Nat}{F:Int}{Kn:Nat}{w0 w:World}{name:Str}{l:List QI}(iv bp n:Value)(u:Nat→Value)(h:In2 B bt fb F Kn w0 w name l)(hm:l.length=Kn)(I:Act→World→Prop):
  QAw.wp Tryz.prog (Exit.then I (QUw 2 (End2 B bt fb R F Kn w0 name iv))) (frP bt R F iv (.pointer (some ⟨fb,0,none⟩)) (.int .i64 (Kn:Int)) (.int .i64 (Kn:Int)) bp n u) w:=by
 have H:=Zh h;have HM:=Zh hm;clear h hm
 conv=>arg 2;whnf
 unfold frP;go_wp2;exact⟨rfl,l,rfl,H.o,HM.o⟩
theorem QNx {B bt fb R:Nat}{F:Int}{Kn:Nat}{w0 w:World}{name:Str}(iv bp n:Value)(u:Nat→Value)(hF1:1≤F)(hF3:F≤3)(hK:Kn≤3)(h:In2 B bt fb F Kn w0 w name []):
  (Code.loop QAw).wp Tryz.prog (QUw 2 (End2 B bt fb R F Kn w0 name iv)) (frP bt R F iv (.pointer (some ⟨fb,0,none⟩)) (.int .i64 (Kn:Int)) (.int .i64 ((0:Nat):Int)) bp n u) w:=by
 refine wp_loop (fun a w=>∃(l:List QI),a=frP bt R F iv (.pointer (some ⟨fb,0,none⟩)) (.int .i64 (Kn:Int)) (.int .i64 (l.length:Int)) (Qqp a 9) (Qqp a 10) (Qqp a)∧In2 B bt fb F Kn w0 w name l∧l.length≤Kn) (fun a _=>Kn-(intOf (a.tmps.getD 8 undef)).toNat) ?_ ?_
 ·exact⟨[],rfl,h,Nat.zero_le _⟩
 ·rintro a' w' ⟨l',ha,h',hm'⟩;rw[ha];generalize Qqp a' 9=bp';generalize Qqp a' 10=n';generalize Qqp a'=u';rcases Nat.lt_or_ge l'.length Kn with hlt|hge
  ·refine wp_mono (QAx (R:=R) iv bp' n' u' hF1 hF3 hK h' hlt) ?_;intro e a w hq
   cases e with
  |normal=>
    obtain⟨b,ha2,h2⟩:=hq;refine⟨⟨l'++[b],?_,h2,by simp;omega⟩,?_⟩
    ·rw[List.length_append];exact ha2
    ·rw[ha2];show Kn-(intOf (Value.int .i64 ((l'.length+1:Nat):Int))).toNat<Kn-(intOf (Value.int .i64 (l'.length:Int))).toNat;simp[intOf];omega
  |_=>exact hq.elim
  ·have he:l'.length=Kn:=by omega
   rw[he];exact QQx iv bp' n' u' h' he _
theorem QDx {B bt fb R:Nat}{F:Int}{Kn:Nat}{w0 w:World}{name:Str}{iv bp n:Value}{a:Act}(hF1:1≤F)(hF3:F≤3)(hK:Kn≤3)(h:In2 B bt fb F Kn w0 w name [])(ha:a=frP bt R F iv (.pointer (some ⟨fb,0,none⟩)) (.int .i64 (Kn:Int)) (.int .i64 ((0:Nat):Int)) bp n (Qqp a)){Q:Exit→Act→World→Prop}(hq:∀a w,End2 B bt fb R F Kn w0 name iv a w→Q (.exit 2) a w):
  (Code.loop QAw).wp Tryz.prog Q a w:=by
 rw[ha];refine wp_mono (QNx iv bp n _ hF1 hF3 hK h) ?_;intro e a w h
 cases e with
|exit i=>obtain⟨rfl,h⟩:=h;exact hq _ _ h
|_=>exact h.elim
structure In1 (B bt R:Nat)(F:Int)(w0 w:World)(l:List Qo):Prop where
 tape:QZ B w bt
 but:But bt w0 w
 size:w0.heap.size=R
 lt:bt<w0.heap.size
 res:w.heap[R]? = some (.cells #[.slice none 0 0] 25 (0,0))
 row:∃v xss,w.heap[R+1]? = some (.cells #[v] 25 (0,0))∧w.ownsRow (R+2) 89 2 v l.length xss.flatten∧All2 (Qab w) xss l
 gen:∀k b,l[k]? = some b→QMw F k b
theorem In1.call {B bt R:Nat}{F:Int}{w0 w w1:World}{l:List Qo}(h:In1 B bt R F w0 w l)(ht:QZ B w1 bt)(hb':But bt w w1):In1 B bt R F w0 w1 l:=by
 obtain⟨v,xss,h1,h2,h3⟩:=h.row;have:=h.lt;have:=h.size;have hbs:=h.tape.bs;exact⟨ht,h.but.trans hb',h.size,h.lt,hb'.blk h.res ZO,⟨v,xss,hb'.blk h1 ZO,Qvc h2 hb' ZO,h3.mono fun _ _=>Qab.keep (Qf.but hb' (by rw[h.tape.ty];decide)) (Qf.but hb' (by rw[h.tape.ty];decide)) (Qf.but hb' (by rw[h.tape.ty];decide))⟩,h.gen⟩
theorem Qkx {w:World}{b:Nat}{a0:Value}{t:TypeId}{fr:Nat×Nat}(h:w.heap[b]? = some (.cells #[a0] t fr))(x:Value):
  (w.setCell ⟨b,0,none⟩ x).heap[b]? = some (.cells #[x] t fr):=by
 simp[World.setCell,Array.getElem?_modify,h]
theorem In2.cells {B bt fb:Nat}{F K:Int}{w0 w:World}{name:Str}{l:List QI}(h:In2 B bt fb F K w0 w name l){v:Value}{fr:Nat×Nat}(hb:w.heap[fb]? = some (.cells #[sv name,v] 89 fr)):
  Qab w [sv name,v] ⟨name,l⟩:=by
 obtain⟨v',xss,h1,h2,h3⟩:=h.row;rw[h1] at hb;injection hb with hb
 injection hb with hb _ _
 injection hb with hb
 injection hb with _ hb
 injection hb with hb _
 subst hb;exact⟨v',rfl,xss,Qg.of_owns h2,h3⟩
theorem In1.push {B bt R:Nat}{F:Int}{w0 w w1:World}{l:List Qo}(h:In1 B bt R F w0 w l)(f:Qo)(hgen:QMw F l.length f)(cs:List Value)(hc:Qab w cs f){v:Value}{xss:List (List Value)}(hb:w.heap[R+1]? = some (.cells #[v] 25 (0,0)))(hown:w.ownsRow (R+2) 89 2 v l.length xss.flatten)(hall:All2 (Qab w) xss l){g cap:Nat}(hown1:w1.ownsRow (R+2) 89 2 (.slice (some ⟨g,0,none⟩) (l.length+1) cap) (l.length+1) (xss.flatten++cs))(hg:w.grownBy w1 v.ownBlock):
  In1 B bt R F w0 (w1.setCell ⟨R+1,0,none⟩ (.slice (some ⟨g,0,none⟩) (l.length+1) cap)) (l++[f]):=by
 have hlt:=h.lt;have hsz:=h.size;have hbs:=h.tape.bs;have hbb:=Qb hb;have hbel:Below (R+2) w w1:=Below.of_grown hg hown hbb;have hb1:w1.heap[R+1]? = some (.cells #[v] 25 (0,0)):=(hbel.block (R+1) ZO).trans hb;have hr1:w1.heap[R]? = some (.cells #[.slice none 0 0] 25 (0,0)):=(hbel.block R ZO).trans h.res;have hS (T:TypeId) (h1:T≠89) (h2:T≠25):Qf T w (w1.setCell ⟨R+1,0,none⟩ (.slice (some ⟨g,0,none⟩) (l.length+1) cap)):=
  (Qf.grown hg hown h1).trans (Qf.setCell (U:=25) (Qv hb1) h2)
 have h9:=hS 9 ZD ZD;have h64:=hS 94 ZD ZD;have h62:=hS 92 ZD ZD;have hget:=h.tape.ge;refine⟨?_,?_,hsz,hlt,?_,⟨.slice (some ⟨g,0,none⟩) (l.length+1) cap,xss++[cs],?_,?_,?_⟩,?_⟩
 ·have t1:QZ B w1 bt:=h.tape.keep (hbel.block bt ZO) (fun k hk=>hbel.block k ZO) hbel.size;exact t1.setCell (by show R+1≠bt;omega) (by show B≤R+1;omega) _
 ·exact(h.but.belowB hbel ZO).setCell _ (.inr (by show w0.heap.size≤R+1;omega)) _
 ·exact(Below.heap_setCell _ _ _ _ (by show R≠R+1;omega)).trans hr1
 ·exact Qkx hb1 _
 ·rw[List.length_append,List.flatten_append];refine ownsRow_setCell_below ?_ (by show R+1<R+2;omega) _
  simpa using hown1
 ·exact All2.append (hall.mono fun _ _=>Qab.keep h9 h64 h62) ⟨hc.keep h9 h64 h62,trivial⟩
 ·intro k x hx;rcases Nat.lt_or_ge k l.length with hk|hk
  ·rw[List.getElem?_append_left hk] at hx;exact h.gen k x hx
  ·rw[List.getElem?_append_right hk] at hx;have:k=l.length:=by
    rcases Nat.eq_or_lt_of_le hk with h|h
    ·exact h.symm
    ·rw[List.getElem?_eq_none (by simp;omega)] at hx;cases hx
   subst this;simp at hx;subst hx;exact hgen
theorem QBx {B bt R:Nat}{Fn:Nat}{w0 w:World}{l:List Qo}(fp K k bp n:Value)(u:Nat→Value)(hF1:1≤Fn)(hF3:Fn≤3)(h:In1 B bt R Fn w0 w l)(hk:l.length<Fn):
  QBw.wp Tryz.prog (Exit.then (fun a' w'=>(∃f,a'=frP bt R Fn (.int .i64 ((l.length+1:Nat):Int)) (Qqp a' 6) (Qqp a' 7) (Qqp a' 8) (Qqp a' 9) (Qqp a' 10) (Qqp a')∧In1 B bt R Fn w0 w' (l++[f]))) Qqy)
   (frP bt R Fn (.int .i64 (l.length:Int)) fp K k bp n u) w:=by
 obtain⟨kn,hkn⟩:=Ze l.length;rw[hkn];have hk3:kn<3:=by omega
 have hkK:kn<Fn:=by omega
 have Hkn:=Zh hkn;have hlt:=h.lt;have hsz0:=h.size;have H:=Zh h;clear h hkn hk;obtain⟨nm,hnm⟩:∃nm,Quw[kn]? = some nm:=by
  have:kn=0∨kn=1∨kn=2:=by omega
  rcases this with rfl|rfl|rfl <;> exact⟨_,rfl⟩
 have hcell:(#[sv [109],sv [102],sv [103]]:Array Value)[kn]? = some (sv nm):=by
  have:kn=0∨kn=1∨kn=2:=by omega
  rcases this with rfl|rfl|rfl <;>(injection hnm with hnm;rw[←hnm];rfl)
 have hc:=(Qd (heap_alloc_new w (.cells #[sv [109],sv [102],sv [103]] 9))).1 kn;rw[hcell] at hc;have Hnm:=Zh hnm;clear hnm hcell
 conv=>arg 2;whnf
 unfold frP;go_wp2_with fail;refine(QMc ((H.o.tape.alloc _).alloc _) _ ZO).mono ?_;rintro e w1 ⟨r,r0,r4,rfl,t1,b1⟩;obtain⟨m,rfl⟩:=Int.eq_ofNat_of_zero_le r0;have hm3:1+m≤3:=by omega
 have I1:Hid (In2 B bt (w.heap.size+1) Fn (1+m:Nat) w w1 nm []):=by
  have hlt2:=H.o.tape.lt;refine⟨t1,(((But.refl bt w).alloc _).alloc _).trans b1,by omega,hlt2,⟨.slice none 0 0,[],?_,World.ownsRow_nil _ _ _ _,trivial⟩,fun k b hb=>by cases hb⟩;refine b1.blk ?_ ZO;have:=heap_alloc_new (w.alloc (.cells #[sv [109],sv [102],sv [103]] 9)) (.cells #[sv nm,.slice none 0 0] 89);rw[World.size_alloc] at this;exact this
 clear t1 b1 r0 r4;go_wp2_with fail;rename_i K2 hK2;refine QDx (Kn:=1+m) (iv:=.int .i64 (kn:Int)) (bp:=bp) (n:=n) ZO ZO hm3 I1.o rfl ?_;rintro a w2 ⟨bl,ha,hI2,hl2⟩;rw[ha];generalize Qqp a 9=bp2;generalize Qqp a 10=n2;generalize Qqp a=u2;refine hK2 _ _ ?_;have hbut:But bt w w2:=hI2.but;have htp:=hI2.tape;have I3:=Zh hI2;have H2:=Zh (H.o.call htp hbut);obtain⟨v,xss,hb,hown,hall⟩:=H2.o.row;obtain⟨fv,fxss,hfb,hfown,hfall⟩:=hI2.row;have HB:=Zh hb;have HO:=Zh hown;have HA:=Zh hall;have HC:=Zh (hI2.cells hfb);have HL2:=Zh hl2;have hOne:=Zh (Qg.one (Qg.of_owns hfown));have hc1:=(Qd hb).1 0;have hf1:=(Qd hb).2 0;have d0:=(Qd hfb).1 0;have d1:=(Qd hfb).1 1;simp at hc1 d0 d1;have hsz:=Qb hb;have hlx:l.length≤3:=by have:=Hkn.o;omega
 clear hb hown hall hfb hfown hfall hbut htp hI2 ha hl2 I1 hc hK2;unfold frP;go_wp2_with (first
  |(at_builtin;refine Qcb [sv nm,fv] rfl _ _ 23 rfl (R+2) 89 _ 2 40 Tryz.underlying23 Qvs rfl ZO _ _ _ HO.o rfl _ rfl ZS rfl (by simp only[List.all_cons,List.all_nil,hOne.o];rfl) (by unfold maxLen;omega) ZO ZO ?_;intro g cap w6 hown1 hg1 hg2 hg3;have hbl:=Below.of_grown hg1 HO.o ZO;have e1:=(Qd ((hbl.block (R+1) ZO).trans HB.o)).1 0;have e2:=(Qd ((hbl.block (R+1) ZO).trans HB.o)).2 0;simp only[List.getElem?_toArray,List.getElem?_cons_succ,List.getElem?_cons_zero] at e1;have J2:=Zh hown1;have J3:=Zh hg1;clear hown1 hg1 hbl)
  |fail)
 try simp only[Exit.then]
 refine⟨⟨nm,bl⟩,rfl,H2.o.push ⟨nm,bl⟩ ⟨by rw[Hkn.o];exact Hnm.o,by show 1≤bl.length;rw[HL2.o];omega,by show bl.length≤3;rw[HL2.o];exact hm3,fun k b hb=>?_⟩ _ HC.o HB.o HO.o HA.o J2.o J3.o⟩;show QHw Fn (bl.length:Nat) k b;rw[HL2.o];exact I3.o.gen k b hb
def End1 (B bt R:Nat)(Fn:Nat)(w0:World)(a:Act)(w:World):Prop:=
 ∃l,a=frP bt R Fn (.int .i64 (Fn:Int)) (Qqp a 6) (Qqp a 7) (Qqp a 8) (Qqp a 9) (Qqp a 10) (Qqp a)∧In1 B bt R Fn w0 w l∧l.length=Fn
theorem QRx {B bt R:Nat}{Fn:Nat}{w0 w:World}{l:List Qo}(fp K k bp n:Value)(u:Nat→Value)(h:In1 B bt R Fn w0 w l)(hm:l.length=Fn)(I:Act→World→Prop):
  QBw.wp Tryz.prog (Exit.then I (QUw 0 (End1 B bt R Fn w0))) (frP bt R Fn (.int .i64 (Fn:Int)) fp K k bp n u) w:=by
 have H:=Zh h;have HM:=Zh hm;clear h hm
 conv=>arg 2;whnf
 unfold frP;go_wp2;exact⟨rfl,l,rfl,H.o,HM.o⟩
theorem QOx {B bt R:Nat}{Fn:Nat}{w0 w:World}(fp K k bp n:Value)(u:Nat→Value)(hF1:1≤Fn)(hF3:Fn≤3)(h:In1 B bt R Fn w0 w []):
  (Code.loop QBw).wp Tryz.prog (QUw 0 (End1 B bt R Fn w0)) (frP bt R Fn (.int .i64 ((0:Nat):Int)) fp K k bp n u) w:=by
 refine wp_loop (fun a w=>∃(l:List Qo),a=frP bt R Fn (.int .i64 (l.length:Int)) (Qqp a 6) (Qqp a 7) (Qqp a 8) (Qqp a 9) (Qqp a 10) (Qqp a)∧In1 B bt R Fn w0 w l∧l.length≤Fn) (fun a _=>Fn-(intOf (a.tmps.getD 5 undef)).toNat) ?_ ?_
 ·exact⟨[],rfl,h,Nat.zero_le _⟩
 ·rintro a' w' ⟨l',ha,h',hm'⟩;rw[ha];generalize Qqp a' 6=fp';generalize Qqp a' 7=K';generalize Qqp a' 8=k';generalize Qqp a' 9=bp';generalize Qqp a' 10=n';generalize Qqp a'=u';rcases Nat.lt_or_ge l'.length Fn with hlt|hge
  ·refine wp_mono (QBx (R:=R) fp' K' k' bp' n' u' hF1 hF3 h' hlt) ?_;intro e a w hq
   cases e with
  |normal=>
    obtain⟨b,ha2,h2⟩:=hq;refine⟨⟨l'++[b],?_,h2,by simp;omega⟩,?_⟩
    ·rw[List.length_append];exact ha2
    ·rw[ha2];show Fn-(intOf (Value.int .i64 ((l'.length+1:Nat):Int))).toNat<Fn-(intOf (Value.int .i64 (l'.length:Int))).toNat;simp[intOf];omega
  |_=>exact hq.elim
  ·have he:l'.length=Fn:=by omega
   rw[he];exact QRx fp' K' k' bp' n' u' h' he _
theorem QEx {B bt R:Nat}{Fn:Nat}{w0 w:World}{fp K k bp n:Value}{a:Act}(hF1:1≤Fn)(hF3:Fn≤3)(h:In1 B bt R Fn w0 w [])(ha:a=frP bt R Fn (.int .i64 ((0:Nat):Int)) fp K k bp n (Qqp a)){Q:Exit→Act→World→Prop}(hq:∀a w,End1 B bt R Fn w0 a w→Q (.exit 0) a w):
  (Code.loop QBw).wp Tryz.prog Q a w:=by
 rw[ha];refine wp_mono (QOx fp K k bp n _ hF1 hF3 h) ?_;intro e a w h
 cases e with
|exit i=>obtain⟨rfl,h⟩:=h;exact hq _ _ h
|_=>exact h.elim
def Qvy (B bt:Nat)(w:World)(e:Ending)(w':World):Prop:=
 ∃p v,Qqw p∧e=.returned (.agg #[v])∧QAa w' v p∧QZ B w' bt∧But bt w w'
theorem Qyx {B bt:Nat}{w:World}(ht:QZ B w bt):
  Calls Tryz.prog 9 #[.pointer (some ⟨bt,0,none⟩)] w (Qvy B bt w):=by
 have hlt:=ht.lt;have hge:=ht.ge;have Ht:=Zh ht;clear ht;go_enter Tryz.func9,Tryz.ntmps9;go_wp2_with fail;refine(QMc ((Ht.o.alloc _).alloc _) _ ZO).mono ?_;rintro e w1 ⟨r,r0,r4,rfl,t1,b1⟩;obtain⟨m,rfl⟩:=Int.eq_ofNat_of_zero_le r0;have hm3:1+m≤3:=by omega
 have I1:Hid (In1 B bt w.heap.size (1+m:Nat) w w1 []):=by
  have a1:=heap_alloc_new w (.cells #[.slice none 0 0] 25);have a2:=heap_alloc_new (w.alloc (.cells #[.slice none 0 0] 25)) (.cells #[.slice none 0 0] 25);rw[World.size_alloc] at a2;exact⟨t1,(((But.refl bt w).alloc _).alloc _).trans b1,rfl,hlt,b1.blk (Qfa _ a1) ZO,⟨.slice none 0 0,[],b1.blk a2 ZO,World.ownsRow_nil _ _ _ _,trivial⟩,fun k b hb=>by cases hb⟩
 clear t1 b1 r0 r4;obtain⟨R,hR⟩:=Ze w.heap.size;rw[hR] at I1 ⊢;go_wp2_with fail;rename_i K2 hK2;refine QEx (Fn:=1+m) (R:=R) (fp:=undef) (K:=undef) (k:=undef) (bp:=undef) (n:=undef) ZO hm3 I1.o rfl ?_;rintro a w2 ⟨l,ha,hI,hl⟩;rw[ha];generalize Qqp a 6=s6;generalize Qqp a 7=s7;generalize Qqp a 8=s8;generalize Qqp a 9=s9;generalize Qqp a 10=s10;generalize Qqp a=u2;refine hK2 _ _ ?_;obtain⟨v,xss,hb,hown,hall⟩:=hI.row;obtain⟨sa,sn,sc,hv,_⟩:=(Qg.of_owns hown).form;subst hv;have hres:=hI.res;have I2:=Zh hI;have HL:=Zh hl;have HF:Hid (QAa w2 (.slice sa sn sc) l):=⟨xss,Qg.of_owns hown,hall⟩;have c0:=(Qd hb).1 0;have d0:=(Qd hres).1 0;have f0:=(Qd hres).2 0;have hsr:=Qb hres;simp at c0 d0;have HR:=Zh hres;clear hb hown hall hres hI hl ha hK2 I1;unfold frP;go_wp2;have hbs:=I2.o.tape.bs;have hty:=Qv HR.o;have hS (T:TypeId) (h:T≠25):Qf T w2 (w2.setCell ⟨R,0,none⟩ (.slice sa sn sc)):=Qf.setCell (U:=25) hty h;have htape:QZ B (w2.setCell ⟨R,0,none⟩ (.slice sa sn sc)) bt:=I2.o.tape.setCell (by show R≠bt;omega) (by show B≤R;omega) _;have hbut:But bt w (w2.setCell ⟨R,0,none⟩ (.slice sa sn sc)):=I2.o.but.setCell _ (.inr (by show w.heap.size≤R;omega)) _;have gc:=(Qd (Qkx HR.o (.slice sa sn sc))).1 0;refine bodyPost_ret (v:=.agg #[.slice sa sn sc]) ?_ rfl ?_
 ·simp[results,Tryz.results9,go_sem,gc]
 refine⟨l,_,⟨by rw[HL.o];omega,by rw[HL.o];exact hm3,fun i f hf=>?_⟩,rfl,HF.o.keep (hS _ ZD) (hS _ ZD) (hS _ ZD) (hS _ ZD),htape,hbut⟩;rw[HL.o];exact I2.o.gen i f hf
end
section
open Go.RowKit
variable [Base]
theorem Qoa.tr {w:World}{a:Option Addr}{n c:Nat}{l:List Qw}(h:Qoa trEl w (.slice a n c) l){k:Nat}{x:Qw}(hk:l[k]? = some x):∃b off gu ku cu,a=some ⟨b,off,none⟩∧b<w.heap.size∧Qja w gu ku cu x ∧
  w.cell? ⟨b,off+k*5,none⟩=some (iv x.gen.width)∧w.cell? ⟨b,off+k*5+1,none⟩=some gu∧w.cell? ⟨b,off+k*5+2,none⟩=some (iv x.kill.width)∧w.cell? ⟨b,off+k*5+3,none⟩=some ku∧w.cell? ⟨b,off+k*5+4,none⟩=some cu:=by
 obtain⟨a',c',e,-,-,-,h1⟩:=h.cell;injection e with e
 subst e;obtain⟨b,off,cs,e,hb,⟨gu,ku,cu,rfl,ht⟩,hc⟩:=h1 k x hk;exact⟨b,off,gu,ku,cu,e,hb,ht,hc 0 (show 0<5 by omega),hc 1 (show 1<5 by omega),hc 2 (show 2<5 by omega),hc 3 (show 3<5 by omega),hc 4 (show 4<5 by omega)⟩
theorem QAa.but {B bt:Nat}{w w':World}{v:Value}{p:List Qo}(h:QAa w v p)(ht:QZ B w bt)(hb:But bt w w'):QAa w' v p:=h.keep (hb.sameT ht ZD) (hb.sameT ht ZD) (hb.sameT ht ZD) (hb.sameT ht ZD)
theorem QVx {B bt:Nat}{w0 w1 w:World}(h:Below B w0 w1)(hb:But bt w1 w)(hB:B≤bt)(hs:B≤w1.heap.size):Below B w0 w:=h.trans (hb.toBelow hB hs)
theorem Qgy (t:Qw):eqTB t t=true:=by simp[eqTB,Qhj]
structure VlIn (q g m n:Nat)(s:SysS)(kind:Int)(p:List Qo)(dv tv bv nv sv pv:Value)(wr:World):Prop where
 sys:wr.heap[q]? = some (.cells #[iv m,dv,tv,bv] SYT (0,0))
 gr:wr.heap[g]? = some (.cells #[nv,sv,pv] GRT (0,0))
 at_:QKd wr dv tv bv s
 succ:Qoa Qqc wr sv (Qkc p)
 pred:Qoa Qqc wr pv (Qmc p)
 base:Base.b≤q∧q<g
theorem VlIn.next {q g m n:Nat}{s:SysS}{kind:Int}{p:List Qo}{dv tv bv nv sv pv:Value}{wr w2:World}(h:VlIn q g m n s kind p dv tv bv nv sv pv wr)(b:Below wr.heap.size wr w2):VlIn q g m n s kind p dv tv bv nv sv pv w2:=
 ⟨Qc h.sys b (Qb h.sys),Qc h.gr b (Qb h.gr),h.at_.below b,h.succ.below b,h.pred.below b,h.base⟩
theorem QQw (w0:World)(a:Option Addr)(an ac:Nat)(hn:an≤maxLen)(h:∀j:Nat,j<an→∃b off z,a=some ⟨b,off,none⟩∧b<w0.heap.size∧w0.cell? ⟨b,off+j,none⟩=some (.int .i64 z))(kw:KwIn w0.heap.size w0)(ef:Qmg w0.heap.size w0)(tz:TzIn w0.heap.size w0)(hbs:Base.b≤w0.heap.size):
  Calls Tryz.prog 4 #[.slice a an ac] w0 (Qia true w0):=by
 have H:=Zh h;have KW:=Zh kw;have EF:=Zh ef;have TZ:=Zh tz;have hud:∀b:Bool,(undef=Value.bool b)=False:=fun b=>by simp[undef]
 obtain⟨bt,hbt⟩:=Ze w0.heap.size;clear h kw ef tz;go_enter Tryz.func4,Tryz.ntmps4;go_wp2_with fail;refine(QDt rfl a an ac hn H.o).mono ?_;rintro e w1 ⟨rfl,ht1,hb1⟩;rw[hbt] at H KW EF TZ ht1 hb1 hbs ⊢;have T1:=Zh ht1;have B1:=Zh hb1;clear ht1 hb1;go_wp2_with fail;refine(Qyx T1.o).mono ?_;rintro e w2 ⟨p,v,hgp,rfl,hfa,ht2,hb2⟩;obtain⟨va,vc,rfl,hvm,-⟩:=hfa.cell;obtain⟨np,hnp⟩:=Ze p.length;rw[hnp] at hfa hvm ⊢;have GP:=Zh hgp;have B2:=Zh (QVx B1.o hb2 (Nat.le_refl _) (Nat.le_of_lt T1.o.lt));obtain⟨pb,hpb⟩:=Ze w2.heap.size;obtain⟨V,hV⟩:=Ze (w2.alloc (.cells #[.slice va np vc] 25));have HV:=Zh hV;have TV:=Zh (show QZ bt V bt by rw[←hV];exact ht2.alloc _);have FV:=Zh (show QAa V (.slice va np vc) p by rw[←hV];exact hfa.below (Zb));have PV:=Zh (show V.heap[pb]? = some (.cells #[.slice va np vc] 25 (0,0)) by rw[←hV,←hpb];exact heap_alloc_new _ _);have BV:=Zh (show Below bt w0 V by rw[←hV];exact B2.o.alloc (by have:=B2.o.size;omega) _);have hne:pb≠bt:=by have:=ht2.lt;omega
 clear hgp hfa ht2 hb2 hV hnp B2 T1 B1;go_upto_region 3 with(fail)
 rw[show w2.alloc (.cells #[.slice va np vc] 25)=V from HV.o]
 try rw[hpb]
 go_wp2_with fail;refine(QLu TV.o 4 ZO ZO).mono ?_;rintro e w4 ⟨kk,k1,k2,rfl,t4,b4⟩;have F4:=Zh (FV.o.but TV.o b4);have P4:=Zh ((b4.block pb (Qb PV.o) hne).trans PV.o);have B4:=Zh (QVx BV.o b4 (Nat.le_refl _) (Nat.le_of_lt TV.o.lt));have hf:=GP.o.facts (kind:=1+kk) ZO ZO;have HCK:=Zh (Qkb hf).1;have hbq:Base.b≤w4.heap.size:=by have:=B4.o.size;omega
 have QO:=Zh (Qqu (B:=bt) (KW.o.keep fun k hk=>B4.o.block k ZO) (EF.o.below B4.o) (TZ.o.below B4.o) (by have:=B4.o.size;omega) p _ F4.o GP.o.fit (1+kk));rw[show ofT p (1+kk)=(QZc p (1+kk),0) by unfold ofT;rw[if_pos hf]] at QO;have HOK:=Zh (Qas hf);have HCN:=Zh (QFx hf);have HDP:=Zh (show(QZc p (1+kk)).deps=if 1+kk=2 then Qkc p else Qmc p from rfl);have c0:w4.cell? ⟨pb,0,none⟩=some (.slice va np vc):=by simp[World.cell?,P4.o]
 have wk:IntKind.i64.wrap (1+kk)=1+kk:=IntWalk.i64_in _ ZO;obtain⟨s,hs⟩:=Ze (QZc p (1+kk));obtain⟨n,hnn⟩:=Ze ((QR p).length);obtain⟨m,hmm⟩:=Ze ((QC p (1+kk)).length);rw[hs] at QO HOK HCN HDP;rw[hnn,hmm] at HOK;have HLS:=Zh (show(Qkc p).length=n∧(Qmc p).length=n from⟨(QBk p).trans hnn,(QCk p).trans hnn⟩);have HNN:=Zh hnn;clear t4 b4 hf hs hnn hmm;go_wp2_with fail;refine QO.o.mono ?_;rintro e w5 ⟨dv,tv,bv,rfl,hsa,b5⟩;obtain⟨da,dc,rfl,-⟩:=hsa.deps.cell;obtain⟨ta,tc,rfl,-⟩:=hsa.trans.cell;obtain⟨ba,bc,rfl,-⟩:=hsa.bnds.cell;rw[HOK.o.deps,HOK.o.trans,HOK.o.bnds] at hsa ⊢;rw[show sysV s (.slice da n dc) (.slice ta n tc) (.slice ba n bc)=.agg #[iv m,.slice da n dc,.slice ta n tc,.slice ba n bc] by show Value.agg #[iv s.width,_,_,_]=_;rw[HOK.o.width]];obtain⟨q,hq⟩:=Ze w5.heap.size;obtain⟨W,hW⟩:=Ze (w5.alloc (.cells #[iv m,.slice da n dc,.slice ta n tc,.slice ba n bc] SYT));have HW:=Zh hW;have BW:=Zh (show Below w4.heap.size w4 W by rw[←hW];exact b5.alloc b5.size _);have H5:=Zh (show QKd W (.slice da n dc) (.slice ta n tc) (.slice ba n bc) s by rw[←hW];exact hsa.below (Zb));have S5:=Zh (show W.heap[q]? = some (.cells #[iv m,.slice da n dc,.slice ta n tc,.slice ba n bc] SYT (0,0)) by rw[←hW,←hq];exact heap_alloc_new _ _);have c1:W.cell? ⟨pb,0,none⟩=some (.slice va np vc):=(BW.o.cell (p:=⟨pb,0,none⟩) (Qb P4.o)).trans c0;have hq0:Base.b≤q:=by have:=b5.size;omega
 clear hsa b5 hW QO c0 wk;go_upto_region 5 with(fail)
 rw[show w5.alloc (.cells #[iv m,.slice da n dc,.slice ta n tc,.slice ba n bc] SYT)=W from HW.o]
 try rw[hq]
 go_wp2_with fail;refine(QLx p _ (F4.o.below BW.o) HCK.o (by have:=BW.o.size;omega)).mono ?_;rintro e w6 ⟨nv,sv,pv,rfl,hN,hS,hP,b6⟩;rw[HCK.o];obtain⟨na,nc,rfl,-⟩:=hN.cell;obtain⟨sa,sc,rfl,-⟩:=hS.cell;obtain⟨pa,pc,rfl,-⟩:=hP.cell;rw[HNN.o];rw[HLS.o.1] at hS ⊢;rw[HLS.o.2] at hP ⊢;obtain⟨g,hg⟩:=Ze w6.heap.size;obtain⟨X,hX⟩:=Ze (w6.alloc (.cells #[.slice na n nc,.slice sa n sc,.slice pa n pc] GRT));have HX:=Zh hX;have BX:=Zh (show Below W.heap.size W X by rw[←hX];exact b6.alloc b6.size _);have bx:=(Below.refl w6.heap.size w6).alloc (Nat.le_refl _) (.cells #[.slice na n nc,.slice sa n sc,.slice pa n pc] GRT);rw[hX] at bx;have HI:=Zh (show VlIn q g m n s (1+kk) p (.slice da n dc) (.slice ta n tc) (.slice ba n bc) (.slice na n nc) (.slice sa n sc) (.slice pa n pc) X from
  ⟨Qc S5.o BX.o (Qb S5.o),by rw[←hX,←hg];exact heap_alloc_new _ _,H5.o.below BX.o,hS.below bx,hP.below bx,hq0,by have:=Qb S5.o;have:=b6.size;omega⟩)
 have B6:=Zh (show Below bt w0 X from B4.o.trans ((BW.o.trans (BX.o.mono BW.o.size)).mono (by have:=B4.o.size;omega)));clear hN hS hP b6 bx hX c1 S5 H5 BX BW F4 P4 B4 BV PV FV TV;go_upto_region 6 with(fail)
 rw[show w6.alloc (.cells #[.slice na n nc,.slice sa n sc,.slice pa n pc] GRT)=X from HX.o]
 try rw[hg]
 obtain⟨x0,x1,x2,x3⟩:=Qt HI.o.sys;obtain⟨y0,y1,y2⟩:=QHi HI.o.gr;have KE:=Zh (QRo s _ _ _ X HI.o.at_);simp only[sysV] at KE;rw[HOK.o.width,HOK.o.b] at KE;go_wp2_with fail;refine KE.o.mono ?_;rintro e w7 ⟨rfl,b7⟩;have HI7:=Zh (HI.o.next b7);have B7:=Zh (B6.o.trans (b7.mono (by have:=B6.o.size;omega)));clear x0 x1 x2 x3 y0 y1 y2 KE b7 HI B6;obtain⟨x0,x1,x2,x3⟩:=Qt HI7.o.sys;obtain⟨y0,y1,y2⟩:=QHi HI7.o.gr;go_wp2_with fail;have hn1:=HOK.o.n1;have hnu:=HOK.o.nle;have hbg:=HI7.o.base;go_loopw [10] (fun y wr=>∃i:Nat,i≤n∧y=.int .i64 i∧Hid (VlIn q g m n s (1+kk) p (.slice da n dc) (.slice ta n tc) (.slice ba n bc) (.slice na n nc) (.slice sa n sc) (.slice pa n pc) wr)∧Hid (Below bt w0 wr)) (fun y _=>n-(intOf y).toNat)
 case atStart=>exact⟨0,Nat.zero_le _,rfl,HI7.o,B7.o⟩
 case round=>
  clear x0 x1 x2 x3 y0 y1 y2;obtain⟨i,hi,rfl,HI,HB⟩:=hrel;obtain⟨x0,x1,x2,x3⟩:=Qt HI.o.sys;obtain⟨y0,y1,y2⟩:=QHi HI.o.gr;by_cases hlt:i<n;rotate_left
  ·obtain rfl:i=n:=by omega
   have KSN:=Zh (show ∀x,Below wr.heap.size wr x→Calls Tryz.prog 15 #[] x (Qia true x) from fun x b=>by
    have hb:Below bt w0 x:=HB.o.trans (b.mono (by have:=HB.o.size;omega));exact QKr (B:=bt) (KW.o.keep fun k hk=>hb.block k ZO) (EF.o.below hb) (TZ.o.below hb) (by have:=hb.size;omega))
   by_cases k3:1+kk=2
   ·obtain rfl:kk=1:=by omega
    have SL:=Zh (Qlx s.deps (.slice da i dc) (.slice sa i sc) wr HI.o.at_.deps (by rw[HDP.o,if_pos ZO];exact HI.o.succ));go_wp2_with fail;refine SL.o.mono ?_;rintro e w8 ⟨rfl,b8⟩;go_wp2_with fail;refine(KSN.o _ b8).mono ?_;rintro e w9 ⟨rfl,b9⟩;go_wp2;go_ret;exact⟨rfl,by rw[hbt];exact HB.o.trans ((b8.trans (b9.mono b8.size)).mono (by have:=HB.o.size;omega))⟩
   ·have SL:=Zh (Qlx s.deps (.slice da i dc) (.slice pa i pc) wr HI.o.at_.deps (by rw[HDP.o,if_neg k3];exact HI.o.pred));go_wp2_with fail;refine SL.o.mono ?_;rintro e w8 ⟨rfl,b8⟩;go_wp2_with fail;refine(KSN.o _ b8).mono ?_;rintro e w9 ⟨rfl,b9⟩;go_wp2;go_ret;exact⟨rfl,by rw[hbt];exact HB.o.trans ((b8.trans (b9.mono b8.size)).mono (by have:=HB.o.size;omega))⟩
  obtain⟨t,ht⟩:∃x,s.trans[i]? = some x:=⟨_,List.getElem?_eq_getElem (by rw[HOK.o.trans];exact hlt)⟩;obtain⟨tb,to_,gu,ku,cu,rfl,htb,hta,u0,u1,u2,u3,u4⟩:=HI.o.at_.trans.tr ht;have HTA:=Zh hta;have KC:=Zh (Qqr (B:=bt) t gu ku cu wr hta (TZ.o.below HB.o) (by have:=HB.o.size;omega));rw[HCN.o t (List.mem_of_getElem? ht)] at KC;obtain⟨ga,gn,gc,rfl⟩:=hta.gen.shape;obtain⟨ka,kn,kc,rfl⟩:=hta.kill.shape;obtain⟨ca,cc,rfl,-⟩:=hta.cops.cell;obtain⟨cn,hcn⟩:=Ze t.cops.length;rw[hcn] at u4 HTA KC;have HCC:=Zh hcn;have hi0:(i:Int)<(n:Int):=by omega
  have hi1:(0:Int)≤(i:Int):=by omega
  clear ht hta hcn;go_wp2_with fail;refine KC.o.mono ?_;rintro e w8 ⟨gu2,ku2,cu2,rfl,hta2,b8⟩;obtain⟨ga2,gn2,gc2,rfl⟩:=hta2.gen.shape;obtain⟨ka2,kn2,kc2,rfl⟩:=hta2.kill.shape;obtain⟨ca2,cc2,rfl,-⟩:=hta2.cops.cell;rw[HCC.o] at hta2
  try rw[HCC.o]
  obtain⟨fb,hfb⟩:=Ze w8.heap.size;obtain⟨Y,hY⟩:=Ze (w8.alloc (.cells #[iv t.gen.width,.slice ga2 gn2 gc2,iv t.kill.width,.slice ka2 kn2 kc2,.slice ca2 cn cc2] 55));have HY:=Zh hY;have bx:=(Below.refl w8.heap.size w8).alloc (Nat.le_refl _) (.cells #[iv t.gen.width,.slice ga2 gn2 gc2,iv t.kill.width,.slice ka2 kn2 kc2,.slice ca2 cn cc2] 55);rw[hY] at bx;have HF:=Zh (show Y.heap[fb]? = some (.cells #[iv t.gen.width,.slice ga2 gn2 gc2,iv t.kill.width,.slice ka2 kn2 kc2,.slice ca2 cn cc2] 55 (0,0)) by rw[←hY,←hfb];exact heap_alloc_new _ _);have HT2:=Zh (hta2.below bx);have BY:=Zh (show Below wr.heap.size wr Y from b8.trans (bx.mono b8.size));have HT1:=Zh (HTA.o.below BY.o);have HI8:=Zh (HI.o.next BY.o);have B8:=Zh (show Below bt w0 Y from HB.o.trans (BY.o.mono (by have:=HB.o.size;omega)));have v0:=(BY.o.cell (p:=⟨tb,to_+i*5,none⟩) htb).trans u0;have v1:=(BY.o.cell (p:=⟨tb,to_+i*5+1,none⟩) htb).trans u1;have v2:=(BY.o.cell (p:=⟨tb,to_+i*5+2,none⟩) htb).trans u2;have v3:=(BY.o.cell (p:=⟨tb,to_+i*5+3,none⟩) htb).trans u3;have v4:=(BY.o.cell (p:=⟨tb,to_+i*5+4,none⟩) htb).trans u4;have htb2:tb<Y.heap.size:=by have:=BY.o.size;omega
  clear u0 u1 u2 u3 u4 htb hta2 b8 bx hY KC HI HB x0 x1 x2 x3 y0 y1 y2 HTA BY;obtain⟨x0,x1,x2,x3⟩:=Qt HI8.o.sys;obtain⟨f0,f1,f2,f3,f4⟩:=QJ HF.o;go_upto_region 12 with(fail)
  rw[show w8.alloc (.cells #[iv t.gen.width,.slice ga2 gn2 gc2,iv t.kill.width,.slice ka2 kn2 kc2,.slice ca2 cn cc2] 55)=Y from HY.o]
  try rw[hfb]
  refine Zr (fun w'=>w'.cell? ⟨fb,0,none⟩=some (iv t.gen.width)∧w'.cell? ⟨fb,1,none⟩=some (.slice ga2 gn2 gc2)∧w'.cell? ⟨fb,2,none⟩=some (iv t.kill.width)∧w'.cell? ⟨fb,3,none⟩=some (.slice ka2 kn2 kc2)∧w'.cell? ⟨fb,4,none⟩=some (.slice ca2 cn cc2)∧w'.cell? ⟨q,2,none⟩=some (.slice (some ⟨tb,to_,none⟩) n tc)∧w'.cell? ⟨tb,to_+i*5,none⟩=some (iv t.gen.width)∧w'.cell? ⟨tb,to_+i*5+1,none⟩=some (.slice ga gn gc)∧w'.cell? ⟨tb,to_+i*5+2,none⟩=some (iv t.kill.width)∧w'.cell? ⟨tb,to_+i*5+3,none⟩=some (.slice ka kn kc)∧w'.cell? ⟨tb,to_+i*5+4,none⟩=some (.slice ca cn cc)) 11 (⟨f0,f1,f2,f3,f4,x2,v0,v1,v2,v3,v4⟩) fun hS0=>?_
  refine Yc 0 63 [1,2] ?_;refine Yc 1 64 [2] ?_;refine Yd 2 65 ?_;refine Yc 3 66 [9,10] ?_;refine Yc 4 67 [5,7,8,9,10] ?_;refine Yc 5 68 [7,8,9,10] ?_;refine Yc 6 69 [7,8,9,10] ?_;refine Yc 7 70 [8,9,10] ?_;refine Yc 8 71 [9,10] ?_;refine QP 9 (some 72) 20 #[.agg #[iv t.gen.width,.slice ga2 gn2 gc2,iv t.kill.width,.slice ka2 kn2 kc2,.slice ca2 cn cc2],.agg #[iv t.gen.width,.slice ga gn gc,iv t.kill.width,.slice ka kn kc,.slice ca cn cc]] rfl ZK ZK ZK rfl ?_;have D1:=Zh (Qp (Below.refl Y.heap.size Y) 1);refine(Qdm t t _ _ _ _ _ _ (Y.drewN 1) (HT2.o.below D1.o) (HT1.o.below D1.o)).mono ?_;rintro e z1 ⟨rfl,b1⟩;rw[Qgy];have D2:=Zh (show Below Y.heap.size Y z1 from D1.o.trans b1);clear b1;obtain⟨e0,e1,e2,e3,e4⟩:=QJ (Qc HF.o D2.o (Qb HF.o));have HI9:=Zh (HI8.o.next D2.o);have B9:=Zh (B8.o.trans (D2.o.mono (by have:=B8.o.size;omega)));have hS1:(fun w':World=>w'.cell? ⟨fb,0,none⟩=some (iv t.gen.width)∧w'.cell? ⟨fb,1,none⟩=some (.slice ga2 gn2 gc2)∧w'.cell? ⟨fb,2,none⟩=some (iv t.kill.width)∧w'.cell? ⟨fb,3,none⟩=some (.slice ka2 kn2 kc2)∧w'.cell? ⟨fb,4,none⟩=some (.slice ca2 cn cc2)∧w'.cell? ⟨q,2,none⟩=some (.slice (some ⟨tb,to_,none⟩) n tc)∧w'.cell? ⟨tb,to_+i*5,none⟩=some (iv t.gen.width)∧w'.cell? ⟨tb,to_+i*5+1,none⟩=some (.slice ga gn gc)∧w'.cell? ⟨tb,to_+i*5+2,none⟩=some (iv t.kill.width)∧w'.cell? ⟨tb,to_+i*5+3,none⟩=some (.slice ka kn kc)∧w'.cell? ⟨tb,to_+i*5+4,none⟩=some (.slice ca cn cc)) z1:=⟨e0,e1,e2,e3,e4,(Qt HI9.o.sys).2.2.1,(D2.o.cell (p:=⟨tb,to_+i*5,none⟩) htb2).trans v0,(D2.o.cell (p:=⟨tb,to_+i*5+1,none⟩) htb2).trans v1,(D2.o.cell (p:=⟨tb,to_+i*5+2,none⟩) htb2).trans v2,(D2.o.cell (p:=⟨tb,to_+i*5+3,none⟩) htb2).trans v3,(D2.o.cell (p:=⟨tb,to_+i*5+4,none⟩) htb2).trans v4⟩;clear hS0 e0 e1 e2 e3 e4;have hS0:=hS1;clear hS1;refine⟨_,rfl,fun _=>hS0,?_⟩;refine Yd 10 73 ?_;refine QW 11 (some 74) (.bool false) z1 rfl ZK ZK (by go_simp) rfl (fun h=>absurd rfl h) ?_;refine Qu ZK ?_ _;generalize hA:Act.put _ _ _=A0;simp only[Qba,Qaa,Zu,Zv,Zw] at hA;subst hA;clear hS0 f0 f1 f2 f3 f4 x0 x1 x2 x3 v0 v1 v2 v3 v4;go_wp2;go_roundw
  case rel=>exact⟨i+1,by omega,by go_num,HI9.o,B9.o⟩
  case measure=>simp[intOf];omega
end
section
open Go
theorem Qwl {H:Type}{enc:TypeId×Value→H}{P:Program}{w:World}{base:Nat}{sp:Nat→Bool}{held:Bool}{fuel:Nat}{t e u:TypeId}{n m:Nat}{k:IntKind}{zss:List (List Int)}{cs:List Value}{p:List MemPlace}(ht:P.underlying t=some (.array n e))(he:P.underlying e=some (.array m u))(hu:P.underlying u=some (.int k))(hcu:P.cellsOf u=1)(hce:P.cellsOf e=m)(hct:P.cellsOf t=n*m)(h:DataW.trod enc P w base sp held fuel t cs=some (.agg (zss.map (Lib.tabData k)),p))(i:Nat)(zs:List Int)(hi:zss[i]? = some zs):(cs.drop (i*m)).take m=zs.map fun z=>Value.int k z:=by
 cases fuel with
|zero=>simp[DataW.trod] at h
|succ fuel=>
  simp only[DataW.trod,ht,hce,hct] at h
  split at h
  ·rename_i hl;obtain⟨xs,hm,hx⟩:=Option.map_eq_some_iff.1 h;have hxs:xs.map (·.1)=zss.map (Lib.tabData k):=by
    have:=congrArg Prod.fst hx
    simpa using this
   have hxl:xs.length=n:=by simpa using Lib.mapM_length hm
   have hin:i<n:=by
    have h1:=(List.getElem?_eq_some_iff.1 hi).1;have h2:=congrArg List.length hxs;simp at h2;omega
   obtain⟨b,hb,hf⟩:=Lib.mapM_at hm i i (by simp[hin]);have h3:=congrArg (·[i]?) hxs;simp only[List.getElem?_map,hb,hi,Option.map_some,Option.some.injEq] at h3;obtain⟨b1,b2⟩:=b;subst h3;exact Lib.cells_of_tab he hu hcu hce hf
  ·cases h
end
section
open Go.ChangeShapes Go.WideShapes Go.ChangeAt Go.WideMaps Go.WideElems Go.ChangeMaps Go.Deep Go.RowKit
theorem own:ownKnob Tryz.prog.godebug=none:=by kernel_rfl
theorem gTz:Tryz.prog.globalNamed "math/bits.deBruijn64tab" = some 1:=by kernel_rfl
theorem tTz:(Tryz.prog.globals[1]?).map (·.type)=some 263:=by kernel_rfl
theorem gKw:Tryz.prog.globalNamed "flowquery/lexer.keywords" = some 2:=by kernel_rfl
theorem tKw:(Tryz.prog.globals[2]?).map (·.type)=some 86:=by kernel_rfl
theorem gEf:Tryz.prog.globalNamed "flowquery/equations.effects" = some 0:=by kernel_rfl
theorem tEf:(Tryz.prog.globals[0]?).map (·.type)=some 170:=by kernel_rfl
theorem cU8:Tryz.prog.cellsOf 5=1:=by kernel_rfl
theorem cTz:Tryz.prog.cellsOf 263=64:=by kernel_rfl
theorem cStr:Tryz.prog.cellsOf 9=1:=by kernel_rfl
theorem cInt:Tryz.prog.cellsOf 3=1:=by kernel_rfl
theorem c5:Tryz.prog.cellsOf 169=5:=by kernel_rfl
theorem cEf:Tryz.prog.cellsOf 170=10*5:=by kernel_rfl
def QAm:List (String×DataW Unit):=[("math/bits.deBruijn64tab",Rows.laid_math_bits_deBruijn64tab),("flowquery/lexer.keywords",Rows.laid_flowquery_lexer_keywords),("flowquery/equations.effects",Rows.laid_flowquery_equations_effects)]
def tz64:List Int:=Lib.deBruijn64tab.map Int.ofNat
theorem d64:(Rows.laid_math_bits_deBruijn64tab:DataW Unit)=Lib.tabData .u8 tz64:=rfl
def effL:List (List Int):=(List.range 10).map fun o=>(List.range 5).map fun k=>(effN o k:Int)
theorem dEf:(Rows.laid_flowquery_equations_effects:DataW Unit)=.agg (effL.map (Lib.tabData .i64)):=rfl
theorem Qwh {w:World}{b o:Nat}{v:Value}(h:w.cell? ⟨b,o,none⟩=some v):b<w.heap.size:=by
 rcases Nat.lt_or_ge b w.heap.size with h'|h'
 ·exact h'
 ·simp[World.cell?,Array.getElem?_eq_none h'] at h
theorem QHs (os:Os)(args:Array Value):laidMetH Tryz.prog QAm ((World.doorLaid Tryz.prog 400 os).forCall (fun _ _=>0) ⟨#[],args,[]⟩).memory:=
 laidMetH_of_parts3 (fuel:=8) (laidMet_of_run' 8 ZK ZK) ZK ZK
theorem Qzt [Base]{W:World}(h:laidMetH Tryz.prog QAm W)(hbs:Base.b≤W.heap.size):KwIn W.heap.size W∧Qmg W.heap.size W∧TzIn W.heap.size W:=by
 rw[MakeChecks.laidMetH_plain _ _ _ ZK] at h;obtain⟨ps,h,_⟩:=h;obtain⟨g0,t0,cs0,f0,p0,q0,hg0,ht0,hv0,hd0,h,-⟩:=h;obtain⟨g1,t1,cs1,f1,p1,q1,hg1,ht1,hv1,hd1,h,-⟩:=h;obtain⟨g2,t2,cs2,f2,p2,q2,hg2,ht2,hv2,hd2,h,-⟩:=h;obtain rfl:=Option.some.inj (gTz.symm.trans hg0);obtain rfl:=Option.some.inj (gKw.symm.trans hg1);obtain rfl:=Option.some.inj (gEf.symm.trans hg2);obtain rfl:=Option.some.inj (tTz.symm.trans ht0);obtain rfl:=Option.some.inj (tKw.symm.trans ht1);obtain rfl:=Option.some.inj (tEf.symm.trans ht2);rw[d64] at hd0;rw[dEf] at hd2;have e0:=Lib.cells_of_tab Tryz.underlying263 Tryz.underlying5 cU8 cTz hd0;have k0:Lib.TabIs Tryz.prog W "math/bits.deBruijn64tab" .u8 tz64:=by unfold Lib.TabIs;rw[hv0,←e0]
 have ke:∀o k,o<10→k<5→W.cell? ⟨0,o*5+k,none⟩=some (iv (effN o k)):=fun o k ho hk=>by
  have h1:=Qwl Tryz.underlying170 Tryz.underlying169 Tryz.underlying3 cInt c5 cEf hd2 o ((List.range 5).map fun k=>(effN o k:Int)) (by unfold effL;simp[ho]);have h2:=congrArg (·[k]?) h1;simp only[List.getElem?_take,List.getElem?_drop,hk,if_true,List.getElem?_map,List.getElem?_range hk,Option.map_some] at h2;have h3:=World.var?_cell hg2 hv2 (o*5+k);rw[h3]
  simpa using h2
 refine⟨?_,⟨by have:=Qwh (ke 0 0 ZO ZO);omega,hbs,ke⟩,⟨by have:=Qwh (k0.cell gTz 0 ZD);omega,hbs,fun j hj=>?_⟩⟩;rotate_left
 ·rw[k0.cell gTz j (by unfold tz64;rw[List.length_map];exact hj)]
  congr 2
  unfold tz64;simp[List.getD,hj]
 rcases open_strs Tryz.underlying86 Tryz.underlying9 cStr hd1 with⟨_,hx⟩|⟨a,len,cap,m,Sx,hcs,_,hl1,hl2,hm,hx,hcell⟩
 ·simp[Rows.laid_flowquery_lexer_keywords] at hx
 simp only[Prod.mk.injEq] at hx;have hK:kws.map (fun l=>(DataW.lit (.string l):DataW Unit))=(List.range len).map fun i=>.lit (.string (Sx i).data.toList):=by
  have h1:=hx.1;have h2:(Rows.laid_flowquery_lexer_keywords:DataW Unit)=.slice (kws.map fun l=>.lit (.string l)) []:=rfl;rw[h2] at h1;injection h1 with h1 _
 have hlen:len=11:=by
  have:=congrArg List.length hK;simp at this;rw[←this];rfl
 have hm2:len≤m:=by rw[hm];split <;> omega
 have hc0:W.cell? ⟨2,0,none⟩=some (.slice (some a) len cap):=by
  have:=World.var?_cell hg1 hv1 0;rw[Array.eq_one_of_toList hcs] at this
  simpa using this
 obtain⟨b,off,spot⟩:=a;have h00:=(hcell 0 ZO).1;have hspot:spot=none:=by simpa [Addr.add] using World.cell?_spot h00
 subst hspot;subst hlen;refine⟨⟨by have:=Qwh hc0;omega,hbs⟩,b,off,cap,?_,hc0,fun k s hk=>⟨b,off,rfl,?_⟩⟩
 ·rw[add_plain] at h00;exact Qwh h00
 ·have hk2:k<11:=by
   have:=(List.getElem?_eq_some_iff.1 hk).1;exact this
  have h1:=congrArg (·[k]?) hK;simp only[List.getElem?_map,hk,List.getElem?_range hk2,Option.map_some,Option.some.injEq,DataW.lit.injEq,Lit.string.injEq] at h1;have h2:=(hcell k ZO).1;rw[add_plain] at h2;rw[h2,h1]
end
end Go.Proofs.YtijekimobahgpaaGreatDoor
namespace Go.Proofs.YtijekimobahgpaaGreatDoor.equationsValid
open Go.ChangeShapes Go.WideShapes Go.ChangeAt Go.WideMaps Go.WideElems Go.ChangeMaps Go.Deep Go.RowKit
theorem Qsu (os:Os)(started:os.Started)(H:Type)(enc:TypeId×Value→H):
  ReturnsInHanded {} Tryz.checked os 4 .any (fun w args=>(Rows.equationsValidSpec.pre enc Tryz.prog Tryz.f4 [] false w args∧laidMetH Tryz.prog QAm w)∧sizedMet enc Tryz.prog Tryz.f4 (OpenSpec.ofChange Rows.equationsValidSpec) false w args)
   (Rows.equationsValidSpec.post enc Tryz.prog Tryz.f4 false true false false):=by
 refine returnsInHanded_of_change_and (C:=Tryz.checked) (X:=fun w _=>laidMetH Tryz.prog QAm w) (fun _ _ _ hh h=>h.of_heap hh) own started ZK Tryz.func4
  (ChangeSpec.witness_shaped (enc:=enc) (C:=Tryz.checked) (os:=os) (X:=fun w _=>laidMetH Tryz.prog QAm w) false (World.doorLaid Tryz.prog 400 os) #[.slice none 0 0] 8 rfl (World.shaped_of_RefB ZK ZK) ZK ZK ZK (QHs os _)) ?_
 intro W base args ds gs before hval0 hW _ _ hL _;have hval:∀(j:Nat) t v,Tryz.f4.params[j]? = some t→args[j]? = some v→Value.okWide Tryz.prog W .any base t v:=hval0;have hW':=hW;have hlt:=hW.lt;obtain⟨p,q,hA0,hV,rfl,hfz,hnd⟩:=hW;have hA:DataW.TrodAll enc Tryz.prog W 0 (fun _=>true) true Tryz.f4.params.toList args.toList ds p:=hA0;rw[Tryz.params4] at hA hval;obtain⟨v0,d0,rfl,rfl,h0⟩:=trodAll_one hA;obtain⟨rfl,rfl⟩:=trodVars_none hV;obtain⟨a0,len0,cap0,rfl⟩:=okWide_slice Tryz.underlying22 (hval 0 22 v0 rfl rfl)
 letI:Base:=⟨W.heap.size⟩
 have K:=Qzt hL (Nat.le_refl _);have keep:∀W':World,Below W.heap.size W W'→Rows.equationsValidSpec.post enc Tryz.prog Tryz.f4 false true false false W #[.slice a0 len0 cap0] (.bool true) W':=by
  intro W' bel;have h0':=Below.trod (P:=Tryz.prog) ZK ZK (by decide +kernel) h0 bel (fun x hx=>hlt x (by simp[hx]));exact⟨_,_,_,[],_,[],hW',trodAll_mk1 (shut_bool Tryz.underlying4 _),trodAll_mk1 h0',rfl,bel.frame _,fun h=>by cases h⟩
 obtain⟨fuel,hf⟩:=h0;rcases open_ints Tryz.underlying22 Tryz.underlying3 cInt hf with⟨hcs,_⟩|⟨a,len,cap,zs,hcs,_,hl1,hl2,hz,_,hcell,_⟩
 ·have hcs':[Value.slice a0 len0 cap0]=_:=hcs;injection hcs' with hcs' _
  injection hcs' with e1 e2 e3
  subst e1 e2 e3;refine(QQw W none 0 0 (Nat.zero_le _) (fun j hj=>by omega) K.1 K.2.1 K.2.2 (Nat.le_refl _)).mono fun e W' ⟨he,bel⟩=>?_
  subst he;exact⟨_,rfl,keep W' bel⟩
 ·have hcs':[Value.slice a0 len0 cap0]=_:=hcs;injection hcs' with hcs' _
  injection hcs' with e1 e2 e3
  subst e1 e2 e3;refine(QQw W (some a) len0 cap0 ZO (fun j hj=>?_) K.1 K.2.1 K.2.2 (Nat.le_refl _)).mono fun e W' ⟨he,bel⟩=>?_
  ·have hlz:len0≤zs.length:=by rw[hz];split <;> omega
   obtain⟨b,off,rfl,hc⟩:=ints_at hcell ZO;exact⟨b,off,_,rfl,Qwh (hc j ZO),hc j ZO⟩
  ·subst he;exact⟨_,rfl,keep W' bel⟩
theorem over:Rows.EquationsValidSaid:=
 OpenClaim.holds_of_wide 4 Tryz.f4 rfl rfl rfl rfl rfl rfl rfl ⟨rfl,rfl,rfl,rfl,rfl⟩ rfl rfl rfl rfl rfl ZK Tryz.func4 ZK
  (of_decide_eq_true ZK) (by unfold Func.isWrapper;first|(rw[if_pos (by decide +kernel)];kernel_rfl)|(rw[if_neg (by decide +kernel)];exact⟨rfl,rfl⟩))
  (fun os started H enc _=>Qsu os started H enc)
end Go.Proofs.YtijekimobahgpaaGreatDoor.equationsValid
namespace Go.Proofs.YtijekimobahgpaaGreatDoor
open Go
theorem equationsValid_card_holds:Rows.EquationsValidCardSaid:=
 Claim7.holds_tied_plain_at .later [] [.data,.widerDeep,.data] true Rows.equationsValidCard.stood.harness false
  equationsValid.over (fun _ h=>by cases h) ZK (fun _ h=>by cases h) equationsValid_row_tie rfl ⟨rfl,rfl⟩ ZK rfl
  (fun f fn hf hfn=>by
   obtain rfl:f=4:=Option.some.inj ((show Tryz.prog.funcNamed "flowquery/flqlaw10.EquationsValid" = some 4 by kernel_rfl).symm.trans hf) |>.symm
   obtain rfl:fn=Tryz.f4:=(Option.some.inj (Tryz.func4.symm.trans hfn)).symm
   exact⟨by kernel_rfl,fun j t ht=>by
    rw[Tryz.params4] at ht
    rcases j with _|j
    ·obtain rfl:t=22:=by simpa using ht.symm
     exact(show Tryz.prog.wantsStandIn 22=false by kernel_rfl)
    ·simp at ht⟩)
  ZK
#print axioms equationsValid_card_holds
end Go.Proofs.YtijekimobahgpaaGreatDoor
