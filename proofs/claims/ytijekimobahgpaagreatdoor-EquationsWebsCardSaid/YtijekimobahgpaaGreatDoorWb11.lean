/- A part of the proof. -/
import Derived.Test.YtijekimobahgpaaGreatDoorWb10
set_option linter.unusedVariables false
set_option linter.unusedSimpArgs false
set_option linter.unusedSectionVars false
set_option maxRecDepth 100000
set_option maxHeartbeats 16000000
namespace Go.Proofs.YtijekimobahgpaaGreatDoor
section
open Go.RowKit
variable [Base]
theorem QJp {l:List Int}{n:Int}{i:Nat}(hA:Asc l)(hi:i≤l.length)(h1:∀j x,j<i→l[j]? = some x→x<n)(h2:∀x,l[i]? = some x→n<x):insI l n=l.take i++n::l.drop i:=by
 have hgt:∀j x,i≤j→l[j]? = some x→n<x:=fun j x hj hx=>by
  have hjl:=(List.getElem?_eq_some_iff.1 hx).1;have hil:i<l.length:=by omega
  have h3:=h2 _ (List.getElem?_eq_getElem hil);rcases Nat.eq_or_lt_of_le hj with rfl|hlt
  ·rw[List.getElem?_eq_getElem hil] at hx;injection hx with hx;omega
  ·have:=(List.pairwise_iff_getElem.1 hA) i j hil hjl hlt;rw[List.getElem?_eq_getElem hjl] at hx;injection hx with hx
   omega
 have hn:n∉l:=fun h=>by
  obtain⟨j,hj⟩:=List.mem_iff_getElem?.1 h;rcases Nat.lt_or_ge j i with h3|h3
  ·have:=h1 j n h3 hj;omega
  ·have:=hgt j n h3 hj;omega
 unfold insI;rw[if_neg hn];have hT:∀(l:List Int) (i:Nat),i≤l.length→(∀j x,j<i→l[j]? = some x→x<n)→(∀x,l[i]? = some x→¬x<n)→l.takeWhile (decide <| · < n)=l.take i∧l.dropWhile (decide <| · < n)=l.drop i:=fun l=>by
  induction l with
 |nil=>intro i hi _ _;simp
 |cons y r ih=>
   intro i hi h1 h2
   cases i with
  |zero=>
    have:=h2 y rfl;simp[this]
  |succ i=>
    have h3:=h1 0 y ZO rfl;obtain⟨k1,k2⟩:=ih i (by simpa using hi) (fun j x hj hx=>h1 (j+1) x ZO (by simpa using hx)) (fun x hx=>h2 x (by simpa using hx));simp[h3,k1,k2]
 obtain⟨k1,k2⟩:=hT l i hi h1 (fun x hx=>by have:=h2 x hx;omega);rw[k1,k2]
theorem Qwc {w:World}{k:Nat}(h:w.heap.size=k):(w.alloc (.cells #[] 3)).ownsRow k 3 1 (.slice (some ⟨k,0,none⟩) 0 0) 0 []:=by
 subst h;exact⟨rfl,.inr ⟨w.heap.size,0,#[],rfl,Nat.le_refl _,heap_alloc_new w _,Nat.le_refl _,Nat.zero_le _,rfl,rfl⟩⟩
def QAh (w:World)(v:Value)(l:List Int):Prop:=QJa w v l∧((v=.slice none 0 0∧l=[])∨∃b o c,v=.slice (some ⟨b,o,none⟩) l.length c)
def QCu (l:List Int)(w:World)(e:Ending)(w':World):Prop:=∃v,e=.returned v∧QAh w' v l∧Below w.heap.size w w'
theorem Qyo (l:List Int)(x:Int)(u:Value)(w:World)(hu:QAh w u l)(hA:Asc l)(hn:l.length≤1000)(hbs:Base.b≤w.heap.size):Calls Tryz.prog 65 #[u,iv x] w (QCu (insI l x) w):=by
 have FINB:=Zh (show ∀(v:Value) (w':World) (L:List Int) (n:Nat),L.length=n→0<n→w'.ownsRow w.heap.size 3 1 v n (L.map iv)→QAh w' v L from fun v w' L n hl h0 ho=>by
  subst hl;obtain⟨a,c,rfl,-,-⟩:=QXa ho;obtain⟨g,rfl,-⟩:=QWd ho h0 hbs;exact⟨Qg.of_owns ho,.inr ⟨_,_,_,rfl⟩⟩)
 rcases hu.2 with⟨rfl,rfl⟩|⟨b,o,c,rfl⟩
 ·have HE:=Zh (show insI [] x=[x] from rfl);clear hu hA hn;go_enter Tryz.func65,Tryz.ntmps65;go_wp2;refine wp_loop_rounds 1 ?_;rw[rounds_succ];go_wp2_with (first
  |(at_builtin;refine wpList_append_sl rfl _ _ 22 rfl w.heap.size 3 _ 1 8 Tryz.underlying22 QRa rfl ZD _ _ _ (Qwc rfl) rfl _ 0 ([]:List Value) rfl Qg.nil (by simp;try omega) (by simp[Value.oneCell']) (by unfold maxLen;omega) ZO ZS ?_
    intro g c1 w1 ho hg;rw[Nat.zero_add] at ho ⊢;rw[List.nil_append] at ho;have BA:=((Below.refl w.heap.size w).alloc (Nat.le_refl _) (.cells #[] 3)).trans (Below.of_grown hg (Qwc rfl) ZS);have B1:=Zh (BA:Below w.heap.size w w1);have HO1:=Zh ho;have hw1:w.heap.size≤w1.heap.size:=BA.size;clear ho hg BA)
  |(at_builtin;refine QL [iv x] rfl _ _ _ rfl w.heap.size 3 _ 1 8 Tryz.underlying22 QRa rfl ZO _ _ _ HO1.o rfl rfl rfl rfl (by unfold maxLen;omega) ZO hw1 ?_
    intro g2 c2 w2 ho hg hgz hgw;have B2:=Zh (B1.o.trans (Below.of_grown hg HO1.o hw1):Below w.heap.size w w2);have HO2:=Zh ho;have hw2:w.heap.size≤w2.heap.size:=B2.o.size;clear ho hg hgz hgw)
  |(at_builtin;refine wpList_append_sl rfl _ _ 22 rfl w.heap.size 3 _ 1 8 Tryz.underlying22 QRa rfl ZD _ _ _ HO2.o rfl _ 0 ([]:List Value) rfl ((Qg.nil:Qg w2 3 1 (.slice none 0 0) [])) (by simp;try omega) (by simp[Value.oneCell']) (by unfold maxLen;omega) ZO hw2 ?_
    intro g3 c3 w3 ho hg;have B3:=Zh (B2.o.trans (Below.of_grown hg HO2.o hw2):Below w.heap.size w w3);have HO3:=Zh ho;clear ho hg))
  go_ret;exact⟨_,rfl,by rw[HE.o];exact FINB.o _ _ [x] 1 rfl ZO (by simpa using HO3.o),B3.o⟩
 ·have HU:=Zh hu.1;obtain⟨a',c',e,hm,hlc,-,hc⟩:=hu.1.cell;injection e with e1 e2 e3
  subst e1 e3;have HC:=Zh hc;have HAS:=Zh hA;obtain⟨n,hln⟩:=Ze l.length;rw[hln] at HU hn hm hlc ⊢;have HL:=Zh hln;clear hu hA hc hln;go_enter Tryz.func65,Tryz.ntmps65;go_wp2;go_loopw [5] (fun y wr=>∃i:Nat,i≤n∧y=.int .i64 i∧w=wr∧Hid (∀j y,j<i→l[j]? = some y→y<x)) (fun y _=>n-(intOf y).toNat)
  case atStart=>exact⟨0,Nat.zero_le _,rfl,rfl,fun j y hj=>by omega⟩
  case round=>
   obtain⟨i,hi,rfl,rfl,HI⟩:=hrel;by_cases hlt:i<n
   ·obtain⟨y,hy⟩:∃y,l[i]? = some y:=⟨_,List.getElem?_eq_getElem (by rw[HL.o];exact hlt)⟩;obtain⟨jb,jo,e,hjb,g0⟩:=HC.o i y hy;injection e with e
    injection e with e1 e2
    subst e1 e2;by_cases h1:y<x
    ·have t1:decide (y<x)=true:=by simpa using h1
     have HI2:=Zh (show ∀j y,j<i+1→l[j]? = some y→y<x from fun j y' hj h=>by
      rcases Nat.lt_or_eq_of_le (Nat.le_of_lt_succ hj) with h2|h2
      ·exact HI.o j y' h2 h
      ·subst h2;rw[hy] at h;injection h with h;omega)
     clear hy h1;go_wp2;go_roundw
     case rel=>exact⟨i+1,by omega,by go_num,(by first|rfl|trivial),HI2⟩
     case measure=>simp[intOf];omega
    ·have t1:decide (y<x)=false:=by simpa using h1
     by_cases h2:y=x
     ·have t2:(y==x)=true:=by simpa using h2
      have HE:=Zh (show insI l x=l by unfold insI;rw[if_pos (h2▸List.mem_of_getElem? hy)]);clear hy h1 h2;go_wp2;go_ret;exact⟨.slice (some ⟨b,o,none⟩) n c,rfl,by rw[HE.o];exact⟨HU.o,.inr ⟨_,_,_,by rw[HL.o]⟩⟩,Below.refl _ _⟩
     ·have t2:(y==x)=false:=by simpa using h2
      have HE:=Zh (show insI l x=l.take i++x::l.drop i from QJp HAS.o (by rw[HL.o];exact hi) HI.o (fun y' h=>by rw[hy] at h;injection h with h;omega));clear hy h1 h2;go_wp2_with (first
      |(at_builtin;refine wpList_append_sl rfl _ _ 22 rfl w.heap.size 3 _ 1 8 Tryz.underlying22 QRa rfl ZD _ _ _ (Qwc rfl) rfl _ i (l.map iv |>.take (i*1)) rfl (Qg.same (Qg.front HU.o i hi) Qf.alloc) (by simp[HL.o];try omega) (Qil (by simp[Value.oneCell']) _) (by unfold maxLen;omega) ZO ZS ?_
        intro g c1 w1 ho hg;rw[Nat.zero_add] at ho ⊢;rw[List.nil_append] at ho;have BA:=((Below.refl w.heap.size w).alloc (Nat.le_refl _) (.cells #[] 3)).trans (Below.of_grown hg (Qwc rfl) ZS);have B1:=Zh (BA:Below w.heap.size w w1);have HO1:=Zh ho;have hw1:w.heap.size≤w1.heap.size:=BA.size;clear ho hg BA)
      |(at_builtin;refine QL [iv x] rfl _ _ _ rfl w.heap.size 3 _ 1 8 Tryz.underlying22 QRa rfl ZO _ _ _ HO1.o rfl rfl rfl rfl (by unfold maxLen;omega) ZO hw1 ?_
        intro g2 c2 w2 ho hg hgz hgw;have B2:=Zh (B1.o.trans (Below.of_grown hg HO1.o hw1):Below w.heap.size w w2);have HO2:=Zh ho;have hw2:w.heap.size≤w2.heap.size:=B2.o.size;clear ho hg hgz hgw)
      |(at_builtin;refine wpList_append_sl rfl _ _ 22 rfl w.heap.size 3 _ 1 8 Tryz.underlying22 QRa rfl ZD _ _ _ HO2.o rfl _ (n-i) (l.map iv |>.drop i) rfl (by have h:=Qg.same (Qg.back HU.o i hi) (Qf.below B2.o);rw[Nat.mul_one] at h;exact h) (by simp[HL.o];try omega) (QBt (by simp[Value.oneCell']) _) (by unfold maxLen;omega) ZO hw2 ?_
        intro g3 c3 w3 ho hg;have B3:=Zh (B2.o.trans (Below.of_grown hg HO2.o hw2):Below w.heap.size w w3);have HO3:=Zh ho;clear ho hg))
      go_ret;exact⟨_,rfl,by
       rw[HE.o];refine FINB.o _ _ _ (i+1+(n-i)) (by simp[HL.o];omega) ZO ?_;have h:=HO3.o;rw[Nat.mul_one,←List.map_take,←List.map_drop] at h
       simpa using h,B3.o⟩
   ·obtain rfl:i=n:=by omega
    have HE:=Zh (show insI l x=l.take i++x::l.drop i from QJp HAS.o (by rw[HL.o];exact Nat.le_refl _) HI.o (fun y' h=>by
     have:=(List.getElem?_eq_some_iff.1 h).1;rw[HL.o] at this;omega))
    have HDR:=Zh (show(l.map iv).drop (i*1)=[] from List.drop_eq_nil_of_le (by rw[List.length_map,HL.o];omega));by_cases hcap:c=i
    ·subst hcap;go_wp2_with (first
     |(at_builtin;refine wpList_append_sl rfl _ _ 22 rfl w.heap.size 3 _ 1 8 Tryz.underlying22 QRa rfl ZD _ _ _ (Qwc rfl) rfl _ c (l.map iv |>.take (c*1)) rfl (Qg.same (Qg.front HU.o c hi) Qf.alloc) (by simp[HL.o];try omega) (Qil (by simp[Value.oneCell']) _) (by unfold maxLen;omega) ZO ZS ?_
       intro g c1 w1 ho hg;rw[Nat.zero_add] at ho ⊢;rw[List.nil_append] at ho;have BA:=((Below.refl w.heap.size w).alloc (Nat.le_refl _) (.cells #[] 3)).trans (Below.of_grown hg (Qwc rfl) ZS);have B1:=Zh (BA:Below w.heap.size w w1);have HO1:=Zh ho;have hw1:w.heap.size≤w1.heap.size:=BA.size;clear ho hg BA)
     |(at_builtin;refine QL [iv x] rfl _ _ _ rfl w.heap.size 3 _ 1 8 Tryz.underlying22 QRa rfl ZO _ _ _ HO1.o rfl rfl rfl rfl (by unfold maxLen;omega) ZO hw1 ?_
       intro g2 c2 w2 ho hg hgz hgw;have B2:=Zh (B1.o.trans (Below.of_grown hg HO1.o hw1):Below w.heap.size w w2);have HO2:=Zh ho;have hw2:w.heap.size≤w2.heap.size:=B2.o.size;clear ho hg hgz hgw)
     |(at_builtin;refine wpList_append_sl rfl _ _ 22 rfl w.heap.size 3 _ 1 8 Tryz.underlying22 QRa rfl ZD _ _ _ HO2.o rfl _ 0 [] rfl (by
        have h:=fun o'=>Qg.same (Qg.backEnd (o:=o') HU.o c rfl) (Qf.below B2.o)
        simp only[Nat.sub_self,HDR.o] at h;exact h _) ZS rfl (by unfold maxLen;omega) ZO hw2 ?_
       intro g3 c3 w3 ho hg;have B3:=Zh (B2.o.trans (Below.of_grown hg HO2.o hw2):Below w.heap.size w w3);have HO3:=Zh ho;clear ho hg))
     go_ret;exact⟨_,rfl,by
      rw[HE.o];refine FINB.o _ _ _ (c+1+0) (by simp[HL.o]) ZO ?_;have h:=HO3.o;have e:l.drop c=[]:=List.drop_eq_nil_of_le (by rw[HL.o];exact Nat.le_refl _);rw[Nat.mul_one,←List.map_take] at h;rw[e]
      simpa using h,B3.o⟩
    ·have hcap2:¬i=c:=fun h=>hcap h.symm
     go_wp2_with (first
     |(at_builtin;refine wpList_append_sl rfl _ _ 22 rfl w.heap.size 3 _ 1 8 Tryz.underlying22 QRa rfl ZD _ _ _ (Qwc rfl) rfl _ i (l.map iv |>.take (i*1)) rfl (Qg.same (Qg.front HU.o i hi) Qf.alloc) (by simp[HL.o];try omega) (Qil (by simp[Value.oneCell']) _) (by unfold maxLen;omega) ZO ZS ?_
       intro g c1 w1 ho hg;rw[Nat.zero_add] at ho ⊢;rw[List.nil_append] at ho;have BA:=((Below.refl w.heap.size w).alloc (Nat.le_refl _) (.cells #[] 3)).trans (Below.of_grown hg (Qwc rfl) ZS);have B1:=Zh (BA:Below w.heap.size w w1);have HO1:=Zh ho;have hw1:w.heap.size≤w1.heap.size:=BA.size;clear ho hg BA)
     |(at_builtin;refine QL [iv x] rfl _ _ _ rfl w.heap.size 3 _ 1 8 Tryz.underlying22 QRa rfl ZO _ _ _ HO1.o rfl rfl rfl rfl (by unfold maxLen;omega) ZO hw1 ?_
       intro g2 c2 w2 ho hg hgz hgw;have B2:=Zh (B1.o.trans (Below.of_grown hg HO1.o hw1):Below w.heap.size w w2);have HO2:=Zh ho;have hw2:w.heap.size≤w2.heap.size:=B2.o.size;clear ho hg hgz hgw)
     |(at_builtin;refine wpList_append_sl rfl _ _ 22 rfl w.heap.size 3 _ 1 8 Tryz.underlying22 QRa rfl ZD _ _ _ HO2.o rfl _ 0 [] rfl (by
        have h:=fun o'=>Qg.same (Qg.backEnd (o:=o') HU.o i rfl) (Qf.below B2.o)
        simp only[Nat.sub_self,HDR.o] at h;exact h _) ZS rfl (by unfold maxLen;omega) ZO hw2 ?_
       intro g3 c3 w3 ho hg;have B3:=Zh (B2.o.trans (Below.of_grown hg HO2.o hw2):Below w.heap.size w w3);have HO3:=Zh ho;clear ho hg))
     go_ret;exact⟨_,rfl,by
      rw[HE.o];refine FINB.o _ _ _ (i+1+0) (by simp[HL.o]) ZO ?_;have h:=HO3.o;have e:l.drop i=[]:=List.drop_eq_nil_of_le (by rw[HL.o];exact Nat.le_refl _);rw[Nat.mul_one,←List.map_take] at h;rw[e]
      simpa using h,B3.o⟩
def Qxu (B bt:Nat)(w:World)(e:Ending)(w':World):Prop:=∃r:Nat,r≤8∧e=.returned (iv r)∧QZ B w' bt∧But bt w w'
theorem Qfq {B bt:Nat}(w:World)(ht:QZ B w bt):Calls Tryz.prog 77 #[.pointer (some ⟨bt,0,none⟩)] w (Qxu B bt w):=by
 obtain⟨W,hW⟩:=Ze (w.alloc (.cells #[iv 3,iv 1,iv 4,iv 2,iv 6,iv 0,iv 8] 3));obtain⟨q,hq⟩:=Ze w.heap.size;have HT:=Zh (show QZ B W bt by rw[←hW];exact ht.alloc _);have HB:=Zh (show But bt w W by rw[←hW];exact(But.refl bt w).alloc _);have HQ:=Zh (show W.heap[q]? = some (.cells #[iv 3,iv 1,iv 4,iv 2,iv 6,iv 0,iv 8] 3 (0,0)) by rw[←hW,←hq];exact heap_alloc_new _ _);have hbq:bt<q:=by rw[←hq];exact ht.lt
 have HW:=Zh hW;clear hW ht;go_enter Tryz.func77,Tryz.ntmps77;go_wp2_with fail
 try rw[hq]
 rw[show w.alloc (.cells #[iv 3,iv 1,iv 4,iv 2,iv 6,iv 0,iv 8] 3)=W from HW.o];refine(QMc HT.o 7 ZO).mono ?_;rintro e w1 ⟨r,h0,h7,rfl,ht1,hb1⟩;obtain⟨rn,rfl⟩:=Int.eq_ofNat_of_zero_le h0;have hr7:rn<7:=by omega
 have HT1:=Zh ht1;have HB1:=Zh (HB.o.trans hb1);have HQ1:=Zh ((hb1.block q (Qb HQ.o) ZO).trans HQ.o);clear h0 h7 ht1 hb1;obtain⟨v,hv8,hc⟩:∃v:Nat,v≤8∧w1.cell? ⟨q,rn,none⟩=some (iv v):=by
  have h:=(Qa HQ1.o).1 rn;have:rn=0∨rn=1∨rn=2∨rn=3∨rn=4∨rn=5∨rn=6:=by omega
  rcases this with rfl|rfl|rfl|rfl|rfl|rfl|rfl
  ·exact⟨3,by omega,h⟩
  ·exact⟨1,by omega,h⟩
  ·exact⟨4,by omega,h⟩
  ·exact⟨2,by omega,h⟩
  ·exact⟨6,by omega,h⟩
  ·exact⟨0,by omega,h⟩
  ·exact⟨8,by omega,h⟩
 go_wp2;go_ret;exact⟨v,hv8,rfl,HT1.o,HB1.o⟩
end
section
open Go.RowKit
variable [Base]
structure CpL (m a b:Nat)(l:List Cp):Prop where
 len:l.length≤12
 mem:∀c∈l,inC m c=true
 pair:l.Pairwise fun a b=>befC a b=true
 lt:∀c∈l,befC c ((a:Int),(b:Int))=true
theorem Qkg {c:Cp}{a b a' b':Nat}(h:befC c ((a:Int),(b:Int))=true)(h2:a<a'∨(a=a'∧b≤b')):befC c ((a':Int),(b':Int))=true:=by
 unfold befC at h ⊢;simp only[Bool.or_eq_true,Bool.and_eq_true,decide_eq_true_eq] at h ⊢;omega
theorem CpL.nil {m a b:Nat}:CpL m a b []:=⟨by simp,by simp,by simp,by simp⟩
theorem CpL.to {m a b a' b':Nat}{l:List Cp}(h:CpL m a b l)(h2:a<a'∨(a=a'∧b≤b')):CpL m a' b' l:=⟨h.len,h.mem,h.pair,fun c hc=>Qkg (h.lt c hc) h2⟩
theorem CpL.push {m a b:Nat}{l:List Cp}(h:CpL m a b l)(ha:a<m)(hb:b<m)(hl:l.length<12):CpL m a (b+1) (l++[((a:Int),(b:Int))]):=by
 refine⟨by rw[List.length_append];simp;omega,fun c hc=>?_,?_,fun c hc=>?_⟩
 ·rcases List.mem_append.1 hc with hc|hc
  ·exact h.mem c hc
  ·rw[List.mem_singleton] at hc;subst hc;unfold inC;simp;omega
 ·rw[List.pairwise_append];exact⟨h.pair,by simp,fun x hx y hy=>by rw[List.mem_singleton] at hy;subst hy;exact h.lt x hx⟩
 ·rcases List.mem_append.1 hc with hc|hc
  ·exact Qkg (h.lt c hc) ZO
  ·rw[List.mem_singleton] at hc;subst hc;unfold befC;simp;omega
theorem CpL.ok {m a b:Nat}{t:Qw}(h:CpL m a b t.cops)(hg:Ok m t.gen)(hk:Ok m t.kill):OkT m t:=
 ⟨hg,hk,by have:=h.len;omega,QPe h.mem h.pair (fun q h=>by cases h)⟩
theorem Qzp {B bt z sz n:Nat}{T:TypeId}{w w':World}{v:Value}{xs:List Value}(h:w.ownsRow z T sz v n xs)(hb:But bt w w')(hz:bt<z):w'.ownsRow z T sz v n xs:=by
 refine⟨h.1,?_⟩;rcases h.2 with hn|⟨g,cap,cur,rfl,hg,hh,rest⟩
 ·exact .inl hn
 ·exact .inr ⟨g,cap,cur,rfl,hg,(hb.block g (Qb hh) ZO).trans hh,rest⟩
structure TrG (B bt z q m:Nat)(w wr:World)(t:Qw)(gu ku cu:Value):Prop where
 tape:QZ B wr bt
 but:But bt w wr
 res:wr.heap[z]? = some (.cells #[iv 0,.slice none 0 0,iv 0,.slice none 0 0,.slice none 0 0] FNT (0,0))
 cur:wr.heap[q]? = some (.cells #[iv m,gu,iv m,ku,cu] FNT (0,0))
 gen:Ok m t.gen
 kill:Ok m t.kill
 gw:Qi wr gu t.gen.words
 kw:Qi wr ku t.kill.words
 cops:Qya (q+1) wr cu t.cops
 old:w.heap.size≤z∧z<q∧bt<w.heap.size
section
variable {B bt z q m:Nat} {w wr w2:World} {t:Qw} {gu ku cu:Value}
theorem TrG.qs (h:TrG B bt z q m w wr t gu ku cu):q+1≤wr.heap.size:=Qb h.cur
theorem TrG.bs (h:TrG B bt z q m w wr t gu ku cu):Base.b≤z:=by have:=h.tape.bs;have:=h.old;omega
theorem TrG.next (h:TrG B bt z q m w wr t gu ku cu)(ht:QZ B w2 bt)(hb:But bt wr w2):TrG B bt z q m w w2 t gu ku cu:=by
 obtain⟨o1,o2,o3⟩:=h.old;exact⟨ht,h.but.trans hb,(hb.block z (Qb h.res) ZO).trans h.res,(hb.block q (Qb h.cur) ZO).trans h.cur,h.gen,h.kill,h.gw.keep (hb.sameT h.tape ZD),h.kw.keep (hb.sameT h.tape ZD),Qzp (B:=B) h.cops hb ZO,h.old⟩
theorem TrG.putG {b:Nat}{u2:Value}(h:TrG B bt z q m w wr t gu ku cu)(ho:OwnS wr.heap.size w2 u2 (putS t.gen b))(hb:Below wr.heap.size wr w2)(hbm:b<m):
  TrG B bt z q m w ((w2.setCell ⟨q,0,none⟩ (iv m)).setCell ⟨q,1,none⟩ u2) { t with gen:=putS t.gen b } u2 ku cu:=by
 obtain⟨o1,o2,o3⟩:=h.old;have hbs:=h.bs;have hge:=h.tape.ge;have hq:=(hb.block q (Qb h.cur)).trans h.cur;have hr:=(hb.block z (Qb h.res)).trans h.res;have hT:tyAt w2 q=some FNT:=Qv hq ZO;have hs:∀T,T≠FNT→Qf T w2 ((w2.setCell ⟨q,0,none⟩ (iv m)).setCell ⟨q,1,none⟩ u2):=fun T hne=>(Qf.setCell (U:=FNT) hT hne).trans (Qf.setCell (U:=FNT) ((QS q).trans hT) hne)
 refine⟨((h.tape.below hb).setCell (by show q≠bt;omega) (by show B≤q;omega) _).setCell (by show q≠bt;omega) (by show B≤q;omega) _,
  ((h.but.below hb).setCell ⟨q,0,none⟩ (.inr (by show w.heap.size≤q;omega)) _).setCell ⟨q,1,none⟩ (.inr (by show w.heap.size≤q;omega)) _,?_,?_,(h.gen.put hbm).1,h.kill,ho.words.keep (hs _ ZD),(h.kw.below hb).keep (hs _ ZD),?_,h.old⟩
 ·rw[Below.heap_setCell _ _ _ _ (by show z≠q;omega),Below.heap_setCell _ _ _ _ (by show z≠q;omega)];exact hr
 ·simp[World.setCell,Array.getElem?_modify,hq]
 ·exact Qza (Qza (h.cops.below hb) hT ZD) ((QS q).trans hT) ZD
theorem TrG.putK {b:Nat}{u2:Value}(h:TrG B bt z q m w wr t gu ku cu)(ho:OwnS wr.heap.size w2 u2 (putS t.kill b))(hb:Below wr.heap.size wr w2)(hbm:b<m):
  TrG B bt z q m w ((w2.setCell ⟨q,2,none⟩ (iv m)).setCell ⟨q,3,none⟩ u2) { t with kill:=putS t.kill b } gu u2 cu:=by
 obtain⟨o1,o2,o3⟩:=h.old;have hbs:=h.bs;have hge:=h.tape.ge;have hq:=(hb.block q (Qb h.cur)).trans h.cur;have hr:=(hb.block z (Qb h.res)).trans h.res;have hT:tyAt w2 q=some FNT:=Qv hq ZO;have hs:∀T,T≠FNT→Qf T w2 ((w2.setCell ⟨q,2,none⟩ (iv m)).setCell ⟨q,3,none⟩ u2):=fun T hne=>(Qf.setCell (U:=FNT) hT hne).trans (Qf.setCell (U:=FNT) ((QS q).trans hT) hne)
 refine⟨((h.tape.below hb).setCell (by show q≠bt;omega) (by show B≤q;omega) _).setCell (by show q≠bt;omega) (by show B≤q;omega) _,
  ((h.but.below hb).setCell ⟨q,2,none⟩ (.inr (by show w.heap.size≤q;omega)) _).setCell ⟨q,3,none⟩ (.inr (by show w.heap.size≤q;omega)) _,?_,?_,h.gen,(h.kill.put hbm).1,(h.gw.below hb).keep (hs _ ZD),ho.words.keep (hs _ ZD),?_,h.old⟩
 ·rw[Below.heap_setCell _ _ _ _ (by show z≠q;omega),Below.heap_setCell _ _ _ _ (by show z≠q;omega)];exact hr
 ·simp[World.setCell,Array.getElem?_modify,hq]
 ·exact Qza (Qza (h.cops.below hb) hT ZD) ((QS q).trans hT) ZD
theorem TrG.push {c:Cp}{g cap:Nat}(h:TrG B bt z q m w wr t gu ku cu)(ho:w2.ownsRow (q+1) CT 2 (.slice (some ⟨g,0,none⟩) (t.cops.length+1) cap) (t.cops.length+1) (QHa t.cops++copV c))(hg:wr.grownBy w2 cu.ownBlock):
  TrG B bt z q m w (w2.setCell ⟨q,4,none⟩ (.slice (some ⟨g,0,none⟩) (t.cops.length+1) cap)) { t with cops:=t.cops++[c] } gu ku (.slice (some ⟨g,0,none⟩) (t.cops.length+1) cap)∧w2.heap[q]? = some (.cells #[iv m,gu,iv m,ku,cu] FNT (0,0)):=by
 obtain⟨o1,o2,o3⟩:=h.old;have hbs:=h.bs;have hge:=h.tape.ge;have hB:Below (q+1) wr w2:=Below.of_grown hg h.cops h.qs;have hq:=(hB.block q ZO).trans h.cur;have hr:=(hB.block z ZO).trans h.res;have hT:tyAt w2 q=some FNT:=Qv hq ZO;have hs1:Qf 139 wr w2:=Qf.grown hg h.cops ZD;have hs2:Qf 139 w2 (w2.setCell ⟨q,4,none⟩ (.slice (some ⟨g,0,none⟩) (t.cops.length+1) cap)):=Qf.setCell (U:=FNT) hT ZD;refine⟨⟨(h.tape.keep (hB.block bt ZO) (fun k hk=>hB.block k ZO) hB.size).setCell (by show q≠bt;omega) (by show B≤q;omega) _,?_,?_,?_,h.gen,h.kill,(h.gw.keep hs1).keep hs2,(h.kw.keep hs1).keep hs2,Qya.push (Qza ho hT ZD),h.old⟩,hq⟩
 ·have hb2:But bt w w2:=⟨hB.os.trans h.but.os,hB.tape.trans h.but.tape,hB.output.trans h.but.output,Nat.le_trans h.but.size hB.size,fun k hk hn=>(hB.block k ZO).trans (h.but.block k hk hn)⟩;exact hb2.setCell ⟨q,4,none⟩ (.inr (by show w.heap.size≤q;omega)) _
 ·rw[Below.heap_setCell _ _ _ _ (by show z≠q;omega)];exact hr
 ·simp[World.setCell,Array.getElem?_modify,hq]
end
def QUk (B bt m:Nat)(w:World)(e:Ending)(w':World):Prop:=
 ∃t gu ku cu,e=.returned (trV t gu ku cu)∧OkT m t∧Qja w' gu ku cu t∧QZ B w' bt∧But bt w w'
theorem QWh {B bt:Nat}(m:Nat)(hm:m≤16)(w:World)(ht:QZ B w bt):Calls Tryz.prog 27 #[.pointer (some ⟨bt,0,none⟩),.int .i64 m] w (QUk B bt m w):=by
 have hlt:=ht.lt;obtain⟨z,hz⟩:=Ze w.heap.size;obtain⟨W,hW⟩:=Ze (w.alloc (.cells #[iv 0,.slice none 0 0,iv 0,.slice none 0 0,.slice none 0 0] FNT));have HW:=Zh hW;have HZ:=Zh hz;have HTW:=Zh (show QZ B W bt by rw[←hW];exact ht.alloc _);have HBW:=Zh (show But bt w W by rw[←hW];exact(But.refl bt w).alloc _);have HRW:=Zh (show W.heap[z]? = some (.cells #[iv 0,.slice none 0 0,iv 0,.slice none 0 0,.slice none 0 0] FNT (0,0)) by rw[←hW,←hz];exact heap_alloc_new _ _);have HE:=Zh (show Ok m (Qy m) from QOb ZO);clear ht hW;go_enter Tryz.func27,Tryz.ntmps27;go_upto_region 1 with(fail)
 rw[show w.alloc (.cells #[iv 0,.slice none 0 0,iv 0,.slice none 0 0,.slice none 0 0] FNT)=W from HW.o]
 try rw[hz]
 go_wp2_with fail;refine(Qjc m ZO _).mono ?_;rintro e v1 ⟨gu,rfl,og,b1⟩;obtain⟨ga,gn,gc,rfl⟩:=og.words.shape;have OG:=Zh og;have B1:=Zh (b1.mono ZS:Below W.heap.size W v1);clear og b1;rw[show setV (Qy m) (.slice ga gn gc)=.agg #[iv m,.slice ga gn gc] from rfl];go_wp2_with fail;refine(Qjc m ZO _).mono ?_;rintro e v2 ⟨ku,rfl,ok,b2⟩;obtain⟨ka,kn,kc,rfl⟩:=ok.words.shape;rw[show setV (Qy m) (.slice ka kn kc)=.agg #[iv m,.slice ka kn kc] from rfl];obtain⟨q,hq⟩:=Ze v2.heap.size;obtain⟨V,hV⟩:=Ze (v2.alloc (.cells #[iv m,.slice ga gn gc,iv m,.slice ka kn kc,.slice none 0 0] FNT));have HV:=Zh hV;have I0:=Zh (show TrG B bt z q m w V ⟨Qy m,Qy m,[]⟩ (.slice ga gn gc) (.slice ka kn kc) (.slice none 0 0) by
  have hs1:=B1.o.size;have hs2:=b2.size;have hz2:=Qb HRW.o;have h1:=Qc (Qc HRW.o B1.o hz2) b2 ZO;rw[←hV,←hq];refine⟨((HTW.o.below B1.o).below (b2.mono ZS)).alloc _,((HBW.o.below B1.o).below (b2.mono ZS)).alloc _,Qz _ h1,heap_alloc_new _ _,HE.o,HE.o,?_,ok.words.keep Qf.alloc,Qya.nil,?_⟩
  ·exact(OG.o.words.below (b2.mono ZS)).keep Qf.alloc
  ·refine⟨by have:=HZ.o;omega,?_,by have:=HZ.o;omega⟩;omega)
 clear ok b2 B1 OG HRW HBW HTW HE hV;go_upto_region 2 with(fail)
 rw[show v2.alloc (.cells #[iv m,.slice ga gn gc,iv m,.slice ka kn kc,.slice none 0 0] FNT)=V from HV.o]
 try rw[hq]
 go_wp2_with fail;go_loopw [6] (fun y wr=>∃(i:Nat) (t:Qw) (gu ku:Value),i≤m∧y=.int .i64 i∧Hid (t.cops=[])∧Hid (TrG B bt z q m w wr t gu ku (.slice none 0 0))) (fun y _=>m-(intOf y).toNat)
 case atStart=>exact⟨0,⟨Qy m,Qy m,[]⟩,_,_,Nat.zero_le _,rfl,Zh rfl,I0.o⟩
 case round=>
  clear I0;obtain⟨i,t,gu,ku,hi,rfl,HN,HI⟩:=hrel;by_cases hlt:i<m;rotate_left
  ·obtain rfl:i=m:=by omega
   have I1:=Zh HI;have C1:=Zh (show CpL i 0 0 t.cops by rw[HN.o];exact CpL.nil);rw[show Value.slice none 0 0=Value.slice none t.cops.length 0 by rw[HN.o];rfl] at I1;clear HI HN;go_wp2;go_loopw [7] (fun y wr=>∃(a:Nat) (t:Qw) (gu ku cu:Value),a≤i∧y=.int .i64 a∧Hid (CpL i a 0 t.cops)∧Hid (TrG B bt z q i w wr t gu ku cu)) (fun y _=>i-(intOf y).toNat)
   case atStart=>exact⟨0,t,_,_,_,Nat.zero_le _,rfl,C1.o,I1.o⟩
   case round=>
    clear I1 C1;obtain⟨a,t,gu,ku,cu,ha,rfl,HC,HI⟩:=hrel;by_cases hlt:a<i;rotate_left
    ·obtain rfl:a=i:=by omega
     have hbq:=HI.o.bs;have hzq:=HI.o.old.2.1;have hzo:=HI.o.old.1;have HT5:=Zh (HC.o.ok HI.o.gen HI.o.kill);obtain⟨ga2,gn2,gc2,rfl⟩:=HI.o.gw.shape;obtain⟨ka2,kn2,kc2,rfl⟩:=HI.o.kw.shape;obtain⟨ca2,cn2,cc2,rfl⟩:∃c n k,cu=.slice c n k:=by
      obtain⟨x,y,e,-⟩:=HI.o.cops.at_.cell;exact⟨_,_,_,e⟩
     have R0:=Zh HI.o.res;obtain⟨t0,t1,t2,t3,t4⟩:=QJ HI.o.cur;obtain⟨c0,c1,c2,c3,c4⟩:=QJ R0.o;have f0:=(Qa R0.o).2 0;have f1:=(Qa R0.o).2 1;have f2:=(Qa R0.o).2 2;have f3:=(Qa R0.o).2 3;have f4:=(Qa R0.o).2 4;have E5:=Zh (set5 R0.o (iv a) (.slice ga2 gn2 gc2) (iv a) (.slice ka2 kn2 kc2) (.slice ca2 cn2 cc2));have HS:=Zh (fun (T:TypeId) (hne:T≠FNT)=>Quc (T:=T) (Qv R0.o ZO) hne (iv a) (.slice ga2 gn2 gc2) (iv a) (.slice ka2 kn2 kc2) (.slice ca2 cn2 cc2));have HQ:=Zh (show QUk B bt a w (.returned (.agg #[iv a,.slice ga2 gn2 gc2,iv a,.slice ka2 kn2 kc2,.slice ca2 cn2 cc2])) (((((wr.setCell ⟨z,0,none⟩ (iv a)).setCell ⟨z,1,none⟩ (.slice ga2 gn2 gc2)).setCell ⟨z,2,none⟩ (iv a)).setCell ⟨z,3,none⟩ (.slice ka2 kn2 kc2)).setCell ⟨z,4,none⟩ (.slice ca2 cn2 cc2)) by
      have hge:=HI.o.tape.ge;have hbw:=HI.o.old.2.2;have hne:∀o:Nat,(⟨z,o,none⟩:Addr).block≠bt:=fun o=>by show z≠bt;omega
      have hB:∀o:Nat,B≤(⟨z,o,none⟩:Addr).block:=fun o=>by show B≤z;omega
      have ho:∀o:Nat,w.heap.size≤(⟨z,o,none⟩:Addr).block:=fun o=>hzo
      refine⟨t,.slice ga2 gn2 gc2,.slice ka2 kn2 kc2,.slice ca2 cn2 cc2,?_,HT5.o,⟨HI.o.gw.keep (HS.o _ ZD),HI.o.kw.keep (HS.o _ ZD),Qg.same HI.o.cops.at_ (HS.o CT ZD)⟩,
       ((((HI.o.tape.setCell (hne _) (hB _) _).setCell (hne _) (hB _) _).setCell (hne _) (hB _) _).setCell (hne _) (hB _) _).setCell (hne _) (hB _) _,
       ((((HI.o.but.setCell _ (.inr (ho _)) _).setCell _ (.inr (ho _)) _).setCell _ (.inr (ho _)) _).setCell _ (.inr (ho _)) _).setCell _ (.inr (ho _)) _⟩
      show _=Ending.returned (.agg #[iv t.gen.width,_,iv t.kill.width,_,_]);rw[HI.o.gen.width,HI.o.kill.width])
     go_wp2;obtain⟨g0,g1,g2,g3,g4⟩:=QJ E5.o;exact bodyPost_ret (v:=.agg #[iv a,.slice ga2 gn2 gc2,iv a,.slice ka2 kn2 kc2,.slice ca2 cn2 cc2]) (by simp[results,Tryz.results27,go_sem,g0,g1,g2,g3,g4]) rfl HQ.o
    ·go_wp2;go_loopw [8] (fun y wr=>∃(b:Nat) (t:Qw) (gu ku cu:Value),b≤i∧y=.int .i64 b∧Hid (CpL i a b t.cops)∧Hid (TrG B bt z q i w wr t gu ku cu)) (fun y _=>i-(intOf y).toNat)
     case atStart=>exact⟨0,t,_,_,_,Nat.zero_le _,rfl,HC,HI⟩
     case round=>
      clear HI HC;obtain⟨b,t,gu,ku,cu,hb,rfl,HC,HI⟩:=hrel;obtain⟨ca,cc,rfl,-⟩:=HI.o.cops.at_.cell;have hln:=HC.o.len;obtain⟨n,hn⟩:=Ze t.cops.length;rw[hn] at HI hln;have HL:=Zh hn;clear hn;obtain⟨L0,L1,L2,L3,L4⟩:=QJ HI.o.cur;have hai:(a:Int)+1=((a+1:Nat):Int):=by omega
      by_cases hlb:b<i;rotate_left
      ·have HC2:=Zh (HC.o.to (a':=a+1) (b':=0) ZO);obtain rfl:b=i:=by omega
       clear L0 L1 L2 L3 L4 hai;go_wp2;go_roundw
       case rel=>exact⟨a+1,t,_,_,_,by omega,by go_num,HC2.o,HI.o⟩
       case measure=>simp[intOf];omega
      ·by_cases h12:n<12;rotate_left
       ·have HC2:=Zh (HC.o.to (a':=a+1) (b':=0) ZO);obtain rfl:n=12:=by omega
        clear hai;go_wp2;go_roundw
        case rel=>exact⟨a+1,t,_,_,_,by omega,by go_num,HC2.o,HI.o⟩
        case measure=>simp[intOf];omega
       ·have t12:decide ((n:Int)<12)=true:=by simp;omega
        clear hai;go_upto_if 56 with(go_at_call 16;refine(QMc HI.o.tape (2*(i:Int)) ZO).mono ?_;rintro e w2 ⟨x,x1,x2,rfl,ht2,hb2⟩;have J:=Zh (HI.o.next ht2 hb2);clear ht2 hb2 L0 L1 L2 L3 L4)
        have HC2:=Zh (HC.o.to (a':=a) (b':=b+1) ZO);have HC3:=Zh (HC.o.push hlt hlb (by rw[HL.o];exact h12));by_cases h1:x=1;rotate_left
        ·have t1:(x==1)=false:=by simpa using h1
         clear h1 HC3;go_wp2;go_roundw
         case rel=>exact⟨b+1,t,_,_,_,by omega,by go_num,HC2.o,J.o⟩
         case measure=>simp[intOf];omega
        ·subst h1;clear HC2;have hqw:=J.o.qs;have hbq:=J.o.bs;have hzq:=J.o.old.2.1;have HO:=Zh (show w2.ownsRow (q+1) CT 2 (.slice ca n cc) n (QHa t.cops) by have h:=J.o.cops;unfold Qya at h;rw[HL.o] at h;exact h);have PUSH:=Zh (show ∀g cap w',w'.ownsRow (q+1) CT 2 (.slice (some ⟨g,0,none⟩) (n+1) cap) (n+1) (QHa t.cops++[iv a,iv b])→w2.grownBy w' (Value.slice ca n cc).ownBlock →
           TrG B bt z q i w (w'.setCell ⟨q,4,none⟩ (.slice (some ⟨g,0,none⟩) (n+1) cap)) { t with cops:=t.cops++[((a:Int),(b:Int))] } gu ku (.slice (some ⟨g,0,none⟩) (n+1) cap)∧w'.heap[q]? = some (.cells #[iv i,gu,iv i,ku,.slice ca n cc] FNT (0,0)) from fun g cap w' ho hg=>by
          have hl:=HL.o;have h:=J.o.push (c:=((a:Int),(b:Int))) (g:=g) (cap:=cap) (by rw[hl];exact ho) hg;rw[hl] at h;exact h)
         obtain⟨L0,L1,L2,L3,L4⟩:=QJ J.o.cur;go_wp2_with (at_builtin;refine QL [iv a,iv b] rfl _ _ _ rfl (q+1) CT _ 2 16 Tryz.underlying53 Qbf rfl ZO _ _ _ HO.o rfl rfl rfl rfl (by unfold maxLen;omega) ZO hqw ?_;intro g cap w9 ho hg hzg _;have HP9:=Zh (PUSH.o g cap w9 ho hg);have v2:=(Qa HP9.o.2).1 4;have v3:=(Qa HP9.o.2).2 4;simp only[Zx,Zy,Zz] at v2;clear ho hg hzg L0 L1 L2 L3 L4);go_roundw
         case rel=>exact⟨b+1,{ t with cops:=t.cops++[((a:Int),(b:Int))] },_,_,_,by omega,by go_num,HC3.o,HP9.o.1⟩
         case measure=>simp[intOf];omega
  ·obtain⟨ga,gn,gc,rfl⟩:=HI.o.gw.shape;obtain⟨ka,kn,kc,rfl⟩:=HI.o.kw.shape;go_upto_region 6 with(go_at_call 16;refine(QMc HI.o.tape 6 ZO).mono ?_;rintro e w2 ⟨x,x1,x2,rfl,ht2,hb2⟩;have J:=Zh (HI.o.next ht2 hb2);clear ht2 hb2)
   obtain⟨L0,L1,L2,L3,L4⟩:=QJ J.o.cur;have F0:=(Qa J.o.cur).2 0;have F1:=(Qa J.o.cur).2 1;have F2:=(Qa J.o.cur).2 2;have F3:=(Qa J.o.cur).2 3;by_cases h1:x=1
   ·subst h1;go_wp2_with fail;refine(Qfl J.o.gen.width i (.slice ga gn gc) _ J.o.gen.form hlt J.o.gw).mono ?_;rintro e w3 ⟨u3,rfl,ho,b3⟩;obtain⟨ta,tn,tc,rfl⟩:=ho.words.shape;have J3:=Zh (J.o.putG ho b3 hlt);have L0:=(b3.cell (p:=⟨q,0,none⟩) (Qb J.o.cur)).trans L0;have L1:=(b3.cell (p:=⟨q,1,none⟩) (Qb J.o.cur)).trans L1;have F0:=(b3.frozen (p:=⟨q,0,none⟩) (Qb J.o.cur)).trans F0;have F1:=(b3.frozen (p:=⟨q,1,none⟩) (Qb J.o.cur)).trans F1;rw[show setV (putS t.gen i) (.slice ta tn tc)=.agg #[iv m,.slice ta tn tc] by unfold setV;rw[show(putS t.gen i).width=t.gen.width from rfl,J.o.gen.width]];clear ho b3 L2 L3 L4 F2 F3;go_wp2;go_roundw
    case rel=>exact⟨i+1,{ t with gen:=putS t.gen i },_,_,by omega,by go_num,HN.o,J3.o⟩
    case measure=>simp[intOf];omega
   ·have t1:(x==1)=false:=by simpa using h1
    by_cases h2:x=2∨x=3
    ·have h23:(x==2)=true∨((x==2)=false∧(x==3)=true):=by
      rcases h2 with rfl|rfl
      ·exact .inl rfl
      ·exact .inr ⟨rfl,rfl⟩
     clear h1 h2;rcases h23 with t2|⟨t2,t3⟩
     ·go_wp2_with fail;refine(Qfl J.o.kill.width i (.slice ka kn kc) _ J.o.kill.form hlt J.o.kw).mono ?_;rintro e w3 ⟨u3,rfl,ho,b3⟩;obtain⟨ta,tn,tc,rfl⟩:=ho.words.shape;have J3:=Zh (J.o.putK ho b3 hlt);have L2:=(b3.cell (p:=⟨q,2,none⟩) (Qb J.o.cur)).trans L2;have L3:=(b3.cell (p:=⟨q,3,none⟩) (Qb J.o.cur)).trans L3;have F2:=(b3.frozen (p:=⟨q,2,none⟩) (Qb J.o.cur)).trans F2;have F3:=(b3.frozen (p:=⟨q,3,none⟩) (Qb J.o.cur)).trans F3;rw[show setV (putS t.kill i) (.slice ta tn tc)=.agg #[iv m,.slice ta tn tc] by unfold setV;rw[show(putS t.kill i).width=t.kill.width from rfl,J.o.kill.width]];clear ho b3 L0 L1 L4 F0 F1;go_wp2;go_roundw
      case rel=>exact⟨i+1,{ t with kill:=putS t.kill i },_,_,by omega,by go_num,HN.o,J3.o⟩
      case measure=>simp[intOf];omega
     ·go_wp2_with fail;refine(Qfl J.o.kill.width i (.slice ka kn kc) _ J.o.kill.form hlt J.o.kw).mono ?_;rintro e w3 ⟨u3,rfl,ho,b3⟩;obtain⟨ta,tn,tc,rfl⟩:=ho.words.shape;have J3:=Zh (J.o.putK ho b3 hlt);have L2:=(b3.cell (p:=⟨q,2,none⟩) (Qb J.o.cur)).trans L2;have L3:=(b3.cell (p:=⟨q,3,none⟩) (Qb J.o.cur)).trans L3;have F2:=(b3.frozen (p:=⟨q,2,none⟩) (Qb J.o.cur)).trans F2;have F3:=(b3.frozen (p:=⟨q,3,none⟩) (Qb J.o.cur)).trans F3;rw[show setV (putS t.kill i) (.slice ta tn tc)=.agg #[iv m,.slice ta tn tc] by unfold setV;rw[show(putS t.kill i).width=t.kill.width from rfl,J.o.kill.width]];clear ho b3 L0 L1 L4 F0 F1;go_wp2;go_roundw
      case rel=>exact⟨i+1,{ t with kill:=putS t.kill i },_,_,by omega,by go_num,HN.o,J3.o⟩
      case measure=>simp[intOf];omega
    ·have t2:(x==2)=false:=by simp;omega
     have t3:(x==3)=false:=by simp;omega
     clear h1 h2 L0 L1 L2 L3 L4 F0 F1 F2 F3;go_wp2;go_roundw
     case rel=>exact⟨i+1,_,_,_,by omega,by go_num,HN.o,J.o⟩
     case measure=>simp[intOf];omega
end
section
variable [Base]
open Go
section
variable {P:Program} {ops:Array Oper} {Q:Exit→Act→World→Prop} {md:Region.Mode} {S:World→Prop}
def QSe (P:Program)(md:Region.Mode)(ops:Array Oper)(Q:Exit→Act→World→Prop)(S:World→Prop)(st:Nat):Nat→Array Bool→Act→World→Prop
|0,listed,a,w=>Region.ready md ops listed=[]∧Q .normal a w
|fuel+1,listed,a,w=>
  (Region.ready md ops listed=[]→Q .normal a w) ∧
  ∀i∈Region.ready md ops listed,wpOp P ops Q i (fun a' w'=>(i<st→S w')∧QSe P md ops Q S st fuel (listed.setIfInBounds i true) a' w') a w
theorem QLi {st:Nat}:∀(fuel:Nat) (listed:Array Bool) (a:Act) (w:World),QSe P md ops Q S st fuel listed a w→wpAny P md ops Q fuel listed a w
|0,_,_,_,h=>h
|fuel+1,_,_,_,h=>⟨h.1,fun i hi=>wpOp_mono (fun a' w' h'=>QLi fuel _ a' w' h'.2) (h.2 i hi)⟩
def Qlo (md:Region.Mode)(ops:Array Oper)(st:Nat):Bool:=(List.range ops.size).all fun j=>!decide (st<j)||Qcg md ops j st
theorem QGt {st j:Nat}{listed:Array Bool}(hl:Qlo md ops st=true)(hs:listed.getD st true=false)(hst:st∉Region.ready md ops listed)(hj:j∈Region.ready md ops listed):j<st:=by
 rcases Nat.lt_trichotomy j st with h|h|h
 ·exact h
 ·exact absurd (h▸hj) hst
 ·exfalso;obtain⟨_,o,ho,_⟩:=mem_ready.1 hj;have hjs:j<ops.size:=(Array.getElem?_eq_some_iff.1 ho).1;have h1:=List.all_eq_true.1 hl j (List.mem_range.2 hjs);simp only[h,decide_true,Bool.not_true,Bool.false_or] at h1;exact QXb h1 (QYb hs) hj
theorem QWj {st i:Nat}{oi:Oper}{v:Value}(cs:List Nat)(hi:ops[i]? = some oi)(hsel:∀(j:Nat) (o:Oper) cs b,ops[j]? = some o→o.op≠.select cs b)(hw:QQe md ops st i cs=true)(hlate:Qlo md ops st=true)(hQ:∀c a w,Q (.panic c) (a.put oi.dst v) w→Q (.panic c) a w):
  ∀(fuel:Nat) (listed:Array Bool) (a:Act) (w:World),
   (∀j oj,ops[j]? = some oj→j≠i→listed.getD j true=false→(∀e∈oj.after,Region.binds md e=true→e.on≠i)→oi.apart ops oj=true) →
   (∀c∈cs,listed.getD c true=false)→listed.getD st true=false →
   i∈Region.ready md ops listed→YieldsIf P ops S oi v a→S w →
   QSe P md ops Q S st fuel (listed.setIfInBounds i true) (a.put oi.dst v) w→QSe P md ops Q S st (fuel+1) listed a w:=by
 intro fuel
 induction fuel with
|zero=>
  intro listed a w _ _ _ hr hy hS H;refine⟨fun h=>(by rw[h] at hr;cases hr),fun j hj=>?_⟩;by_cases hji:j=i
  ·subst hji;exact hy.wpOp hi hS ⟨fun _=>hS,H⟩
  ·have:=ready_mono hj hji;rw[H.1] at this
   cases this
|succ fuel ih=>
  intro listed a w hfree hcs hsun hr hy hS H;refine⟨fun h=>(by rw[h] at hr;cases hr),fun j hj=>?_⟩;by_cases hji:j=i
  ·subst hji;exact hy.wpOp hi hS ⟨fun _=>hS,H⟩
  ·have hiun:=QYb (mem_ready.1 hr).1;have hno:=QNj cs i hw (mem_ready.1 hr).1 hcs;have hjlt:j<st:=QGt hlate hsun hno.2 hj;have hjst:j≠st:=Nat.ne_of_lt hjlt;have hjc:∀c∈cs,j≠c:=fun c hc h=>hno.1 c hc (h▸hj)
   obtain⟨hjun,oj,hoj,hall⟩:=mem_ready.1 hj;have hnot:∀e∈oj.after,Region.binds md e=true→e.on≠i:=fun e he hb heq=>by
    have h1:=hall e he hb;rw[heq,hiun] at h1
    cases h1
   have hstep:=wpOp_putIf hoj (hfree j oj hoj hji hjun hnot) (fun cs b=>hsel i oi cs b hi) (fun cs b=>hsel j oj cs b hoj) hQ hy (H.2 j (ready_mono hj hji));refine wpOp_mono (fun a' w' h3=>⟨h3.2.1,ih (listed.setIfInBounds j true) a' w' ?_ ?_ (by rw[getD_set_ne true hjst];exact hsun) (ready_mono hr (Ne.symm hji)) h3.1 (h3.2.1 hjlt) ?_⟩) hstep
   ·intro k ok hk hki hun hno;refine hfree k ok hk hki ?_ hno;by_cases hjk:j=k
    ·subst hjk;exact hjun
    ·rw[getD_set_ne true hjk] at hun;exact hun
   ·intro c hc;rw[getD_set_ne true (hjc c hc)];exact hcs c hc
   ·rw[Array.setIfInBounds_comm _ _ hji];exact h3.2.2
theorem QX {st:Nat}(i:Nat)(d:Option Tmp)(cs:List Nat)(v:Value){oi:Oper}{fuel:Nat}{listed:Array Bool}{a:Act}{w:World}(hi:ops[i]? = some oi)(hs:Region.noSelect ops=true)(hf:Region.free md ops listed i=true)(hr:(Region.ready md ops listed).contains i=true)(hw:((QQe md ops st i cs&&cs.all fun c=>!listed.getD c true)&&(Qlo md ops st&&!listed.getD st true))=true)(hQ:∀c a w,Q (.panic c) (a.put oi.dst v) w→Q (.panic c) a w)(hS:S w)(hwant:Region.wanted oi (yielded ops a.tmps)=true)(hd:oi.dst=d)(hrun:∀w,S w→(execOp a.eval oi).run P w=.ok (.value v) w)(h:QSe P md ops Q S st fuel (listed.setIfInBounds i true) (a.put d v) w):QSe P md ops Q S st (fuel+1) listed a w:=by
 subst hd;simp only[Bool.and_eq_true,List.all_eq_true,Bool.not_eq_true'] at hw;exact QWj cs hi (Region.noSelect_spec hs) hw.1.1 hw.2.1 hQ fuel listed a w (Region.free_spec hi hf) hw.1.2 hw.2.2 (by simpa using hr) (.inl ⟨hwant,hrun⟩) hS h
theorem Qn {st:Nat}{rs:List Nat}{fuel:Nat}{listed:Array Bool}{a:Act}{w:World}(hr:Region.ready md ops listed=rs)(hne:rs≠[])(h:∀i∈rs,wpOp P ops Q i (fun a' w'=>(i<st→S w')∧QSe P md ops Q S st fuel (listed.setIfInBounds i true) a' w') a w):QSe P md ops Q S st (fuel+1) listed a w:=
 ⟨fun h0=>absurd (hr▸h0) hne,hr▸h⟩
theorem Qwa {st:Nat}{listed:Array Bool}{a:Act}{w:World}(hr:Region.ready md ops listed=[])(h:Q .normal a w):∀fuel,QSe P md ops Q S st fuel listed a w
|0=>⟨hr,h⟩
|_+1=>⟨fun _=>h,by rw[hr];simp⟩
theorem Qdi {st:Nat}{id:Nat}{a:Act}{w:World}(hm:P.follows .mixedOrders=true)(h:QSe P .any ops Q S st ops.size (Array.replicate ops.size false) a (w.drewN 1)):(Code.region id ops true).wp P Q a w:=
 wp_region_any hm (QLi _ _ _ _ h)
end
theorem Zo {P:Program} {md:Region.Mode} {ops:Array Oper} {Q:Exit→Act→World→Prop} {S:World→Prop} {st:Nat} (i:Nat) {fuel:Nat} {listed:Array Bool} {a:Act} {w:World} (h:wpOp P ops Q i (fun a' w'=>(i<st→S w')∧QSe P md ops Q S st fuel (listed.setIfInBounds i true) a' w') a w) (hr:Region.ready md ops listed=[i]:=by kernel_rfl):QSe P md ops Q S st (fuel+1) listed a w:=
 Qn hr ZS fun j hj=>by
  obtain rfl:j=i:=by simpa using hj
  exact h
theorem Zl {P:Program} {md:Region.Mode} {ops:Array Oper} {Q:Exit→Act→World→Prop} {S:World→Prop} {st:Nat} (i:Nat) (d:Option Tmp) (cs:List Nat) (v:Value) {oi:Oper} {fuel:Nat} {listed:Array Bool} {a:Act} {w:World} (hS:S w) (hrun:∀w,S w→(execOp a.eval oi).run P w=.ok (.value v) w) (h:QSe P md ops Q S st fuel (listed.setIfInBounds i true) (a.put d v) w) (hi:ops[i]? = some oi:=by rfl) (hs:Region.noSelect ops=true:=by kernel_rfl) (hf:Region.free md ops listed i=true:=by kernel_rfl) (hr:(Region.ready md ops listed).contains i=true:=by kernel_rfl) (hw:((QQe md ops st i cs&&cs.all fun c=>!listed.getD c true)&&(Qlo md ops st&&!listed.getD st true))=true:=by kernel_rfl) (hQ:∀c a w,Q (.panic c) (a.put oi.dst v) w→Q (.panic c) a w:=by exact fun _ _ _ h=>h) (hwant:Region.wanted oi (yielded ops a.tmps)=true:=by kernel_rfl) (hd:oi.dst=d:=by rfl):QSe P md ops Q S st (fuel+1) listed a w:=QX i d cs v hi hs hf hr hw hQ hS hwant hd hrun h
theorem Yl {P:Program} {md:Region.Mode} {ops:Array Oper} {Q:Exit→Act→World→Prop} {S:World→Prop} {st:Nat} (i d:Nat) (cs:List Nat) {v:Value} {oi:Oper} {fuel:Nat} {listed:Array Bool} {a:Act} {w:World} (h:QSe P md ops Q S st fuel (listed.setIfInBounds i true) (a.put (some d) v) w) (hi:ops[i]? = some oi:=by rfl) (hS:S w:=by exact hS0) (hrun:∀w,S w→(execOp a.eval oi).run P w=.ok (.value v) w:=by intro w hS;(try simp only[and_assoc] at hS);repeat (obtain⟨_,hS⟩:_∧_:=hS);go_simp;rfl) (hs:Region.noSelect ops=true:=by kernel_rfl) (hf:Region.free md ops listed i=true:=by kernel_rfl) (hr:(Region.ready md ops listed).contains i=true:=by kernel_rfl) (hw:((QQe md ops st i cs&&cs.all fun c=>!listed.getD c true)&&(Qlo md ops st&&!listed.getD st true))=true:=by kernel_rfl) (hQ:∀c a w,Q (.panic c) (a.put oi.dst v) w→Q (.panic c) a w:=by exact fun _ _ _ h=>h) (hwant:Region.wanted oi (yielded ops a.tmps)=true:=by kernel_rfl) (hd:oi.dst=some d:=by rfl):QSe P md ops Q S st (fuel+1) listed a w:=QX i (some d) cs v hi hs hf hr hw hQ hS hwant hd hrun h
end
section
open Go.RowKit
variable [Base]
section
variable {α:Type} {E:Qlg α} {z n k sz b:Nat} {w w':World} {v u x:Value} {l:List α} {U:TypeId} {ys news:List Value} {xss:List (List Value)} {y:α}
theorem QG.but {B bt:Nat}(h:QG E z w v l)(ht:QZ B w bt)(hb:But bt w w')(hz:bt<z)(hi:∀V∈E.inner,V≠85):QG E z w' v l:=by
 obtain⟨xss,ho,hx⟩:=h;exact⟨xss,Qzp (B:=B) ho hb hz,hx.mono fun _ _ hc=>E.keep (fun V hV=>hb.sameT ht (hi V hV)) hc⟩
theorem QG.grownT (h:QG E z w v l)(ho:w.ownsRow z U sz u k ys)(hg:w.grownBy w' u.ownBlock)(hne:E.T≠U)(hi:∀V∈E.inner,V≠U)(hbs:Base.b≤z):QG E z w' v l:=by
 obtain⟨xss,hy,hx⟩:=h;exact⟨xss,QWb hy ho hg hne,hx.mono fun _ _ hc=>E.keep (fun V hV=>Qf.grown hg ho (hi V hV)) hc⟩
theorem QG.push {g:Option Addr}{c:Nat}(ho:w.ownsRow z E.T E.sz v l.length xss.flatten)(hx:All2 (E.C w) xss l)(hg:w.grownBy w' v.ownBlock)(ho2:w'.ownsRow z E.T E.sz (.slice g (l.length+1) c) (l.length+1) (xss.flatten++news))(hc:E.C w news y)(hi:∀V∈E.inner,V≠E.T)(hbs:Base.b≤z):QG E z w' (.slice g (l.length+1) c) (l++[y]):=by
 obtain⟨gb,rfl,-⟩:=QWd ho2 ZO hbs;exact QG.snoc (v:=v) ho2 (hx.mono fun _ _ hc=>E.keep (fun V hV=>Qf.grown hg ho (hi V hV)) hc) (E.keep (fun V hV=>Qf.grown hg ho (hi V hV)) hc)
theorem QG.off {o:Nat}(h:QG E z w v l)(hT:tyAt w b=some U)(hne:E.T≠U)(hi:∀V∈E.inner,V≠U):QG E z (w.setCell ⟨b,o,none⟩ x) v l:=by
 obtain⟨xss,hy,hx⟩:=h;exact⟨xss,Qza hy hT hne,hx.mono fun _ _ hc=>E.keep (fun V hV=>Qf.setCell (U:=U) hT (hi V hV)) hc⟩
end
theorem inI {U:TypeId}(hU:U≠IN):∀V∈Qqc.inner,V≠U:=fun V hV=>by
 obtain rfl:V=IN:=by simpa [Qqc] using hV
 exact fun h=>hU h.symm
theorem inS {U:TypeId}(hU:U≠139):∀V∈Qsa.inner,V≠U:=fun V hV=>by
 obtain rfl:V=139:=by simpa [Qsa] using hV
 exact fun h=>hU h.symm
theorem inF {U:TypeId}(hU:U≠139)(hC:U≠CT):∀V∈trEl.inner,V≠U:=fun V hV=>by
 have h2:V=139∨V=CT:=by simpa [trEl] using hV
 rcases h2 with rfl|rfl
 ·exact fun h=>hU h.symm
 ·exact fun h=>hC h.symm
structure DrS (B bt z q m:Nat)(w wr:World)(dv tv bv:Value)(ds:List (List Int))(ts:List Qw)(bs:List QSet):Prop where
 tape:QZ B wr bt
 but:But bt w wr
 res:wr.heap[z]? = some (.cells #[iv 0,.slice none 0 0,.slice none 0 0,.slice none 0 0] SYT (0,0))
 cur:wr.heap[q]? = some (.cells #[iv m,dv,tv,bv] SYT (0,0))
 dp:QG Qqc (q+1) wr dv ds
 tr:QG trEl (q+1) wr tv ts
 bd:QG Qsa (q+1) wr bv bs
 old:w.heap.size≤z∧z<q∧bt<w.heap.size
structure DrK (B bt z q m p:Nat)(w wr:World)(kv bu:Value)(k:List Int)(s:QSet)(cd ct cb dv tv bv:Value)(ds:List (List Int))(ts:List Qw)(bs:List QSet):Prop where
 tape:QZ B wr bt
 but:But bt w wr
 res:wr.heap[z]? = some (.cells #[iv 0,.slice none 0 0,.slice none 0 0,.slice none 0 0] SYT (0,0))
 cur:wr.heap[q]? = some (.cells #[iv m,cd,ct,cb] SYT (0,0))
 dp:QG Qqc (q+1) wr dv ds
 tr:QG trEl (q+1) wr tv ts
 bd:QG Qsa (q+1) wr bv bs
 pb:wr.heap[p]? = some (.cells #[iv m,bu] ST (0,0))
 kr:QJa wr kv k
 wb:Qi wr bu s.words
 old:w.heap.size≤z∧z<q∧bt<w.heap.size∧q<p
section
variable {B bt z q m p:Nat} {w wr w2:World} {kv bu:Value} {k:List Int} {s:QSet} {cd ct cb dv tv bv:Value} {ds:List (List Int)} {ts:List Qw} {bs:List QSet}
theorem DrS.qs (h:DrS B bt z q m w wr dv tv bv ds ts bs):q+1≤wr.heap.size:=Qb h.cur
theorem DrS.zb (h:DrS B bt z q m w wr dv tv bv ds ts bs):Base.b≤z:=by have:=h.tape.bs;have:=h.old;omega
theorem DrS.next (h:DrS B bt z q m w wr dv tv bv ds ts bs)(ht:QZ B w2 bt)(hb:But bt wr w2):DrS B bt z q m w w2 dv tv bv ds ts bs:=by
 obtain⟨o1,o2,o3⟩:=h.old;exact⟨ht,h.but.trans hb,(hb.block z (Qb h.res) ZO).trans h.res,(hb.block q (Qb h.cur) ZO).trans h.cur,h.dp.but h.tape hb ZO (inI ZD),h.tr.but h.tape hb ZO (inF ZD ZD),h.bd.but h.tape hb ZO (inS ZD),h.old⟩
theorem DrK.qs (h:DrK B bt z q m p w wr kv bu k s cd ct cb dv tv bv ds ts bs):q+1≤wr.heap.size:=Qb h.cur
theorem DrK.zb (h:DrK B bt z q m p w wr kv bu k s cd ct cb dv tv bv ds ts bs):Base.b≤z:=by have:=h.tape.bs;have:=h.old;omega
theorem DrK.next (h:DrK B bt z q m p w wr kv bu k s cd ct cb dv tv bv ds ts bs)(ht:QZ B w2 bt)(hb:But bt wr w2):DrK B bt z q m p w w2 kv bu k s cd ct cb dv tv bv ds ts bs:=by
 obtain⟨o1,o2,o3,o4⟩:=h.old;exact⟨ht,h.but.trans hb,(hb.block z (Qb h.res) ZO).trans h.res,(hb.block q (Qb h.cur) ZO).trans h.cur,h.dp.but h.tape hb ZO (inI ZD),h.tr.but h.tape hb ZO (inF ZD ZD),h.bd.but h.tape hb ZO (inS ZD),
  (hb.block p (Qb h.pb) ZO).trans h.pb,Qg.same h.kr (hb.sameT h.tape ZD),h.wb.keep (hb.sameT h.tape ZD),h.old⟩
theorem DrK.drew (h:DrK B bt z q m p w wr kv bu k s cd ct cb dv tv bv ds ts bs)(j:Nat):DrK B bt z q m p w (wr.drewN j) kv bu k s cd ct cb dv tv bv ds ts bs:=h.next (h.tape.drewN j) ((But.refl _ _).drewN j)
theorem DrK.alloc (h:DrK B bt z q m p w wr kv bu k s cd ct cb dv tv bv ds ts bs)(o:Obj):DrK B bt z q m p w (wr.alloc o) kv bu k s cd ct cb dv tv bv ds ts bs:=h.next (h.tape.alloc o) ((But.refl _ _).alloc o)
theorem DrK.grow {T:TypeId}{sz n:Nat}{v:Value}{xs:List Value}(h:DrK B bt z q m p w wr kv bu k s cd ct cb dv tv bv ds ts bs)(ho:wr.ownsRow (q+1) T sz v n xs)(hg:wr.grownBy w2 v.ownBlock):
  QZ B w2 bt∧But bt w w2∧w2.heap[z]? = some (.cells #[iv 0,.slice none 0 0,.slice none 0 0,.slice none 0 0] SYT (0,0))∧w2.heap[q]? = some (.cells #[iv m,cd,ct,cb] SYT (0,0)):=by
 obtain⟨o1,o2,o3,o4⟩:=h.old;have hge:=h.tape.ge;have hB:Below (q+1) wr w2:=Below.of_grown hg ho h.qs;exact⟨h.tape.keep (hB.block bt ZO) (fun k hk=>hB.block k ZO) hB.size,
  ⟨hB.os.trans h.but.os,hB.tape.trans h.but.tape,hB.output.trans h.but.output,Nat.le_trans h.but.size hB.size,fun k hk hn=>(hB.block k (by have:=h.but.size;have:=h.qs;by_cases hkq:k<q+1;exact hkq;omega)).trans (h.but.block k hk hn)⟩,
  (hB.block z ZO).trans h.res,(hB.block q ZO).trans h.cur⟩
theorem DrK.pushD {xss:List (List Value)}{g:Option Addr}{c:Nat}(h:DrK B bt z q m p w wr kv bu k s cd ct cb dv tv bv ds ts bs)(ho:wr.ownsRow (q+1) IT 1 dv ds.length xss.flatten)(hx:All2 (Qqc.C wr) xss ds)(ho2:w2.ownsRow (q+1) IT 1 (.slice g (ds.length+1) c) (ds.length+1) (xss.flatten++[kv]))(hg:wr.grownBy w2 dv.ownBlock):
  DrK B bt z q m p w w2 kv bu k s cd ct cb (.slice g (ds.length+1) c) tv bv (ds++[k]) ts bs:=by
 have hbs:=h.zb;have hold:=h.old;have hq1:Base.b≤q+1:=by omega
 obtain⟨h1,h2,h3,h4⟩:=h.grow ho hg;exact⟨h1,h2,h3,h4,QG.push (E:=Qqc) ho hx hg ho2 ⟨kv,rfl,h.kr⟩ (inI (U:=IT) ZD) hq1,h.tr.grownT ho hg (show FNA≠IT by decide) (inF ZD ZD) hq1,h.bd.grownT ho hg (show ST≠IT by decide) (inS ZD) hq1,
  (hg.block p (Qb h.pb) (Qdb ho h.pb (fun c' fr e=>by injection e with _ e _;exact absurd e ZD))).trans h.pb,Qg.same h.kr (Qf.grown hg ho ZD),h.wb.keep (Qf.grown hg ho ZD),h.old⟩
theorem DrK.pushB {xss:List (List Value)}{g:Option Addr}{c:Nat}(h:DrK B bt z q m p w wr kv bu k s cd ct cb dv tv bv ds ts bs)(hs:s.width=(m:Int))(hp:some p≠bv.ownBlock)(ho:wr.ownsRow (q+1) ST 2 bv bs.length xss.flatten)(hx:All2 (Qsa.C wr) xss bs)(ho2:w2.ownsRow (q+1) ST 2 (.slice g (bs.length+1) c) (bs.length+1) (xss.flatten++[iv m,bu]))(hg:wr.grownBy w2 bv.ownBlock):
  DrK B bt z q m p w w2 kv bu k s cd ct cb dv tv (.slice g (bs.length+1) c) ds ts (bs++[s]):=by
 have hbs:=h.zb;have hold:=h.old;have hq1:Base.b≤q+1:=by omega
 obtain⟨h1,h2,h3,h4⟩:=h.grow ho hg;exact⟨h1,h2,h3,h4,h.dp.grownT ho hg (show IT≠ST by decide) (inI ZD) hq1,h.tr.grownT ho hg (show FNA≠ST by decide) (inF ZD ZD) hq1,QG.push (E:=Qsa) ho hx hg ho2 ⟨bu,by rw[hs],h.wb⟩ (inS (U:=ST) ZD) hq1,
  (hg.block p (Qb h.pb) hp).trans h.pb,Qg.same h.kr (Qf.grown hg ho ZD),h.wb.keep (Qf.grown hg ho ZD),h.old⟩
theorem DrK.pushT {xss:List (List Value)}{g:Option Addr}{c:Nat}{t:Qw}{gu ku cu:Value}(h:DrK B bt z q m p w wr kv bu k s cd ct cb dv tv bv ds ts bs)(ht:Qja wr gu ku cu t)(ho:wr.ownsRow (q+1) FNA 5 tv ts.length xss.flatten)(hx:All2 (trEl.C wr) xss ts)(ho2:w2.ownsRow (q+1) FNA 5 (.slice g (ts.length+1) c) (ts.length+1) (xss.flatten++[iv t.gen.width,gu,iv t.kill.width,ku,cu]))(hg:wr.grownBy w2 tv.ownBlock):
  DrK B bt z q m p w w2 kv bu k s cd ct cb dv (.slice g (ts.length+1) c) bv ds (ts++[t]) bs:=by
 have hbs:=h.zb;have hold:=h.old;have hq1:Base.b≤q+1:=by omega
 obtain⟨h1,h2,h3,h4⟩:=h.grow ho hg;exact⟨h1,h2,h3,h4,h.dp.grownT ho hg (show IT≠FNA by decide) (inI ZD) hq1,QG.push (E:=trEl) ho hx hg ho2 ⟨gu,ku,cu,rfl,ht⟩ (inF (U:=FNA) ZD ZD) hq1,h.bd.grownT ho hg (show ST≠FNA by decide) (inS ZD) hq1,
  (hg.block p (Qb h.pb) (Qdb ho h.pb (fun c' fr e=>by injection e with _ e _;exact absurd e ZD))).trans h.pb,Qg.same h.kr (Qf.grown hg ho ZD),h.wb.keep (Qf.grown hg ho ZD),h.old⟩
theorem DrK.fin (h:DrK B bt z q m p w wr kv bu k s cd ct cb dv tv bv ds ts bs):DrS B bt z q m w (((wr.setCell ⟨q,1,none⟩ dv).setCell ⟨q,3,none⟩ bv).setCell ⟨q,2,none⟩ tv) dv tv bv ds ts bs:=by
 obtain⟨o1,o2,o3,o4⟩:=h.old;have hbs:=h.zb;have hge:=h.tape.ge;have hne:∀o:Nat,(⟨q,o,none⟩:Addr).block≠bt:=fun o=>by show q≠bt;omega
 have hB:∀o:Nat,B≤(⟨q,o,none⟩:Addr).block:=fun o=>by show B≤q;omega
 have ho:∀o:Nat,w.heap.size≤(⟨q,o,none⟩:Addr).block:=fun o=>by show w.heap.size≤q;omega
 have hT:tyAt wr q=some SYT:=Qv h.cur ZO;have hT1:tyAt (wr.setCell ⟨q,1,none⟩ dv) q=some SYT:=(QS q).trans hT;have hT2:tyAt ((wr.setCell ⟨q,1,none⟩ dv).setCell ⟨q,3,none⟩ bv) q=some SYT:=(QS q).trans hT1;refine⟨((h.tape.setCell (hne _) (hB _) _).setCell (hne _) (hB _) _).setCell (hne _) (hB _) _,((h.but.setCell _ (.inr (ho _)) _).setCell _ (.inr (ho _)) _).setCell _ (.inr (ho _)) _,?_,?_,
  ((h.dp.off hT (show IT≠SYT by decide) (inI ZD)).off hT1 (show IT≠SYT by decide) (inI ZD)).off hT2 (show IT≠SYT by decide) (inI ZD),
  ((h.tr.off hT (show FNA≠SYT by decide) (inF ZD ZD)).off hT1 (show FNA≠SYT by decide) (inF ZD ZD)).off hT2 (show FNA≠SYT by decide) (inF ZD ZD),
  ((h.bd.off hT (show ST≠SYT by decide) (inS ZD)).off hT1 (show ST≠SYT by decide) (inS ZD)).off hT2 (show ST≠SYT by decide) (inS ZD),o1,o2,o3⟩
 ·rw[Below.heap_setCell _ _ _ _ (by show z≠q;omega),Below.heap_setCell _ _ _ _ (by show z≠q;omega),Below.heap_setCell _ _ _ _ (by show z≠q;omega)];exact h.res
 ·simp[World.setCell,Array.getElem?_modify,h.cur]
end
end
section
open Go.RowKit
variable [Base]
abbrev Arcs:=List (Int×Qw)
theorem inA {U:TypeId}(hU:U≠139)(hC:U≠CT):∀V∈QKu.inner,V≠U:=fun V hV=>by
 have h2:V=139∨V=CT:=by simpa [QKu] using hV
 rcases h2 with rfl|rfl
 ·exact fun h=>hU h.symm
 ·exact fun h=>hC h.symm
structure QPu (z:Nat)(w:World)(vs:List Value)(R:List Arcs):Prop where
 len:vs.length=R.length
 own:∀(i:Nat) (v:Value) (r:Arcs),vs[i]? = some v→R[i]? = some r→QG QKu z w v r
 apart:∀(i j:Nat) (v u:Value) (b:Nat),i≠j→vs[i]? = some v→vs[j]? = some u→v.ownBlock=some b→u.ownBlock≠some b
theorem QPu.nil {z:Nat}{w:World}:QPu z w [] []:=⟨rfl,fun i v r h=>by simp at h,fun i j v u b _ h=>by simp at h⟩
theorem QPu.map {z:Nat}{w w':World}{vs:List Value}{R:List Arcs}(h:QPu z w vs R)(hk:∀v r,QG QKu z w v r→QG QKu z w' v r):QPu z w' vs R:=
 ⟨h.len,fun i v r hv hr=>hk v r (h.own i v r hv hr),h.apart⟩
theorem QPu.below {z:Nat}{w w':World}{vs:List Value}{R:List Arcs}(h:QPu z w vs R)(b:Below w.heap.size w w'):QPu z w' vs R:=h.map fun _ _ ho=>ho.below b
theorem Qcv {α:Type}{E:Qlg α}{z:Nat}{w:World}{v:Value}{l:List α}(h:QG E z w v l){g:Nat}(hg:v.ownBlock=some g):g<w.heap.size∧z≤g:=by
 obtain⟨xss,hy,-⟩:=h;rcases hy.2 with⟨rfl,-⟩|⟨b,cap,cur,rfl,hb,hh,-⟩
 ·simp[Value.ownBlock] at hg
 ·have:b=g:=by simpa [Value.ownBlock] using hg
  subst this;exact⟨Qb hh,hb⟩
theorem QPu.push {z s:Nat}{w:World}{vs:List Value}{R:List Arcs}{u:Value}{r:Arcs}(h:QPu z w vs R)(hu:QG QKu s w u r)(hz:z≤s)(hs:∀v∈vs,∀b,v.ownBlock=some b→b<s):QPu z w (vs++[u]) (R++[r]):=by
 have hl:=h.len;have key:∀b,u.ownBlock=some b→s≤b:=fun b hb=>(Qcv hu hb).2
 refine⟨by simp[hl],fun i v q hv hq=>?_,fun i j v x b hij hv hx hb=>?_⟩
 ·rcases Nat.lt_or_ge i vs.length with hi|hi
  ·rw[List.getElem?_append_left hi] at hv;rw[List.getElem?_append_left ZO] at hq;exact h.own i v q hv hq
  ·rw[List.getElem?_append_right hi] at hv;rw[List.getElem?_append_right ZO] at hq;obtain⟨k,hk⟩:=Ze (i-vs.length);rw[hk] at hv;rw[←hl,hk] at hq
   cases k with
  |zero=>
    obtain rfl:u=v:=by simpa using hv
    obtain rfl:r=q:=by simpa using hq
    exact hu.base hz
  |succ k=>simp at hv
 ·have cases':∀(i:Nat) (v:Value),(vs++[u])[i]? = some v→(i<vs.length∧vs[i]? = some v)∨(i=vs.length∧v=u):=fun i v hv=>by
   rcases Nat.lt_or_ge i vs.length with hi|hi
   ·rw[List.getElem?_append_left hi] at hv;exact .inl ⟨hi,hv⟩
   ·rw[List.getElem?_append_right hi] at hv;obtain⟨k,hk⟩:=Ze (i-vs.length);rw[hk] at hv
    cases k with
   |zero=>exact .inr ⟨by omega,by simpa using hv.symm⟩
   |succ k=>simp at hv
  rcases cases' i v hv with⟨hi,hv2⟩|⟨hi,ev⟩
  ·rcases cases' j x hx with⟨hj,hx2⟩|⟨hj,ex⟩
   ·exact h.apart i j v x b hij hv2 hx2 hb
   ·intro e;have h1:=hs v (List.mem_of_getElem? hv2) b hb;have h2:=key b (ex▸e);omega
  ·rcases cases' j x hx with⟨hj,hx2⟩|⟨hj,ex⟩
   ·intro e;have h1:=hs x (List.mem_of_getElem? hx2) b e;have h2:=key b (ev▸hb);omega
   ·omega
theorem QPu.lt {z:Nat}{w:World}{vs:List Value}{R:List Arcs}(h:QPu z w vs R):∀v∈vs,∀b,v.ownBlock=some b→b<w.heap.size:=fun v hv b hb=>by
 obtain⟨i,hi⟩:=List.mem_iff_getElem?.1 hv
 obtain⟨r,hr⟩:∃r,R[i]? = some r:=⟨_,List.getElem?_eq_getElem (by rw[←h.len];exact(List.getElem?_eq_some_iff.1 hi).1)⟩
 exact(Qcv (h.own i v r hi hr) hb).1
theorem QPu.others {z i:Nat}{w w':World}{vs:List Value}{R:List Arcs}{v:Value}{xs:List Value}{n:Nat}(h:QPu z w vs R)(hv:vs[i]? = some v)(ho:w.ownsRow z ART 6 v n xs)(hg:w.grownBy w' v.ownBlock)(hbs:Base.b≤z):
  ∀(j:Nat) (u:Value) (r:Arcs),i≠j→vs[j]? = some u→R[j]? = some r→QG QKu z w' u r:=fun j u r hij hu hr=>by
 obtain⟨xss,hy,hx⟩:=h.own j u r hu hr
 refine⟨xss,⟨hy.1,?_⟩,hx.mono fun _ _ hc=>QKu.keep (fun V hV=>Qf.grown hg ho (inA (U:=ART) ZD ZD V hV)) hc⟩
 rcases hy.2 with hn|⟨g,cap,cur,rfl,hgz,hh,rest⟩
 ·exact .inl hn
 ·refine .inr ⟨g,cap,cur,rfl,hgz,(hg.block g (Qb hh) fun e=>?_).trans hh,rest⟩
  exact h.apart i j v _ g hij hv hu e.symm (by simp[Value.ownBlock])
theorem Qrv {b o n cap:Nat}{w:World}{c:Array Value}{vs:List Value}{R:List Arcs}(hb:w.heap[b]? = some (.cells c ARS (0,0)))(hn:vs.length=n)(hcap:n≤cap)(hm:cap≤maxLen)(hc:∀(i:Nat) (v:Value),vs[i]? = some v→c[o+i]? = some v)(h:∀(i:Nat) (v:Value) (r:Arcs),vs[i]? = some v→R[i]? = some r→Qoa QKu w v r)(hl:vs.length=R.length):Qoa QWu w (.slice (some ⟨b,o,none⟩) n cap) R:=by
 refine⟨vs.map fun v=>[v],⟨n,cap,by rw[Qmf];simp[hn,QWu],hcap,hm,.inr ⟨b,o,c,(0,0),rfl,.of hb,fun i hi=>?_⟩⟩,?_⟩
 ·rw[Qmf] at hi ⊢;rw[List.getElem?_eq_getElem hi];exact hc i _ (List.getElem?_eq_getElem hi)
 ·clear hc hn
  induction vs generalizing R with
 |nil=>cases R with|nil=>trivial|cons x r=>simp at hl
 |cons x r ih=>
   cases R with
  |nil=>simp at hl
  |cons q R=>exact⟨⟨x,rfl,h 0 x q rfl rfl⟩,ih (fun i v s hv hs=>h (i+1) v s (by simpa using hv) (by simpa using hs)) (by simpa using hl)⟩
theorem Qvv {z:Nat}{w:World}{v:Value}{n:Nat}{vs:List Value}(h:w.ownsRow z ARS 1 v n vs)(h0:0<n):∃(g cap:Nat) (c:Array Value),v=.slice (some ⟨g,0,none⟩) n cap∧z≤g∧w.heap[g]? = some (.cells c ARS (0,0))∧n≤cap∧cap≤maxLen∧∀(i:Nat) (x:Value),vs[i]? = some x→c[i]? = some x:=by
 obtain⟨h1,h2⟩:=h;rcases h2 with⟨rfl,rfl⟩|⟨g,cap,cur,rfl,hg,hh,hn,hc,hs,ht⟩
 ·omega
 ·refine⟨g,cap,cur,rfl,hg,hh,hn,hc,fun i x hx=>?_⟩;rw[←ht] at hx;have hi:=(List.getElem?_eq_some_iff.1 hx).1;rw[List.length_take] at hi;rw[List.getElem?_take_of_lt ZO] at hx
  simpa using hx
end
section
open Go.RowKit
variable [Base]
theorem Qiv:(Tryz.prog.info? ART).map (fun i=>(i.zero,i.size,i.bytes))=some (some (Value.agg #[iv 0,iv 0,.slice none 0 0,iv 0,.slice none 0 0,.slice none 0 0]),6,96):=by kernel_rfl
theorem QOv:(Tryz.prog.info? ARS).map (fun i=>(i.zero,i.size,i.bytes))=some (some (Value.slice none 0 0),1,24):=by kernel_rfl
theorem QXu (w:World):(w.alloc (.cells #[] ST)).ownsRow w.heap.size ST 2 (.slice (some ⟨w.heap.size,0,none⟩) 0 0) 0 []:=
 ⟨by simp,.inr ⟨w.heap.size,0,#[],rfl,Nat.le_refl _,heap_alloc_new _ _,Nat.le_refl _,Nat.zero_le _,by simp,by simp⟩⟩
theorem Qmv (w:World)(o:Obj):((w.alloc o).alloc (.cells #[] ST)).ownsRow (w.heap.size+1) ST 2 (.slice (some ⟨w.heap.size+1,0,none⟩) 0 0) 0 []:=by
 have h:=QXu (w.alloc o);rw[World.size_alloc] at h;exact h
def WebE (r:WebS×Int)(w:World)(e:Ending)(w':World):Prop:=∃bv av vs,e=.returned (.tuple #[webV r.1 bv av,iv r.2])∧QG Qsa w.heap.size w' bv r.1.bnds∧w'.ownsRow w.heap.size ARS 1 av vs.length vs∧QPu w.heap.size w' vs r.1.arcs∧Below w.heap.size w w'
structure WbIn (z c:Nat)(w wr:World)(sw:Int)(sc:Array Value)(bv av:Value)(bs:List QSet)(vs:List Value)(R:List Arcs):Prop where
 size:w.heap.size=z
 below:Below z w wr
 src:wr.heap[z]? = some (.cells sc SYT (0,0))
 res:wr.heap[z+1]? = some (.cells #[iv 0,.slice none 0 0,.slice none 0 0] WBT (0,0))
 cur:wr.heap[c]? = some (.cells #[iv sw,bv,av] WBT (0,0))
 old:z+1<c
 bsz:Base.b≤z
 bd:QG Qsa z wr bv bs
 own:wr.ownsRow z ARS 1 av vs.length vs
 ar:QPu z wr vs R
section
variable {z c:Nat} {w wr w2:World} {sw:Int} {sc:Array Value} {bv av:Value} {bs:List QSet} {vs:List Value} {R:List Arcs}
theorem WbIn.zs (h:WbIn z c w wr sw sc bv av bs vs R):z≤wr.heap.size:=by have:=h.below.size;have:=h.size;omega
theorem WbIn.next (h:WbIn z c w wr sw sc bv av bs vs R)(b:Below wr.heap.size wr w2):WbIn z c w w2 sw sc bv av bs vs R:=
 ⟨h.size,h.below.trans (b.mono h.zs),Qc h.src b (Qb h.src),Qc h.res b (Qb h.res),Qc h.cur b (Qb h.cur),h.old,h.bsz,h.bd.below b,QZd h.own b,h.ar.below b⟩
theorem WbIn.mkA {v1:World}(hz:w.heap.size=z)(hbs:Base.b≤z)(hb:Below z w v1)(hs:v1.heap[z]? = some (.cells sc SYT (0,0)))(hr:v1.heap[z+1]? = some (.cells #[iv 0,.slice none 0 0,.slice none 0 0] WBT (0,0)))(hd:QG Qsa z v1 bv bs):
  WbIn z v1.heap.size w (v1.alloc (.cells #[iv sw,bv,.slice none 0 0] WBT)) sw sc bv (.slice none 0 0) bs [] []:=by
 have b:Below v1.heap.size v1 (v1.alloc (.cells #[iv sw,bv,.slice none 0 0] WBT)):=Zb;exact⟨hz,hb.alloc (by have:=hb.size;omega) _,Qz _ hs,Qz _ hr,heap_alloc_new _ _,Qb hr,hbs,hd.below b,World.ownsRow_nil _ _ _ _,QPu.nil⟩
theorem WbIn.mkB {v1:World}{a0 a1 a2:Value}(hz:w.heap.size=z)(hbs:Base.b≤z)(hb:Below z w v1)(hs:v1.heap[z]? = some (.cells sc SYT (0,0)))(hr:v1.heap[z+1]? = some (.cells #[iv 0,.slice none 0 0,.slice none 0 0] WBT (0,0)))(hd:QG Qsa z v1 bv bs)(hc:v1.heap[c]? = some (.cells #[a0,a1,a2] WBT (0,0)))(hlt:z+1<c):
  WbIn z c w (((v1.setCell ⟨c,0,none⟩ (iv sw)).setCell ⟨c,1,none⟩ bv).setCell ⟨c,2,none⟩ (.slice none 0 0)) sw sc bv (.slice none 0 0) bs [] []:=by
 have hT:tyAt v1 c=some WBT:=Qv hc ZO;have hT1:tyAt (v1.setCell ⟨c,0,none⟩ (iv sw)) c=some WBT:=(QS c).trans hT;have hT2:tyAt ((v1.setCell ⟨c,0,none⟩ (iv sw)).setCell ⟨c,1,none⟩ bv) c=some WBT:=(QS c).trans hT1;have hle:∀o:Nat,z≤(⟨c,o,none⟩:Addr).block:=fun o=>by show z≤c;omega
 refine⟨hz,((hb.setCell (hle _) _).setCell (hle _) _).setCell (hle _) _,?_,?_,?_,hlt,hbs,((hd.off hT (show ST≠WBT by decide) (inS ZD)).off hT1 (show ST≠WBT by decide) (inS ZD)).off hT2 (show ST≠WBT by decide) (inS ZD),World.ownsRow_nil _ _ _ _,QPu.nil⟩
 ·rw[Below.heap_setCell _ _ _ _ (by show z≠c;omega),Below.heap_setCell _ _ _ _ (by show z≠c;omega),Below.heap_setCell _ _ _ _ (by show z≠c;omega)];exact hs
 ·rw[Below.heap_setCell _ _ _ _ (by show z+1≠c;omega),Below.heap_setCell _ _ _ _ (by show z+1≠c;omega),Below.heap_setCell _ _ _ _ (by show z+1≠c;omega)];exact hr
 ·simp[World.setCell,Array.getElem?_modify,hc]
theorem WbIn.push {s g cap:Nat}{u:Value}{r:Arcs}(h:WbIn z c w wr sw sc bv av bs vs R)(hu:QG QKu s wr u r)(hs:z≤s)(hv:∀v∈vs,∀b,v.ownBlock=some b→b<s)(ho:w2.ownsRow z ARS 1 (.slice (some ⟨g,0,none⟩) (vs.length+1) cap) (vs.length+1) (vs++[u]))(hg:wr.grownBy w2 av.ownBlock):
  WbIn z c w (w2.setCell ⟨c,2,none⟩ (.slice (some ⟨g,0,none⟩) (vs.length+1) cap)) sw sc bv (.slice (some ⟨g,0,none⟩) (vs.length+1) cap) bs (vs++[u]) (R++[r])∧w2.heap[c]? = some (.cells #[iv sw,bv,av] WBT (0,0)):=by
 have hbs:=h.bsz;have hold:=h.old;have hb:Below z wr w2:=Below.of_grown hg h.own h.zs;have noA:∀{k:Nat} {cs:Array Value} {T:TypeId},wr.heap[k]? = some (.cells cs T (0,0))→T≠ARS→w2.heap[k]? = some (.cells cs T (0,0)):=fun {k cs T} hk hT=>
  (hg.block k (Qb hk) (Qdb h.own hk (fun c' fr e=>by injection e with _ e _;exact absurd e hT))).trans hk
 have hcur:=noA h.cur ZD;have hT:tyAt w2 c=some WBT:=Qv hcur ZO;have hA:∀v r,QG QKu z wr v r→QG QKu z (w2.setCell ⟨c,2,none⟩ (.slice (some ⟨g,0,none⟩) (vs.length+1) cap)) v r:=fun v r hv=>(hv.grownT h.own hg (show ART≠ARS by decide) (inA ZD ZD) hbs).off hT (show ART≠WBT by decide) (inA ZD ZD)
 refine⟨⟨h.size,(h.below.trans hb).setCell (by show z≤c;omega) _,?_,?_,?_,h.old,h.bsz,(h.bd.grownT h.own hg (show ST≠ARS by decide) (inS ZD) hbs).off hT (show ST≠WBT by decide) (inS ZD),?_,?_⟩,hcur⟩
 ·rw[Below.heap_setCell _ _ _ _ (by show z≠c;omega)];exact noA h.src ZD
 ·rw[Below.heap_setCell _ _ _ _ (by show z+1≠c;omega)];exact noA h.res ZD
 ·simp[World.setCell,Array.getElem?_modify,hcur]
 ·rw[List.length_append];exact Qza ho hT (show ARS≠WBT by decide)
 ·refine QPu.push (h.ar.map hA) (s:=s) ?_ hs hv;obtain⟨xss,h1,h2⟩:=hu;have hu2:QG QKu s w2 u r:=⟨xss,Qnj h1 fun b cs fr _ hb=>hg.block b (Qb hb) (Qdb h.own hb (fun c' fr' e=>by injection e with _ e _;exact absurd e (show ART≠ARS by decide))),h2.mono fun _ _ hc=>QKu.keep (fun V hV=>Qf.grown hg h.own (inA (U:=ARS) ZD ZD V hV)) hc⟩;exact hu2.off hT (show ART≠WBT by decide) (inA ZD ZD)
theorem WbIn.fin (h:WbIn z c w wr sw sc bv av bs vs R)(x y u:Value):QG Qsa z (((wr.setCell ⟨z+1,0,none⟩ x).setCell ⟨z+1,1,none⟩ y).setCell ⟨z+1,2,none⟩ u) bv bs∧(((wr.setCell ⟨z+1,0,none⟩ x).setCell ⟨z+1,1,none⟩ y).setCell ⟨z+1,2,none⟩ u).ownsRow z ARS 1 av vs.length vs ∧
  QPu z (((wr.setCell ⟨z+1,0,none⟩ x).setCell ⟨z+1,1,none⟩ y).setCell ⟨z+1,2,none⟩ u) vs R∧Below z w (((wr.setCell ⟨z+1,0,none⟩ x).setCell ⟨z+1,1,none⟩ y).setCell ⟨z+1,2,none⟩ u) ∧
  (((wr.setCell ⟨z+1,0,none⟩ x).setCell ⟨z+1,1,none⟩ y).setCell ⟨z+1,2,none⟩ u).heap[z+1]? = some (.cells #[x,y,u] WBT (0,0)):=by
 have hbs:=h.bsz;have hT:tyAt wr (z+1)=some WBT:=Qv h.res ZO;have hT1:tyAt (wr.setCell ⟨z+1,0,none⟩ x) (z+1)=some WBT:=(QS (z+1)).trans hT;have hT2:tyAt ((wr.setCell ⟨z+1,0,none⟩ x).setCell ⟨z+1,1,none⟩ y) (z+1)=some WBT:=(QS (z+1)).trans hT1;have hle:∀o:Nat,z≤(⟨z+1,o,none⟩:Addr).block:=fun o=>by show z≤z+1;omega
 refine⟨((h.bd.off hT (show ST≠WBT by decide) (inS ZD)).off hT1 (show ST≠WBT by decide) (inS ZD)).off hT2 (show ST≠WBT by decide) (inS ZD),
  Qza (Qza (Qza h.own hT (show ARS≠WBT by decide)) hT1 (show ARS≠WBT by decide)) hT2 (show ARS≠WBT by decide),
  h.ar.map fun v r hv=>((hv.off hT (show ART≠WBT by decide) (inA ZD ZD)).off hT1 (show ART≠WBT by decide) (inA ZD ZD)).off hT2 (show ART≠WBT by decide) (inA ZD ZD),
  ((h.below.setCell (hle _) _).setCell (hle _) _).setCell (hle _) _,by simp[World.setCell,Array.getElem?_modify,h.res]⟩
end
def QSu (s:SysS)(l:List Int):Arcs:=l.map fun m=>(m,(s.trans[m.toNat]?).getD ⟨⟨0,[]⟩,⟨0,[]⟩,[]⟩)
theorem Qbv (s:SysS):(QQu s).arcs=s.deps.map (QSu s):=rfl
theorem QTv {n m:Nat}(s:SysS)(hok:QSd n m s)(dv tv bv:Value)(w:World)(h:QKd w dv tv bv s)(hbs:Base.b≤w.heap.size):Calls Tryz.prog 22 #[sysV s dv tv bv] w (WebE (webT s) w):=by
 have HS:=Zh h;obtain⟨da,dc,rfl,hdm,-,-,hdc⟩:=h.deps.cell;obtain⟨ta,tc,rfl,htm,-,-,htc⟩:=h.trans.cell;obtain⟨ba,bc,rfl,hbm,-⟩:=h.bnds.cell;obtain⟨dn,hdn⟩:=Ze s.deps.length;obtain⟨tn,htn⟩:=Ze s.trans.length;obtain⟨bn,hbn⟩:=Ze s.bnds.length;have HOK:=Zh hok;obtain⟨z,hz⟩:=Ze w.heap.size;have HZ:=Zh hz;have KV:=Zh (show ∀wx,Below z w wx→Calls Tryz.prog 76 #[sysV s (.slice da s.deps.length dc) (.slice ta s.trans.length tc) (.slice ba s.bnds.length bc)] wx (Qia true wx) from fun wx b=>Quv s _ _ _ wx (HS.o.below (hz▸b)) HOK.o.b);have HE:=Zh (show webT s=(QQu s,0) by unfold webT;rw[HOK.o.b];rfl);simp only[sysV] at KV;rw[hdn,htn,hbn] at HS KV;rw[hdn] at hdm;rw[htn] at htm;rw[hbn] at hbm;obtain⟨sw,hsw⟩:=Ze s.width;simp only[sysV,hdn,htn,hbn,hsw] at KV ⊢;obtain⟨W,hW⟩:=Ze ((w.alloc (.cells #[iv sw,.slice da dn dc,.slice ta tn tc,.slice ba bn bc] SYT)).alloc (.cells #[iv 0,.slice none 0 0,.slice none 0 0] WBT));have BW:=Zh (show Below z w W by rw[←hW,←hz];exact(Zb).alloc ZS _);have HX:=Zh (show W.heap[z]? = some (.cells #[iv sw,.slice da dn dc,.slice ta tn tc,.slice ba bn bc] SYT (0,0)) by rw[←hW,←hz];exact Qz _ (heap_alloc_new _ _));have HR:=Zh (show W.heap[z+1]? = some (.cells #[iv 0,.slice none 0 0,.slice none 0 0] WBT (0,0)) by rw[←hW,←hz];exact Qda _ _);have HWW:=Zh hW;have hWs:W.heap.size=z+2:=by rw[←hW,←hz];simp
 have hzb:Base.b≤z:=by omega
 have HDC:=Zh hdc;have HTC:=Zh htc;have HDN:=Zh hdn;have HTN:=Zh htn;have HBN:=Zh hbn;have HSW:=Zh hsw;unfold maxLen at hdm htm hbm;clear h hdc htc hdn htn hbn hsw hW hok;obtain⟨x0,x1,x2,x3⟩:=Qt HX.o;go_enter Tryz.func22,Tryz.ntmps22;go_upto_region 1 with(fail)
 rw[show(w.alloc (.cells #[iv sw,.slice da dn dc,.slice ta tn tc,.slice ba bn bc] SYT)).alloc (.cells #[iv 0,.slice none 0 0,.slice none 0 0] WBT)=W from HWW.o]
 try rw[hz]
 go_wp2_with fail;refine(KV.o W BW.o).mono ?_;rintro e w1 ⟨rfl,b1⟩;have B1:=Zh (show Below z w w1 from BW.o.trans (b1.mono ZO));have HX1:=Zh (Qc HX.o b1 (Qb HX.o));have HR1:=Zh (Qc HR.o b1 (Qb HR.o));clear b1 x0 x1 x2 x3 KV;obtain⟨x0,x1,x2,x3⟩:=Qt HX1.o;have hok:=HOK.o;have hn256:=hok.nle;have hdn:dn=n:=HDN.o.symm.trans hok.deps;have htn:tn=n:=HTN.o.symm.trans hok.trans;have hbn:bn=n:=HBN.o.symm.trans hok.bnds;subst hdn htn hbn;obtain⟨xss,hsl,hX⟩:=HS.o.bnds;have SA:=Zh (show Qg w1 ST 2 (.slice ba bn bc) xss.flatten from Qg.same hsl (Qf.below (HZ.o▸B1.o)));have XL:=hX.length;have LN:=Zh (show xss.flatten.length=bn*2 by rw[Qed 2 xss (hX.eachR fun _ _ h=>Qsa.len h),XL,HBN.o]);have OC:=Zh (show xss.flatten.all Value.oneCell'=true by
  rw[List.all_eq_true];intro x hx;obtain⟨cs,hcs,hxc⟩:=List.mem_flatten.1 hx;obtain⟨i,hi⟩:=List.mem_iff_getElem?.1 hcs;have hi2:=(List.getElem?_eq_some_iff.1 hi).1;have:=hX.get i hi2 (by rw[←XL];exact hi2);obtain⟨u,e,hu⟩:=this;have e2:cs=[iv (s.bnds[i]'(by rw[←XL];exact hi2)).width,u]:=by
   have:=(List.getElem?_eq_some_iff.1 hi).2;rw[←this];exact e
  rw[e2] at hxc;obtain⟨ua,uc,rfl,-⟩:=hu.cell;simp at hxc;rcases hxc with rfl|rfl <;> rfl)
 have HXS:=Zh hX;have hz1:z<w1.heap.size:=Qb HX1.o;have hz2:z+1<w1.heap.size:=Qb HR1.o;clear hok hsl hX XL;have HMK:=Zh (show ∀(v1:World) (g:Option Addr) (d base:Nat),Below w1.drew.heap.size w1.drew v1→z≤base→v1.ownsRow base ST 2 (.slice g bn d) bn xss.flatten→(Below z w v1∧v1.heap[z]? = some (.cells #[iv sw,.slice da bn dc,.slice ta bn tc,.slice ba bn bc] SYT (0,0))∧v1.heap[z+1]? = some (.cells #[iv 0,.slice none 0 0,.slice none 0 0] WBT (0,0))∧QG Qsa z v1 (.slice g bn d) s.bnds) from fun v1 g d base b hb ho=>by
  have hb1:Below z w v1:=B1.o.drew.trans (b.mono (by show z≤w1.heap.size;omega));refine⟨hb1,(b.block z hz1).trans HX1.o,(b.block (z+1) hz2).trans HR1.o,xss,?_,HXS.o.mono fun _ _ hc=>Qsa.keep (fun U _=>Qf.below (HZ.o▸hb1)) hc⟩;rw[HBN.o];exact Qjm ho hb)
 go_wp2_with fail;go_cut [4] from 12 to 19 (fun y4 wx=>∃c v wy,wy=wx∧y4=.pointer (some ⟨c,0,none⟩)∧Hid (WbIn z c w wy sw #[iv sw,.slice da bn dc,.slice ta bn tc,.slice ba bn bc] v (.slice none 0 0) s.bnds [] []))
 case first=>
  go_region_held3 (fun wx=>wx.cell? ⟨z,0,none⟩=some (iv sw)∧wx.cell? ⟨z,3,none⟩=some (.slice ba bn bc)) (first|go_keep|exact⟨Qqa ZO (Qqa ZO (Qqa ZO p0)),Qqa ZO (Qqa ZO (Qqa ZO p3))⟩) ((first|(refine QNu rfl (.tmp 14) (.tmp 16) 34 rfl w1.drew.heap.size ST _ 2 32 Tryz.underlying34 Qwd rfl ZD _ _ _ (QXu w1.drew) rfl _ bn xss.flatten rfl (Qg.same (w:=w1.drew) SA.o Qf.alloc) LN.o OC.o (by unfold maxLen;omega) ZO (by first|(simp;done)|(simp;omega)) ?_;intro g1 d1 v1 own1 gr1;simp only[Nat.zero_add,List.nil_append] at own1;have OW1:=Zh own1;have BV1:=Zh (show Below w1.drew.heap.size w1.drew v1 from((Below.refl w1.drew.heap.size w1.drew).alloc (Nat.le_refl _) (.cells #[] ST)).trans (Below.of_grown gr1 (QXu w1.drew) (by first|(simp;done)|(simp;omega))));have b0:=Qc (w:=w1.drew) HX1.o BV1.o hz1;obtain⟨p0,p1,p2,p3⟩:=Qt b0;clear own1 gr1 b0)|(refine QNu rfl (.tmp 14) (.tmp 16) 34 rfl w1.drew.heap.size ST _ 2 32 Tryz.underlying34 Qwd rfl ZD _ _ _ ((QXu w1.drew).alloc (.cells #[.int .i64 0,.slice none 0 0,.slice none 0 0] WBT)) rfl _ bn xss.flatten rfl (Qg.same (w:=w1.drew) SA.o (Qf.trans Qf.alloc Qf.alloc)) LN.o OC.o (by unfold maxLen;omega) ZO (by first|(simp;done)|(simp;omega)) ?_;intro g1 d1 v1 own1 gr1;simp only[Nat.zero_add,List.nil_append] at own1;have OW1:=Zh own1;have BV1:=Zh (show Below w1.drew.heap.size w1.drew v1 from(((Below.refl w1.drew.heap.size w1.drew).alloc (Nat.le_refl _) (.cells #[] ST)).alloc (by first|(simp;done)|(simp;omega)) (.cells #[.int .i64 0,.slice none 0 0,.slice none 0 0] WBT)).trans (Below.of_grown gr1 ((QXu w1.drew).alloc (.cells #[.int .i64 0,.slice none 0 0,.slice none 0 0] WBT)) (by first|(simp;done)|(simp;omega))));have b0:=Qc (w:=w1.drew) HX1.o BV1.o hz1;obtain⟨p0,p1,p2,p3⟩:=Qt b0;have hz:=(gr1.block (w1.heap.size+1) (Qb (Qda (w:=w1.drew) (.cells #[] ST) (.cells #[.int .i64 0,.slice none 0 0,.slice none 0 0] WBT))) (by show ¬some (w1.heap.size+1)=some w1.heap.size;simp)).trans (Qda (w:=w1.drew) (.cells #[] ST) (.cells #[.int .i64 0,.slice none 0 0,.slice none 0 0] WBT));obtain⟨z0,z1,z2⟩:=QVa hz;have f0:=(Qa hz).2 0;have f1:=(Qa hz).2 1;have f2:=(Qa hz).2 2;have HZZ:=Zh hz;clear hz;clear own1 gr1 b0)|(refine QNu rfl (.tmp 14) (.tmp 16) 34 rfl (w1.drew.heap.size+1) ST _ 2 32 Tryz.underlying34 Qwd rfl ZD _ _ _ (Qmv w1.drew (.cells #[.int .i64 0,.slice none 0 0,.slice none 0 0] WBT)) rfl _ bn xss.flatten rfl (Qg.same (w:=w1.drew) SA.o (Qf.trans Qf.alloc Qf.alloc)) LN.o OC.o (by unfold maxLen;omega) ZO (by first|(simp;done)|(simp;omega)) ?_;intro g1 d1 v1 own1 gr1;simp only[Nat.zero_add,List.nil_append] at own1;have OW1:=Zh own1;have BV1:=Zh (show Below w1.drew.heap.size w1.drew v1 from(((Below.refl w1.drew.heap.size w1.drew).alloc (Nat.le_refl _) (.cells #[.int .i64 0,.slice none 0 0,.slice none 0 0] WBT)).alloc (by first|(simp;done)|(simp;omega)) (.cells #[] ST)).trans ((Below.of_grown gr1 (Qmv w1.drew (.cells #[.int .i64 0,.slice none 0 0,.slice none 0 0] WBT)) (by first|(simp;done)|(simp;omega))).mono (Nat.le_succ _)));have b0:=Qc (w:=w1.drew) HX1.o BV1.o hz1;obtain⟨p0,p1,p2,p3⟩:=Qt b0;have hz:=(gr1.block w1.heap.size (Qb (Qz (.cells #[] ST) (heap_alloc_new w1.drew (.cells #[.int .i64 0,.slice none 0 0,.slice none 0 0] WBT)))) (by show ¬some w1.heap.size=some (w1.heap.size+1);simp)).trans (Qz (.cells #[] ST) (heap_alloc_new w1.drew (.cells #[.int .i64 0,.slice none 0 0,.slice none 0 0] WBT)));obtain⟨z0,z1,z2⟩:=QVa hz;have f0:=(Qa hz).2 0;have f1:=(Qa hz).2 1;have f2:=(Qa hz).2 2;have HZZ:=Zh hz;clear hz;clear own1 gr1 b0)))
  ·go_wp2_with fail;go_meet
   case rel=>
    obtain⟨q1,q2,q3,q4⟩:=HMK.o _ _ _ _ BV1.o (by show z≤w1.heap.size;omega) OW1.o;exact⟨_,_,_,rfl,rfl,WbIn.mkA HZ.o hzb q1 q2 q3 q4⟩
  ·go_wp2_with fail;go_meet
   case rel=>
    obtain⟨q1,q2,q3,q4⟩:=HMK.o _ _ _ _ BV1.o (by show z≤w1.heap.size;omega) OW1.o;exact⟨_,_,_,rfl,rfl,WbIn.mkB HZ.o hzb q1 q2 q3 q4 HZZ.o ZO⟩
  ·go_wp2_with fail;go_meet
   case rel=>
    obtain⟨q1,q2,q3,q4⟩:=HMK.o _ _ _ _ BV1.o (by show z≤w1.heap.size+1;omega) OW1.o;exact⟨_,_,_,rfl,rfl,WbIn.mkB HZ.o hzb q1 q2 q3 q4 HZZ.o ZO⟩
 case rest=>
  clear x0 x1 x2 x3 hz1 hz2 SA OC LN HMK HXS;obtain⟨c,v,wy,rfl,rfl,I0⟩:=hcut;obtain⟨va,vc,rfl⟩:=I0.o.bd.slice;obtain⟨vn,hvn⟩:=Ze s.bnds.length;rw[hvn] at I0;clear hvn;go_wp2;go_loopw [5] (fun y wr=>∃(k:Nat) (vs:List Value) (av:Value),k≤bn∧y=.int .i64 k∧vs.length=k∧Hid (WbIn z c w wr sw #[iv sw,.slice da bn dc,.slice ta bn tc,.slice ba bn bc] (.slice va vn vc) av s.bnds vs ((s.deps.take k).map (QSu s)))) (fun y _=>bn-(intOf y).toNat)
  case atStart=>exact⟨0,[],.slice none 0 0,Nat.zero_le _,rfl,rfl,I0.o⟩
  case round=>
   rename World=>wo
   obtain⟨k,vs,av,hk,rfl,hvl,I⟩:=hrel;obtain⟨aa,ac,rfl,-⟩:=QXa I.o.own;obtain⟨x0,x1,x2,x3⟩:=Qt I.o.src;by_cases hlt:k<bn
   ·obtain⟨l,hl⟩:∃l,s.deps[k]? = some l:=⟨_,List.getElem?_eq_getElem (by rw[HDN.o];exact hlt)⟩;have HAS:=Zh (HOK.o.asc l (List.mem_of_getElem? hl));have hun0:=QYp HAS.o;obtain⟨d1b,d1o,cs1,rfl,hd1b,⟨lu,rfl,hlu⟩,hcs1⟩:=HDC.o k l hl;obtain⟨ua,uc,rfl,hum,-,-,huc⟩:=hlu.cell;obtain⟨un,hun⟩:=Ze l.length;simp only[Qqc] at hcs1;rw[hun] at hcs1 hun0;have c1:=hcs1 0 ZD;simp only[Nat.add_zero,Nat.mul_one,List.getElem?_cons_zero] at c1;have hd1z:d1b<z:=by rw[←HZ.o];exact hd1b
    have HUC:=Zh huc;have HUN:=Zh hun;have c1w:=(I.o.below.cell (p:=⟨d1b,d1o+k,none⟩) hd1z).trans c1;have HTK:=Zh (show(s.deps.take (k+1)).map (QSu s)=(s.deps.take k).map (QSu s)++[QSu s l] by rw[List.take_add_one,hl,List.map_append];rfl);obtain⟨R,hR⟩:=Ze (QSu s l);have HRR:=Zh hR;have HRL:=Zh (show R.length=un by rw[←hR,←hun];unfold QSu;simp);have HC1:=Zh c1;rw[hR] at HTK;clear hl hcs1 hlu huc hun hR c1;obtain⟨s0,hs0⟩:=Ze wo.heap.size;have HS0:=Zh hs0;have hzs:z≤s0:=by rw[←hs0];exact I.o.zs
    have hsb:Base.b≤s0:=by omega
    go_wp2;clear x0 x1 x2 x3 c1w;go_loopw [6,7] (fun v y wr=>∃j:Nat,j≤un∧y=.int .i64 j∧Hid (Below s0 wo wr)∧Hid (QG QKu s0 wr v (R.take j))) (fun _ y _=>un-(intOf y).toNat)
    case atStart=>exact⟨0,Nat.zero_le _,rfl,by rw[←hs0];exact Below.refl _ _,QG.nil⟩
    case round=>
     rename_i v _;obtain⟨j,hj,rfl,HBI,HO⟩:=hrel;obtain⟨oa,oc,rfl⟩:=HO.o.slice;have HIW:=Zh (I.o.next (HS0.o.symm▸HBI.o));have c1w:=(HIW.o.below.cell (p:=⟨d1b,d1o+k,none⟩) hd1z).trans HC1.o;obtain⟨x0,x1,x2,x3⟩:=Qt HIW.o.src;by_cases hlt2:j<un
     ·obtain⟨x,hx⟩:∃x,l[j]? = some x:=⟨_,List.getElem?_eq_getElem (by rw[HUN.o];exact hlt2)⟩;obtain⟨hx0,hx1⟩:=Qci HAS.o x (List.mem_of_getElem? hx);obtain⟨q,rfl⟩:=Int.eq_ofNat_of_zero_le hx0;have hqn:q<bn:=by omega
      obtain⟨t,ht⟩:∃t,s.trans[q]? = some t:=⟨_,List.getElem?_eq_getElem (by rw[HTN.o];exact hqn)⟩;obtain⟨ub,uo,rfl,hub,u0⟩:=HUC.o j _ hx;obtain⟨d2b,d2o,cs2,rfl,hd2b,⟨gu,ku,cu,rfl,htu⟩,hcs2⟩:=HTC.o q t ht;obtain⟨ga,gc,rfl,-⟩:=htu.gen.cell;obtain⟨ka,kc,rfl,-⟩:=htu.kill.cell;obtain⟨ca,cc,rfl,-⟩:=htu.cops.cell;simp only[trEl] at hcs2;have a0:=hcs2 0 ZD;have a1:=hcs2 1 ZD;have a2:=hcs2 2 ZD;have a3:=hcs2 3 ZD;have a4:=hcs2 4 ZD;simp only[Nat.add_zero,List.getElem?_cons_zero,List.getElem?_cons_succ] at a0 a1 a2 a3 a4;have hubz:ub<z:=by rw[←HZ.o];exact hub
      have hd2z:d2b<z:=by rw[←HZ.o];exact hd2b
      have HSW:=Zh (show ∀wx,Below s0 wo wx→(wx.cell? ⟨z,1,none⟩=some (.slice (some ⟨d1b,d1o,none⟩) bn dc)∧wx.cell? ⟨z,2,none⟩=some (.slice (some ⟨d2b,d2o,none⟩) bn tc)∧wx.cell? ⟨d1b,d1o+k,none⟩=some (.slice (some ⟨ub,uo,none⟩) un uc)∧wx.cell? ⟨ub,uo+j,none⟩=some (iv (q:Int))∧wx.cell? ⟨d2b,d2o+q*5,none⟩=some (iv t.gen.width)∧wx.cell? ⟨d2b,d2o+q*5+1,none⟩=some (.slice ga t.gen.words.length gc)∧wx.cell? ⟨d2b,d2o+q*5+2,none⟩=some (iv t.kill.width)∧wx.cell? ⟨d2b,d2o+q*5+3,none⟩=some (.slice ka t.kill.words.length kc)∧wx.cell? ⟨d2b,d2o+q*5+4,none⟩=some (.slice ca t.cops.length cc)) from fun wx b=>by
       have hb:Below z w wx:=I.o.below.trans (b.mono hzs);have hzl:z<s0:=by rw[←HS0.o];exact Qb I.o.src
       obtain⟨-,x1,x2,-⟩:=Qt (Qc I.o.src b hzl);exact⟨x1,x2,(hb.cell (p:=⟨d1b,d1o+k,none⟩) hd1z).trans HC1.o,(hb.cell (p:=⟨ub,uo+j,none⟩) hubz).trans u0,(hb.cell (p:=⟨d2b,d2o+q*5,none⟩) hd2z).trans a0,(hb.cell (p:=⟨d2b,d2o+q*5+1,none⟩) hd2z).trans a1,(hb.cell (p:=⟨d2b,d2o+q*5+2,none⟩) hd2z).trans a2,(hb.cell (p:=⟨d2b,d2o+q*5+3,none⟩) hd2z).trans a3,(hb.cell (p:=⟨d2b,d2o+q*5+4,none⟩) hd2z).trans a4⟩)
      have HSS:=Zh (show ∀wx,Below wr.heap.size wr wx→(wx.cell? ⟨z,1,none⟩=some (.slice (some ⟨d1b,d1o,none⟩) bn dc)∧wx.cell? ⟨z,2,none⟩=some (.slice (some ⟨d2b,d2o,none⟩) bn tc)∧wx.cell? ⟨d1b,d1o+k,none⟩=some (.slice (some ⟨ub,uo,none⟩) un uc)∧wx.cell? ⟨ub,uo+j,none⟩=some (iv (q:Int))∧wx.cell? ⟨d2b,d2o+q*5,none⟩=some (iv t.gen.width)∧wx.cell? ⟨d2b,d2o+q*5+1,none⟩=some (.slice ga t.gen.words.length gc)∧wx.cell? ⟨d2b,d2o+q*5+2,none⟩=some (iv t.kill.width)∧wx.cell? ⟨d2b,d2o+q*5+3,none⟩=some (.slice ka t.kill.words.length kc)∧wx.cell? ⟨d2b,d2o+q*5+4,none⟩=some (.slice ca t.cops.length cc)) from fun wx b=>HSW.o wx (HBI.o.trans (b.mono (by have:=HBI.o.size;omega))));have HTW:=Zh (show Qja wr (.slice ga t.gen.words.length gc) (.slice ka t.kill.words.length kc) (.slice ca t.cops.length cc) t from htu.below (HZ.o▸HIW.o.below));have HTK2:=Zh (show R.take (j+1)=R.take j++[((q:Int),t)] by
       rw[List.take_add_one,←HRR.o];unfold QSu;rw[List.getElem?_map,hx];simp[ht])
      obtain⟨T,hT⟩:=Ze (R.take j);have hTl:T.length≤256:=by rw[←hT,List.length_take];omega
      rw[hT] at HO HTK2 ⊢;obtain⟨yss,ho,hyx⟩:=HO.o;have HOW:=Zh (show wr.drew.ownsRow s0 ART 6 (.slice oa T.length oc) T.length yss.flatten from ho);have hsw:s0≤wr.drew.heap.size:=by show s0≤wr.heap.size;have:=HBI.o.size;omega
      have PUSH:=Zh (show ∀g cap w9,w9.ownsRow s0 ART 6 (.slice (some ⟨g,0,none⟩) (T.length+1) cap) (T.length+1) (yss.flatten++[iv (q:Int),iv t.gen.width,.slice ga t.gen.words.length gc,iv t.kill.width,.slice ka t.kill.words.length kc,.slice ca t.cops.length cc])→wr.drew.grownBy w9 (Value.slice oa T.length oc).ownBlock →
        Below s0 wo w9∧QG QKu s0 w9 (.slice (some ⟨g,0,none⟩) (T.length+1) cap) (T++[((q:Int),t)]) from fun g cap w9 ho2 hg=>
       ⟨HBI.o.drew.trans (Below.of_grown hg HOW.o hsw),QG.push (E:=QKu) (w:=wr.drew) HOW.o (All2.mono (R:=QKu.C wr) (S:=QKu.C wr.drew) (fun _ _ hc=>QKu.keep (w:=wr) (w':=wr.drew) (fun _ _=>(fun _ _ _ _ _ e=>e)) hc) hyx) hg ho2 ⟨_,_,_,rfl,HTW.o.keep (fun _ _ _ _ _ h=>h) (fun _ _ _ _ _ h=>h)⟩ (inA (U:=ART) ZD ZD) hsb⟩)
      clear hx hx0 hx1 ht u0 hcs2 a0 a1 a2 a3 a4 htu hT ho hyx HO;go_wp2_with fail;clear x0 x1 x2 x3 c1w;go_region_held3 (fun wx=>wx.cell? ⟨z,1,none⟩=some (.slice (some ⟨d1b,d1o,none⟩) bn dc)∧wx.cell? ⟨z,2,none⟩=some (.slice (some ⟨d2b,d2o,none⟩) bn tc)∧wx.cell? ⟨d1b,d1o+k,none⟩=some (.slice (some ⟨ub,uo,none⟩) un uc)∧wx.cell? ⟨ub,uo+j,none⟩=some (iv (q:Int))∧wx.cell? ⟨d2b,d2o+q*5,none⟩=some (iv t.gen.width)∧wx.cell? ⟨d2b,d2o+q*5+1,none⟩=some (.slice ga t.gen.words.length gc)∧wx.cell? ⟨d2b,d2o+q*5+2,none⟩=some (iv t.kill.width)∧wx.cell? ⟨d2b,d2o+q*5+3,none⟩=some (.slice ka t.kill.words.length kc)∧wx.cell? ⟨d2b,d2o+q*5+4,none⟩=some (.slice ca t.cops.length cc)) (first|exact HSS.o _ (Below.refl _ _)|exact HSS.o _ (Below.refl _ _).drew|exact HSS.o _ (Zb).drew|exact HSS.o _ ((Below.refl _ _).drew.alloc (Nat.le_refl _) _)|exact HSW.o _ HP.o.1|go_keep) (first|(refine QYu [iv (q:Int),iv t.gen.width,.slice ga t.gen.words.length gc,iv t.kill.width,.slice ka t.kill.words.length kc,.slice ca t.cops.length cc] rfl (.tmp 36) (.tmp 58) 67 (by rfl) s0 ART _ 6 96 Tryz.underlying67 Qiv rfl ZO _ T.length _ HOW.o (by rfl) (by rfl) rfl rfl (by unfold maxLen;omega) ZO hsw ?_;intro g cap w9 ho hg hzg hzh;have HP:=Zh (PUSH.o g cap w9 ho hg);clear ho hg hzg hzh));have HO9:=Zh (HTK2.o▸HP.o.2);go_wp2;go_roundw
      case rel=>exact⟨j+1,by omega,by go_num,HP.o.1,HO9.o⟩
      case measure=>simp[intOf];omega
     ·obtain rfl:j=un:=by omega
      have hTK:R.take j=R:=List.take_of_length_le (by rw[HRL.o];exact Nat.le_refl _);rw[hTK] at HO ⊢;have HLT:=Zh (show ∀v∈vs,∀b,v.ownBlock=some b→b<s0 from fun v hv b hb=>HS0.o▸I.o.ar.lt v hv b hb);have hkl:vs.length≤256:=by omega
      obtain⟨e0,e1,e2⟩:=QVa HIW.o.cur;have hIo:wr.ownsRow z ARS 1 (.slice aa k ac) vs.length vs:=by have:=HIW.o.own;rw[hvl] at this ⊢;exact this
      have HIO:=Zh hIo;rw[hvl] at e2;have PUSH:=Zh (show ∀g cap w9,w9.ownsRow z ARS 1 (.slice (some ⟨g,0,none⟩) (vs.length+1) cap) (vs.length+1) (vs++[.slice oa R.length oc])→wr.grownBy w9 (Value.slice aa k ac).ownBlock →
        WbIn z c w (w9.setCell ⟨c,2,none⟩ (.slice (some ⟨g,0,none⟩) (k+1) cap)) sw #[iv sw,.slice (some ⟨d1b,d1o,none⟩) bn dc,.slice ta bn tc,.slice ba bn bc] (.slice va vn vc) (.slice (some ⟨g,0,none⟩) (k+1) cap) s.bnds (vs++[.slice oa R.length oc]) ((s.deps.take (k+1)).map (QSu s))∧w9.heap[c]? = some (.cells #[iv sw,.slice va vn vc,.slice aa k ac] WBT (0,0)) from fun g cap w9 ho hg=>by
       rw[HTK.o];have h1:=HIW.o.push HO.o hzs HLT.o ho (by rw[hvl];exact hg);rw[hvl] at h1;exact h1)
      clear hTK hIo;have hzw:=HIW.o.zs;go_wp2_with (at_builtin;refine QL [.slice oa R.length oc] rfl _ _ _ rfl z ARS _ 1 24 Tryz.underlying61 QOv rfl ZO _ vs.length _ HIO.o rfl rfl rfl rfl (by unfold maxLen;omega) ZO hzw ?_;intro g cap w9 ho hg hzg _;have HP9:=Zh (PUSH.o g cap w9 ho hg);have v2:=(Qa HP9.o.2).1 2;have v3:=(Qa HP9.o.2).2 2;simp only[Zx,Zy,Zz] at v2;clear ho hg hzg);go_roundw
      case rel=>exact⟨k+1,vs++[Value.slice oa R.length oc],Value.slice (some ⟨g,0,none⟩) (k+1) cap,by omega,by go_num,by rw[List.length_append,hvl];rfl,HP9.o.1⟩
      case measure=>simp[intOf];omega
   ·obtain rfl:k=bn:=by omega
    have HTK:=Zh (show(s.deps.take k).map (QSu s)=(QQu s).arcs by rw[Qbv,List.take_of_length_le (by rw[HDN.o];exact Nat.le_refl _)]);obtain⟨e0,e1,e2⟩:=QVa I.o.cur;obtain⟨f1,f2,f3,f4,f5⟩:=I.o.fin (iv sw) (.slice va vn vc) (.slice aa vs.length ac);obtain⟨r0,r1,r2⟩:=QVa f5;rw[hvl] at e2 r0 r1 r2;have F:=Zh (And.intro f1 (And.intro f2 (And.intro f3 f4)));have hcz:z+1≠c:=by have:=I.o.old;omega
    have HRS:=(Qa I.o.res).2;have hs0:=(Qa I.o.res).1;have q0:=hs0 0;have q1:=hs0 1;have q2:=hs0 2;have p0:=HRS 0;have p1:=HRS 1;have p2:=HRS 2;simp only[Zx,Zy,Zz] at q0 q1 q2;clear f1 f2 f3 f4 f5 HRS hs0;go_wp2;refine bodyPost_ret (v:=.tuple #[.agg #[iv sw,.slice va vn vc,.slice aa k ac],iv 0]) (by simp[results,Tryz.results22,go_sem,r0,r1,r2,hcz]) rfl ?_;rw[HE.o];refine⟨.slice va vn vc,.slice aa k ac,vs,?_,?_⟩
    ·show Ending.returned _=.returned (.tuple #[.agg #[iv s.width,_,_],iv 0]);rw[HSW.o]
    ·obtain⟨g1,g2,g3,g4⟩:=F.o;rw[hvl] at g1 g2 g3 g4;rw[HZ.o,hvl,←HTK.o];exact⟨g1,g2,g3,g4⟩
end
end Go.Proofs.YtijekimobahgpaaGreatDoor
