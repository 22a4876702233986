/- A part of the proof. -/
import Derived.Test.YtijekimobahgpaaGreatDoorVa25
import Derived.Test.YtijekimobahgpaaGreatDoorVa20
set_option linter.unusedVariables false
set_option linter.unusedSimpArgs false
set_option linter.unusedSectionVars false
set_option maxRecDepth 100000
set_option maxHeartbeats 16000000
namespace Go.Proofs.YtijekimobahgpaaGreatDoor
section
open Go.RowKit
variable [Base]
theorem QJp {l:List Int}{n:Int}{i:Nat}(hA:Asc l)(hi:i≤l.length)(h1:∀j x,j<i→l[j]? = some x→x<n)(h2:∀x,l[i]? = some x→n<x):insI l n=l.take i++n::l.drop i:=by
 have hgt:∀j x,i≤j→l[j]? = some x→n<x:=fun j x hj hx=>by
  have hjl:=(List.getElem?_eq_some_iff.1 hx).1;have hil:i<l.length:=by omega
  have h3:=h2 _ (List.getElem?_eq_getElem hil);rcases Nat.eq_or_lt_of_le hj with rfl|hlt
  ·rw[List.getElem?_eq_getElem hil] at hx;injection hx with hx;omega
  ·have:=(List.pairwise_iff_getElem.1 hA) i j hil hjl hlt;rw[List.getElem?_eq_getElem hjl] at hx;injection hx with hx
   omega
 have hn:n∉l:=fun h=>by
  obtain⟨j,hj⟩:=List.mem_iff_getElem?.1 h;rcases Nat.lt_or_ge j i with h3|h3
  ·have:=h1 j n h3 hj;omega
  ·have:=hgt j n h3 hj;omega
 unfold insI;rw[if_neg hn];have hT:∀(l:List Int) (i:Nat),i≤l.length→(∀j x,j<i→l[j]? = some x→x<n)→(∀x,l[i]? = some x→¬x<n)→l.takeWhile (decide <| · < n)=l.take i∧l.dropWhile (decide <| · < n)=l.drop i:=fun l=>by
  induction l with
 |nil=>intro i hi _ _;simp
 |cons y r ih=>
   intro i hi h1 h2
   cases i with
  |zero=>
    have:=h2 y rfl;simp[this]
  |succ i=>
    have h3:=h1 0 y ZO rfl;obtain⟨k1,k2⟩:=ih i (by simpa using hi) (fun j x hj hx=>h1 (j+1) x ZO (by simpa using hx)) (fun x hx=>h2 x (by simpa using hx));simp[h3,k1,k2]
 obtain⟨k1,k2⟩:=hT l i hi h1 (fun x hx=>by have:=h2 x hx;omega);rw[k1,k2]
theorem Qwc {w:World}{k:Nat}(h:w.heap.size=k):(w.alloc (.cells #[] 3)).ownsRow k 3 1 (.slice (some ⟨k,0,none⟩) 0 0) 0 []:=by
 subst h;exact⟨rfl,.inr ⟨w.heap.size,0,#[],rfl,Nat.le_refl _,heap_alloc_new w _,Nat.le_refl _,Nat.zero_le _,rfl,rfl⟩⟩
def QAh (w:World)(v:Value)(l:List Int):Prop:=QJa w v l∧((v=.slice none 0 0∧l=[])∨∃b o c,v=.slice (some ⟨b,o,none⟩) l.length c)
def QCu (l:List Int)(w:World)(e:Ending)(w':World):Prop:=∃v,e=.returned v∧QAh w' v l∧Below w.heap.size w w'
theorem Qyo (l:List Int)(x:Int)(u:Value)(w:World)(hu:QAh w u l)(hA:Asc l)(hn:l.length≤1000)(hbs:Base.b≤w.heap.size):Calls Tryz.prog 65 #[u,iv x] w (QCu (insI l x) w):=by
 have FINB:=Zh (show ∀(v:Value) (w':World) (L:List Int) (n:Nat),L.length=n→0<n→w'.ownsRow w.heap.size 3 1 v n (L.map iv)→QAh w' v L from fun v w' L n hl h0 ho=>by
  subst hl;obtain⟨a,c,rfl,-,-⟩:=QXa ho;obtain⟨g,rfl,-⟩:=QWd ho h0 hbs;exact⟨Qg.of_owns ho,.inr ⟨_,_,_,rfl⟩⟩)
 rcases hu.2 with⟨rfl,rfl⟩|⟨b,o,c,rfl⟩
 ·have HE:=Zh (show insI [] x=[x] from rfl);clear hu hA hn;go_enter Tryz.func65,Tryz.ntmps65;go_wp2;refine wp_loop_rounds 1 ?_;rw[rounds_succ];go_wp2_with (first
  |(at_builtin;refine wpList_append_sl rfl _ _ 22 rfl w.heap.size 3 _ 1 8 Tryz.underlying22 QRa rfl ZD _ _ _ (Qwc rfl) rfl _ 0 ([]:List Value) rfl Qg.nil (by simp;try omega) (by simp[Value.oneCell']) (by unfold maxLen;omega) ZO ZS ?_
    intro g c1 w1 ho hg;rw[Nat.zero_add] at ho ⊢;rw[List.nil_append] at ho;have BA:=((Below.refl w.heap.size w).alloc (Nat.le_refl _) (.cells #[] 3)).trans (Below.of_grown hg (Qwc rfl) ZS);have B1:=Zh (BA:Below w.heap.size w w1);have HO1:=Zh ho;have hw1:w.heap.size≤w1.heap.size:=BA.size;clear ho hg BA)
  |(at_builtin;refine QL [iv x] rfl _ _ _ rfl w.heap.size 3 _ 1 8 Tryz.underlying22 QRa rfl ZO _ _ _ HO1.o rfl rfl rfl rfl (by unfold maxLen;omega) ZO hw1 ?_
    intro g2 c2 w2 ho hg hgz hgw;have B2:=Zh (B1.o.trans (Below.of_grown hg HO1.o hw1):Below w.heap.size w w2);have HO2:=Zh ho;have hw2:w.heap.size≤w2.heap.size:=B2.o.size;clear ho hg hgz hgw)
  |(at_builtin;refine wpList_append_sl rfl _ _ 22 rfl w.heap.size 3 _ 1 8 Tryz.underlying22 QRa rfl ZD _ _ _ HO2.o rfl _ 0 ([]:List Value) rfl ((Qg.nil:Qg w2 3 1 (.slice none 0 0) [])) (by simp;try omega) (by simp[Value.oneCell']) (by unfold maxLen;omega) ZO hw2 ?_
    intro g3 c3 w3 ho hg;have B3:=Zh (B2.o.trans (Below.of_grown hg HO2.o hw2):Below w.heap.size w w3);have HO3:=Zh ho;clear ho hg))
  go_ret;exact⟨_,rfl,by rw[HE.o];exact FINB.o _ _ [x] 1 rfl ZO (by simpa using HO3.o),B3.o⟩
 ·have HU:=Zh hu.1;obtain⟨a',c',e,hm,hlc,-,hc⟩:=hu.1.cell;injection e with e1 e2 e3
  subst e1 e3;have HC:=Zh hc;have HAS:=Zh hA;obtain⟨n,hln⟩:=Ze l.length;rw[hln] at HU hn hm hlc ⊢;have HL:=Zh hln;clear hu hA hc hln;go_enter Tryz.func65,Tryz.ntmps65;go_wp2;go_loopw [5] (fun y wr=>∃i:Nat,i≤n∧y=.int .i64 i∧w=wr∧Hid (∀j y,j<i→l[j]? = some y→y<x)) (fun y _=>n-(intOf y).toNat)
  case atStart=>exact⟨0,Nat.zero_le _,rfl,rfl,fun j y hj=>by omega⟩
  case round=>
   obtain⟨i,hi,rfl,rfl,HI⟩:=hrel;by_cases hlt:i<n
   ·obtain⟨y,hy⟩:∃y,l[i]? = some y:=⟨_,List.getElem?_eq_getElem (by rw[HL.o];exact hlt)⟩;obtain⟨jb,jo,e,hjb,g0⟩:=HC.o i y hy;injection e with e
    injection e with e1 e2
    subst e1 e2;by_cases h1:y<x
    ·have t1:decide (y<x)=true:=by simpa using h1
     have HI2:=Zh (show ∀j y,j<i+1→l[j]? = some y→y<x from fun j y' hj h=>by
      rcases Nat.lt_or_eq_of_le (Nat.le_of_lt_succ hj) with h2|h2
      ·exact HI.o j y' h2 h
      ·subst h2;rw[hy] at h;injection h with h;omega)
     clear hy h1;go_wp2;go_roundw
     case rel=>exact⟨i+1,by omega,by go_num,(by first|rfl|trivial),HI2⟩
     case measure=>simp[intOf];omega
    ·have t1:decide (y<x)=false:=by simpa using h1
     by_cases h2:y=x
     ·have t2:(y==x)=true:=by simpa using h2
      have HE:=Zh (show insI l x=l by unfold insI;rw[if_pos (h2▸List.mem_of_getElem? hy)]);clear hy h1 h2;go_wp2;go_ret;exact⟨.slice (some ⟨b,o,none⟩) n c,rfl,by rw[HE.o];exact⟨HU.o,.inr ⟨_,_,_,by rw[HL.o]⟩⟩,Below.refl _ _⟩
     ·have t2:(y==x)=false:=by simpa using h2
      have HE:=Zh (show insI l x=l.take i++x::l.drop i from QJp HAS.o (by rw[HL.o];exact hi) HI.o (fun y' h=>by rw[hy] at h;injection h with h;omega));clear hy h1 h2;go_wp2_with (first
      |(at_builtin;refine wpList_append_sl rfl _ _ 22 rfl w.heap.size 3 _ 1 8 Tryz.underlying22 QRa rfl ZD _ _ _ (Qwc rfl) rfl _ i (l.map iv |>.take (i*1)) rfl (Qg.same (Qg.front HU.o i hi) Qf.alloc) (by simp[HL.o];try omega) (Qil (by simp[Value.oneCell']) _) (by unfold maxLen;omega) ZO ZS ?_
        intro g c1 w1 ho hg;rw[Nat.zero_add] at ho ⊢;rw[List.nil_append] at ho;have BA:=((Below.refl w.heap.size w).alloc (Nat.le_refl _) (.cells #[] 3)).trans (Below.of_grown hg (Qwc rfl) ZS);have B1:=Zh (BA:Below w.heap.size w w1);have HO1:=Zh ho;have hw1:w.heap.size≤w1.heap.size:=BA.size;clear ho hg BA)
      |(at_builtin;refine QL [iv x] rfl _ _ _ rfl w.heap.size 3 _ 1 8 Tryz.underlying22 QRa rfl ZO _ _ _ HO1.o rfl rfl rfl rfl (by unfold maxLen;omega) ZO hw1 ?_
        intro g2 c2 w2 ho hg hgz hgw;have B2:=Zh (B1.o.trans (Below.of_grown hg HO1.o hw1):Below w.heap.size w w2);have HO2:=Zh ho;have hw2:w.heap.size≤w2.heap.size:=B2.o.size;clear ho hg hgz hgw)
      |(at_builtin;refine wpList_append_sl rfl _ _ 22 rfl w.heap.size 3 _ 1 8 Tryz.underlying22 QRa rfl ZD _ _ _ HO2.o rfl _ (n-i) (l.map iv |>.drop i) rfl (by have h:=Qg.same (Qg.back HU.o i hi) (Qf.below B2.o);rw[Nat.mul_one] at h;exact h) (by simp[HL.o];try omega) (QBt (by simp[Value.oneCell']) _) (by unfold maxLen;omega) ZO hw2 ?_
        intro g3 c3 w3 ho hg;have B3:=Zh (B2.o.trans (Below.of_grown hg HO2.o hw2):Below w.heap.size w w3);have HO3:=Zh ho;clear ho hg))
      go_ret;exact⟨_,rfl,by
       rw[HE.o];refine FINB.o _ _ _ (i+1+(n-i)) (by simp[HL.o];omega) ZO ?_;have h:=HO3.o;rw[Nat.mul_one,←List.map_take,←List.map_drop] at h
       simpa using h,B3.o⟩
   ·obtain rfl:i=n:=by omega
    have HE:=Zh (show insI l x=l.take i++x::l.drop i from QJp HAS.o (by rw[HL.o];exact Nat.le_refl _) HI.o (fun y' h=>by
     have:=(List.getElem?_eq_some_iff.1 h).1;rw[HL.o] at this;omega))
    have HDR:=Zh (show(l.map iv).drop (i*1)=[] from List.drop_eq_nil_of_le (by rw[List.length_map,HL.o];omega));by_cases hcap:c=i
    ·subst hcap;go_wp2_with (first
     |(at_builtin;refine wpList_append_sl rfl _ _ 22 rfl w.heap.size 3 _ 1 8 Tryz.underlying22 QRa rfl ZD _ _ _ (Qwc rfl) rfl _ c (l.map iv |>.take (c*1)) rfl (Qg.same (Qg.front HU.o c hi) Qf.alloc) (by simp[HL.o];try omega) (Qil (by simp[Value.oneCell']) _) (by unfold maxLen;omega) ZO ZS ?_
       intro g c1 w1 ho hg;rw[Nat.zero_add] at ho ⊢;rw[List.nil_append] at ho;have BA:=((Below.refl w.heap.size w).alloc (Nat.le_refl _) (.cells #[] 3)).trans (Below.of_grown hg (Qwc rfl) ZS);have B1:=Zh (BA:Below w.heap.size w w1);have HO1:=Zh ho;have hw1:w.heap.size≤w1.heap.size:=BA.size;clear ho hg BA)
     |(at_builtin;refine QL [iv x] rfl _ _ _ rfl w.heap.size 3 _ 1 8 Tryz.underlying22 QRa rfl ZO _ _ _ HO1.o rfl rfl rfl rfl (by unfold maxLen;omega) ZO hw1 ?_
       intro g2 c2 w2 ho hg hgz hgw;have B2:=Zh (B1.o.trans (Below.of_grown hg HO1.o hw1):Below w.heap.size w w2);have HO2:=Zh ho;have hw2:w.heap.size≤w2.heap.size:=B2.o.size;clear ho hg hgz hgw)
     |(at_builtin;refine wpList_append_sl rfl _ _ 22 rfl w.heap.size 3 _ 1 8 Tryz.underlying22 QRa rfl ZD _ _ _ HO2.o rfl _ 0 [] rfl (by
        have h:=fun o'=>Qg.same (Qg.backEnd (o:=o') HU.o c rfl) (Qf.below B2.o)
        simp only[Nat.sub_self,HDR.o] at h;exact h _) ZS rfl (by unfold maxLen;omega) ZO hw2 ?_
       intro g3 c3 w3 ho hg;have B3:=Zh (B2.o.trans (Below.of_grown hg HO2.o hw2):Below w.heap.size w w3);have HO3:=Zh ho;clear ho hg))
     go_ret;exact⟨_,rfl,by
      rw[HE.o];refine FINB.o _ _ _ (c+1+0) (by simp[HL.o]) ZO ?_;have h:=HO3.o;have e:l.drop c=[]:=List.drop_eq_nil_of_le (by rw[HL.o];exact Nat.le_refl _);rw[Nat.mul_one,←List.map_take] at h;rw[e]
      simpa using h,B3.o⟩
    ·have hcap2:¬i=c:=fun h=>hcap h.symm
     go_wp2_with (first
     |(at_builtin;refine wpList_append_sl rfl _ _ 22 rfl w.heap.size 3 _ 1 8 Tryz.underlying22 QRa rfl ZD _ _ _ (Qwc rfl) rfl _ i (l.map iv |>.take (i*1)) rfl (Qg.same (Qg.front HU.o i hi) Qf.alloc) (by simp[HL.o];try omega) (Qil (by simp[Value.oneCell']) _) (by unfold maxLen;omega) ZO ZS ?_
       intro g c1 w1 ho hg;rw[Nat.zero_add] at ho ⊢;rw[List.nil_append] at ho;have BA:=((Below.refl w.heap.size w).alloc (Nat.le_refl _) (.cells #[] 3)).trans (Below.of_grown hg (Qwc rfl) ZS);have B1:=Zh (BA:Below w.heap.size w w1);have HO1:=Zh ho;have hw1:w.heap.size≤w1.heap.size:=BA.size;clear ho hg BA)
     |(at_builtin;refine QL [iv x] rfl _ _ _ rfl w.heap.size 3 _ 1 8 Tryz.underlying22 QRa rfl ZO _ _ _ HO1.o rfl rfl rfl rfl (by unfold maxLen;omega) ZO hw1 ?_
       intro g2 c2 w2 ho hg hgz hgw;have B2:=Zh (B1.o.trans (Below.of_grown hg HO1.o hw1):Below w.heap.size w w2);have HO2:=Zh ho;have hw2:w.heap.size≤w2.heap.size:=B2.o.size;clear ho hg hgz hgw)
     |(at_builtin;refine wpList_append_sl rfl _ _ 22 rfl w.heap.size 3 _ 1 8 Tryz.underlying22 QRa rfl ZD _ _ _ HO2.o rfl _ 0 [] rfl (by
        have h:=fun o'=>Qg.same (Qg.backEnd (o:=o') HU.o i rfl) (Qf.below B2.o)
        simp only[Nat.sub_self,HDR.o] at h;exact h _) ZS rfl (by unfold maxLen;omega) ZO hw2 ?_
       intro g3 c3 w3 ho hg;have B3:=Zh (B2.o.trans (Below.of_grown hg HO2.o hw2):Below w.heap.size w w3);have HO3:=Zh ho;clear ho hg))
     go_ret;exact⟨_,rfl,by
      rw[HE.o];refine FINB.o _ _ _ (i+1+0) (by simp[HL.o]) ZO ?_;have h:=HO3.o;have e:l.drop i=[]:=List.drop_eq_nil_of_le (by rw[HL.o];exact Nat.le_refl _);rw[Nat.mul_one,←List.map_take] at h;rw[e]
      simpa using h,B3.o⟩
end
section
open Go.RowKit
variable [Base]
abbrev SYT:TypeId:=36
abbrev GRT:TypeId:=46
structure QKd (w:World)(dv tv bv:Value)(s:SysS):Prop where
 deps:Qoa Qqc w dv s.deps
 trans:Qoa trEl w tv s.trans
 bnds:Qoa Qsa w bv s.bnds
theorem QKd.keep {w w':World}{dv tv bv:Value}{s:SysS}(h:QKd w dv tv bv s)(hs:∀U∈[IT,IN,FNA,ST,139,CT],Qf U w w'):QKd w' dv tv bv s:=
 ⟨h.deps.keep fun U hU=>hs U (by simp[Qqc] at hU;rcases hU with rfl|rfl <;> simp),h.trans.keep fun U hU=>hs U (by simp[trEl] at hU;rcases hU with rfl|rfl|rfl <;> simp),h.bnds.keep fun U hU=>hs U (by simp[Qsa] at hU;rcases hU with rfl|rfl <;> simp)⟩
theorem QKd.below {w w':World}{dv tv bv:Value}{s:SysS}(h:QKd w dv tv bv s)(b:Below w.heap.size w w'):QKd w' dv tv bv s:=h.keep fun _ _=>Qf.below b
abbrev sysV (s:SysS)(dv tv bv:Value):Value:=.agg #[iv s.width,dv,tv,bv]
def SysE (r:SysS×Int)(w:World)(e:Ending)(w':World):Prop:=∃dv tv bv,e=.returned (.tuple #[sysV r.1 dv tv bv,iv r.2])∧QKd w' dv tv bv r.1∧Below w.heap.size w w'
theorem Qiu {w:World}{b:Nat}{a0 a1 a2 a3:Value}{t:TypeId}{fr:Nat×Nat}(h:w.heap[b]? = some (.cells #[a0,a1,a2,a3] t fr))(x:Value):
  (w.setCell ⟨b,2,none⟩ x).heap[b]? = some (.cells #[a0,a1,x,a3] t fr):=by
 simp[World.setCell,Array.getElem?_modify,h]
theorem Qhu {w:World}{b:Nat}{a0 a1 a2 a3:Value}{t:TypeId}{fr:Nat×Nat}(h:w.heap[b]? = some (.cells #[a0,a1,a2,a3] t fr))(x:Value):
  (w.setCell ⟨b,3,none⟩ x).heap[b]? = some (.cells #[a0,a1,a2,x] t fr):=by
 simp[World.setCell,Array.getElem?_modify,h]
theorem Qsg {T U:TypeId}{w:World}{b:Nat}(h:tyAt w b=some U)(hne:T≠U)(x0 x1 x2 x3:Value):Qf T w ((((w.setCell ⟨b,0,none⟩ x0).setCell ⟨b,1,none⟩ x1).setCell ⟨b,2,none⟩ x2).setCell ⟨b,3,none⟩ x3):=by
 have s:∀(w:World) (o:Nat) (x:Value),tyAt w b=some U→Qf T w (w.setCell ⟨b,o,none⟩ x)∧tyAt (w.setCell ⟨b,o,none⟩ x) b=some U:=fun w o x h=>⟨Qf.setCell h hne,by rw[QS];exact h⟩
 have s0:=s w 0 x0 h;have s1:=s _ 1 x1 s0.2;have s2:=s _ 2 x2 s1.2;have s3:=s _ 3 x3 s2.2;exact s0.1.trans (s1.1.trans (s2.1.trans s3.1))
structure OfS (oq m:Nat)(w8 w:World)(dv tv bv:Value)(ts:List Qw)(bs:List QSet):Prop where
 bsz:Base.b≤oq
 zs:w8.heap.size=oq
 below:Below oq w8 w
 ob:w.heap[oq]? = some (.cells #[iv m,dv,tv,bv] SYT (0,0))
 tr:QG trEl (oq+1) w tv ts
 bd:QG Qsa (oq+1) w bv bs
section
variable {oq m:Nat} {w8 w w':World} {dv tv bv:Value} {ts:List Qw} {bs:List QSet}
theorem OfS.lt (h:OfS oq m w8 w dv tv bv ts bs):oq<w.heap.size:=Qb h.ob
theorem OfS.next (h:OfS oq m w8 w dv tv bv ts bs)(b:Below w.heap.size w w'):OfS oq m w8 w' dv tv bv ts bs:=
 ⟨h.bsz,h.zs,h.below.trans (b.mono (by have:=h.lt;omega)),Qc h.ob b (Qb h.ob),h.tr.below b,h.bd.below b⟩
theorem OfS.pushT (h:OfS oq m w8 w dv tv bv ts bs){xss:List (List Value)}(ho:w.ownsRow (oq+1) FNA 5 tv ts.length xss.flatten)(hx:All2 (trEl.C w) xss ts){t:Qw}{gu ku cu:Value}(ht:Qja w gu ku cu t){g cap:Nat}(ho2:w'.ownsRow (oq+1) FNA 5 (.slice (some ⟨g,0,none⟩) (ts.length+1) cap) (ts.length+1) (xss.flatten++[iv t.gen.width,gu,iv t.kill.width,ku,cu]))(hg:w.grownBy w' tv.ownBlock):
  OfS oq m w8 (w'.setCell ⟨oq,2,none⟩ (.slice (some ⟨g,0,none⟩) (ts.length+1) cap)) dv (.slice (some ⟨g,0,none⟩) (ts.length+1) cap) bv (ts++[t]) bs∧w'.heap[oq]? = some (.cells #[iv m,dv,tv,bv] SYT (0,0)):=by
 have hlt:=h.lt;have hbz:=h.bsz;have hzw:oq+1≤w.heap.size:=hlt;have hbw:Below (oq+1) w w':=Below.of_grown hg ho hzw;have hob:w'.heap[oq]? = some (.cells #[iv m,dv,tv,bv] SYT (0,0)):=(hbw.block oq ZO).trans h.ob;have hT:tyAt w' oq=some SYT:=Qv hob ZO;have hs:∀U,U≠FNA→U≠SYT→Qf U w (w'.setCell ⟨oq,2,none⟩ (.slice (some ⟨g,0,none⟩) (ts.length+1) cap)):=fun U h1 h2=>(Qf.grown hg ho h1).trans (Qf.setCell (U:=SYT) hT h2)
 refine⟨⟨h.bsz,h.zs,(h.below.trans (hbw.mono ZO)).setCell (by show oq≤oq;omega) _,Qiu hob _,?_,?_⟩,hob⟩
 ·refine QG.snoc (E:=trEl) (v:=tv) (Qza ho2 hT (show FNA≠SYT by decide)) (hx.mono fun _ _ hc=>trEl.keep (fun U hU=>?_) hc) ⟨gu,ku,cu,rfl,ht.keep (hs _ ZD ZD) (hs _ ZD ZD)⟩;have h2:U=139∨U=CT:=by simpa [trEl] using hU
  rcases h2 with rfl|rfl
  ·exact hs _ ZD ZD
  ·exact hs _ ZD ZD
 ·obtain⟨yss,hy,hyx⟩:=h.bd;refine⟨yss,Qza (QWb hy ho hg (show ST≠FNA by decide)) hT (show ST≠SYT by decide),hyx.mono fun _ _ hc=>Qsa.keep (fun U hU=>?_) hc⟩;obtain rfl:U=139:=by simpa [Qsa] using hU
  exact hs _ ZD ZD
theorem OfS.pushB (h:OfS oq m w8 w dv tv bv ts bs){xss:List (List Value)}(ho:w.ownsRow (oq+1) ST 2 bv bs.length xss.flatten)(hx:All2 (Qsa.C w) xss bs){s:QSet}{u:Value}(ht:Qi w u s.words){g cap:Nat}(ho2:w'.ownsRow (oq+1) ST 2 (.slice (some ⟨g,0,none⟩) (bs.length+1) cap) (bs.length+1) (xss.flatten++[iv s.width,u]))(hg:w.grownBy w' bv.ownBlock):
  OfS oq m w8 (w'.setCell ⟨oq,3,none⟩ (.slice (some ⟨g,0,none⟩) (bs.length+1) cap)) dv tv (.slice (some ⟨g,0,none⟩) (bs.length+1) cap) ts (bs++[s])∧w'.heap[oq]? = some (.cells #[iv m,dv,tv,bv] SYT (0,0)):=by
 have hlt:=h.lt;have hbz:=h.bsz;have hzw:oq+1≤w.heap.size:=hlt;have hbw:Below (oq+1) w w':=Below.of_grown hg ho hzw;have hob:w'.heap[oq]? = some (.cells #[iv m,dv,tv,bv] SYT (0,0)):=(hbw.block oq ZO).trans h.ob;have hT:tyAt w' oq=some SYT:=Qv hob ZO;have hs:∀U,U≠ST→U≠SYT→Qf U w (w'.setCell ⟨oq,3,none⟩ (.slice (some ⟨g,0,none⟩) (bs.length+1) cap)):=fun U h1 h2=>(Qf.grown hg ho h1).trans (Qf.setCell (U:=SYT) hT h2)
 refine⟨⟨h.bsz,h.zs,(h.below.trans (hbw.mono ZO)).setCell (by show oq≤oq;omega) _,Qhu hob _,?_,?_⟩,hob⟩
 ·obtain⟨yss,hy,hyx⟩:=h.tr;refine⟨yss,Qza (QWb hy ho hg (show FNA≠ST by decide)) hT (show FNA≠SYT by decide),hyx.mono fun _ _ hc=>trEl.keep (fun U hU=>?_) hc⟩;have h2:U=139∨U=CT:=by simpa [trEl] using hU
  rcases h2 with rfl|rfl
  ·exact hs _ ZD ZD
  ·exact hs _ ZD ZD
 ·refine QG.snoc (E:=Qsa) (v:=bv) (Qza ho2 hT (show ST≠SYT by decide)) (hx.mono fun _ _ hc=>Qsa.keep (fun U hU=>?_) hc) ⟨u,rfl,ht.keep (hs _ ZD ZD)⟩;obtain rfl:U=139:=by simpa [Qsa] using hU
  exact hs _ ZD ZD
end
theorem QFi:(Tryz.prog.info? FNA).map (fun i=>(i.zero,i.size,i.bytes))=some (some (Value.agg #[iv 0,.slice none 0 0,iv 0,.slice none 0 0,.slice none 0 0]),5,88):=by kernel_rfl
theorem Qwi {α β:Type}{l:List α}{k:Nat}{x:α}(f:Nat→α→β)(h:l[k]? = some x):(l.take (k+1)).mapIdx f=(l.take k).mapIdx f++[f k x]:=by
 rw[List.take_add_one,h];have hl:(l.take k).length=k:=by
  have:=(List.getElem?_eq_some_iff.1 h).1;rw[List.length_take];omega
 simp[List.mapIdx_append,hl]
end
end Go.Proofs.YtijekimobahgpaaGreatDoor
