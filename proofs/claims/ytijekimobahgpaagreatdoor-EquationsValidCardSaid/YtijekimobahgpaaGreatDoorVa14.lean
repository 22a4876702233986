/- A part of the proof. -/
import Derived.Test.YtijekimobahgpaaGreatDoorVa13
import Derived.Test.YtijekimobahgpaaGreatDoorVa10
set_option linter.unusedVariables false
set_option linter.unusedSimpArgs false
set_option linter.unusedSectionVars false
set_option maxRecDepth 100000
set_option maxHeartbeats 16000000
namespace Go.Proofs.YtijekimobahgpaaGreatDoor
section
open Go.RowKit
variable [Base]
abbrev CT:TypeId:=119
def copV (c:Cp):List Value:=[iv c.1,iv c.2]
def QHa (l:List Cp):List Value:=(l.map copV).flatten
def QKc (w:World)(v:Value)(l:List Cp):Prop:=Qg w CT 2 v (QHa l)
def Qya (z:Nat)(w:World)(v:Value)(l:List Cp):Prop:=w.ownsRow z CT 2 v l.length (QHa l)
theorem QJk (l:List Cp):∀x∈l.map copV,x.length=2:=fun x hx=>by
 obtain⟨n,-,rfl⟩:=List.mem_map.1 hx
 rfl
theorem QYf (a b:List Cp):QHa (a++b)=QHa a++QHa b:=by simp[QHa]
theorem Qya.at_ {z:Nat}{w:World}{v:Value}{l:List Cp}(h:Qya z w v l):QKc w v l:=Qg.of_owns h
theorem Qya.below {z:Nat}{w w':World}{v:Value}{l:List Cp}(h:Qya z w v l)(b:Below w.heap.size w w'):Qya z w' v l:=QZd h b
theorem Qya.nil {z:Nat}{w:World}:Qya z w (.slice none 0 0) []:=by simp[Qya,World.ownsRow,QHa]
theorem Qya.push {z g cap:Nat}{w:World}{l:List Cp}{n:Cp}(h:w.ownsRow z CT 2 (.slice (some ⟨g,0,none⟩) (l.length+1) cap) (l.length+1) (QHa l++copV n)):Qya z w (.slice (some ⟨g,0,none⟩) (l.length+1) cap) (l++[n]):=by
 unfold Qya;rw[QYf,List.length_append]
 simpa [QHa] using h
theorem QKc.nil {w:World}:QKc w (.slice none 0 0) []:=Qg.nil
theorem QKc.below {w w':World}{v:Value}{l:List Cp}(h:QKc w v l)(b:Below w.heap.size w w'):QKc w' v l:=h.same (Qf.below b)
theorem QKc.cell {w:World}{v:Value}{l:List Cp}(h:QKc w v l):∃a c,v=.slice a l.length c∧l.length≤maxLen∧l.length≤c∧c≤maxLen∧∀k n,l[k]? = some n→∃b off,a=some ⟨b,off,none⟩∧b<w.heap.size ∧
  w.cell? ⟨b,off+k*2,none⟩=some (iv n.1)∧w.cell? ⟨b,off+k*2+1,none⟩=some (iv n.2):=by
 obtain⟨a,c,e,hm,h3,h4,hc⟩:=QYg h (QJk l) ZO;rw[List.length_map] at e hm h3;refine⟨a,c,e,hm,h3,h4,fun k n hk=>?_⟩;have hx:(l.map copV)[k]? = some (copV n):=by rw[List.getElem?_map,hk];rfl
 obtain⟨b,off,rfl,hlt,_,hc2⟩:=hc k _ hx;exact⟨b,off,rfl,hlt,hc2 0 ZO,hc2 1 ZO⟩
theorem Qbf:(Tryz.prog.info? CT).map (fun i=>(i.zero,i.size,i.bytes))=some (some (Value.agg #[iv 0,iv 0]),2,16):=by kernel_rfl
structure Qja (w:World)(gu ku cu:Value)(t:Qw):Prop where
 gen:Qi w gu t.gen.words
 kill:Qi w ku t.kill.words
 cops:QKc w cu t.cops
abbrev trV (t:Qw)(gu ku cu:Value):Value:=.agg #[iv t.gen.width,gu,iv t.kill.width,ku,cu]
theorem Qja.below {w w':World}{gu ku cu:Value}{t:Qw}(h:Qja w gu ku cu t)(b:Below w.heap.size w w'):Qja w' gu ku cu t:=⟨h.gen.below b,h.kill.below b,h.cops.below b⟩
theorem Qja.keep {w w':World}{gu ku cu:Value}{t:Qw}(h:Qja w gu ku cu t)(h1:Qf 139 w w')(h2:Qf CT w w'):Qja w' gu ku cu t:=⟨h.gen.keep h1,h.kill.keep h1,h.cops.same h2⟩
def Qsa:Qlg QSet where
 T:=52
 sz:=2
 pos:=by omega
 C:=fun w cs s=>∃u,cs=[iv s.width,u]∧Qi w u s.words
 inner:=[139]
 len:=fun {w cs x} h=>by obtain⟨u,rfl,-⟩:=h;rfl
 keep:=fun {w w' cs x} hs h=>by
  obtain⟨u,rfl,h⟩:=h
  exact⟨u,rfl,h.keep (hs _ ZS)⟩
def trEl:Qlg Qw where
 T:=55
 sz:=5
 pos:=by omega
 C:=fun w cs t=>∃gu ku cu,cs=[iv t.gen.width,gu,iv t.kill.width,ku,cu]∧Qja w gu ku cu t
 inner:=[139,CT]
 len:=fun {w cs x} h=>by obtain⟨gu,ku,cu,rfl,-⟩:=h;rfl
 keep:=fun {w w' cs x} hs h=>by
  obtain⟨gu,ku,cu,rfl,h⟩:=h
  exact⟨gu,ku,cu,rfl,h.keep (hs _ ZS) (hs _ ZS)⟩
theorem QJ {b:Nat}{w:World}{v0 v1 v2 v3 v4:Value}{t:TypeId}(h:w.heap[b]? = some (.cells #[v0,v1,v2,v3,v4] t (0,0))):
  w.cell? ⟨b,0,none⟩=some v0∧w.cell? ⟨b,1,none⟩=some v1∧w.cell? ⟨b,2,none⟩=some v2∧w.cell? ⟨b,3,none⟩=some v3∧w.cell? ⟨b,4,none⟩=some v4:=by
 simp[World.cell?,h]
def bitB (m x:Int):Bool:=decide (0≤x)&&decide (x<m)
theorem QJl (t:Qw)(ga ka ca:Option Addr)(gn gc kn kc cn cc:Nat)(x:Int)(w:World):Calls Tryz.prog 137 #[trV t (.slice ga gn gc) (.slice ka kn kc) (.slice ca cn cc),iv x] w (Qia (bitB t.gen.width x) w):=by
 obtain⟨⟨gw,gl⟩,⟨kw,kl⟩,cs⟩:=t;simp only[trV];unfold bitB;by_cases h0:0≤x
 ·by_cases h1:x<gw
  ·rw[show decide (0≤x)=true by simpa using h0,show decide (x<gw)=true by simpa using h1];go_enter Tryz.func137,Tryz.ntmps137;go_wp2;go_ret;exact⟨rfl,Zb⟩
  ·rw[show decide (0≤x)=true by simpa using h0,show decide (x<gw)=false by simpa using h1];go_enter Tryz.func137,Tryz.ntmps137;go_wp2;go_ret;exact⟨rfl,Zb⟩
 ·rw[show decide (0≤x)=false by simpa using h0];go_enter Tryz.func137,Tryz.ntmps137;go_wp2;go_ret;exact⟨rfl,Zb⟩
def cmpI (x y:Int):Int:=if x<y then -1 else if y<x then 1 else 0
theorem QRh (x:Int)(w:World):Calls Tryz.prog 226 #[iv x] w (fun e w'=>e=.returned (.bool false)∧w'=w):=by
 go_enter Tryz.func226,Tryz.ntmps226;go_wp2;go_ret;exact⟨by simp,rfl⟩
theorem QSp (x y:Int)(w:World):Calls Tryz.prog 179 #[iv x,iv y] w (fun e w'=>e=.returned (iv (cmpI x y))∧w'=w):=by
 unfold cmpI;by_cases h1:x<y
 ·rw[if_pos h1];go_enter Tryz.func179,Tryz.ntmps179;go_wp2_with (go_at_call 226;refine(QRh _ _).mono ?_;rintro e w' ⟨rfl,rfl⟩);go_ret;exact⟨rfl,rfl⟩
 ·rw[if_neg h1];by_cases h2:y<x
  ·rw[if_pos h2];go_enter Tryz.func179,Tryz.ntmps179;go_wp2_with (go_at_call 226;refine(QRh _ _).mono ?_;rintro e w' ⟨rfl,rfl⟩);go_ret;exact⟨rfl,rfl⟩
  ·rw[if_neg h2];go_enter Tryz.func179,Tryz.ntmps179;go_wp2_with (go_at_call 226;refine(QRh _ _).mono ?_;rintro e w' ⟨rfl,rfl⟩);go_ret;exact⟨rfl,rfl⟩
end
section
open Go.RowKit
variable [Base]
theorem Qwf (w:World)(o:Obj):Below w.heap.size w ((w.drewN 1).alloc o):=(Qp (Below.refl _ _) 1).alloc (Nat.le_refl _) _
theorem Qxt (a b:Int)(g:Nat)(w:World)(hg:w.heap[g]? = some (.cells #[iv a,iv b] 3 (0,0))):Calls Tryz.prog 178 #[.slice (some ⟨g,0,none⟩) 2 2] w (fun e w'=>e=.returned (iv (if a≠0 then a else b))∧w'=w):=by
 obtain⟨x0,x1⟩:=Qq hg;obtain⟨r,hr⟩:=Ze ((if a≠0 then a else b));rw[hr];have HR:=Zh hr;clear hg hr;go_enter Tryz.func178,Tryz.ntmps178;go_wp2;go_loopw [8] (fun y wr=>∃k:Nat,k≤2∧y=.int .i64 k∧w=wr∧(1≤k→a=0)∧(2≤k→b=0)) (fun y _=>2-(intOf y).toNat)
 case atStart=>exact⟨0,by omega,rfl,rfl,by omega,by omega⟩
 case round=>
  obtain⟨k,hk,rfl,rfl,h1,h2⟩:=hrel;have hc:k=0∨k=1∨k=2:=by omega
  rcases hc with rfl|rfl|rfl
  ·clear h1 h2;by_cases ha:a=0
   ·have h3:(a != 0)=false:=by simpa using ha
    have HA:=Zh ha;clear ha;go_wp2;go_roundw
    case rel=>exact⟨1,by omega,rfl,(by first|rfl|trivial),fun _=>HA.o,by omega⟩
    case measure=>simp[intOf]
   ·have h3:(a != 0)=true:=by simpa using ha
    have HA2:=Zh (show r=a by rw[←HR.o];exact if_pos ha);clear ha;go_wp2;rw[HA2.o];go_ret;exact⟨rfl,rfl⟩
  ·have HA:=Zh (h1 ZO);clear h1 h2;by_cases hb:b=0
   ·have h3:(b != 0)=false:=by simpa using hb
    have HB:=Zh hb;clear hb;go_wp2;go_roundw
    case rel=>exact⟨2,by omega,rfl,(by first|rfl|trivial),fun _=>HA.o,fun _=>HB.o⟩
    case measure=>simp[intOf]
   ·have h3:(b != 0)=true:=by simpa using hb
    have HB:=Zh (show r=b by rw[←HR.o,HA.o];simp);clear hb;go_wp2;rw[HB.o];go_ret;exact⟨rfl,rfl⟩
  ·have HB:=Zh (show r=0 by rw[←HR.o,h1 ZO,h2 ZO];simp);clear h1 h2;go_wp2;rw[HB.o];go_ret;exact⟨rfl,rfl⟩
def cmpC (p q:Cp):Int:=if cmpI p.1 q.1≠0 then cmpI p.1 q.1 else cmpI p.2 q.2
theorem QMs (p q:Cp):decide (0≤cmpC p q)=!befC p q:=by
 obtain⟨a,b⟩:=p;obtain⟨c,d⟩:=q;unfold cmpC cmpI befC;simp only;by_cases h1:a<c
 ·simp[h1]
 ·by_cases h2:c<a
  ·have h3:a≠c:=by omega
   simp[h1,h2,h3]
  ·obtain rfl:a=c:=by omega
   by_cases h4:b<d
   ·simp[h4]
   ·by_cases h5:d<b <;> simp[h4,h5]
theorem Qen (a1 a2 b1 b2:Int)(w:World):Calls Tryz.prog 138 #[.agg #[iv a1,iv a2],.agg #[iv b1,iv b2]] w (IntQ (cmpC (a1,a2) (b1,b2)) w):=by
 obtain⟨W,hW⟩:=Ze ((w.alloc (.cells #[iv a1,iv a2] CT)).alloc (.cells #[iv b1,iv b2] CT));obtain⟨q,hq⟩:=Ze w.heap.size;have HA:=show W.heap[q]? = some (.cells #[iv a1,iv a2] CT (0,0)) by rw[←hW,←hq];exact Qz _ (heap_alloc_new _ _)
 have HB:=show W.heap[q+1]? = some (.cells #[iv b1,iv b2] CT (0,0)) by rw[←hW,←hq];have:=heap_alloc_new (w.alloc (.cells #[iv a1,iv a2] CT)) (.cells #[iv b1,iv b2] CT);rwa [World.size_alloc] at this
 have BW:=Zh (show Below q w W by rw[←hW,←hq];exact(Zb).alloc ZS _);have HSS:=Zh (show ∀w',Below W.heap.size W w'→(w'.cell? ⟨q,0,none⟩=some (iv a1)∧w'.cell? ⟨q,1,none⟩=some (iv a2)∧w'.cell? ⟨q+1,0,none⟩=some (iv b1)∧w'.cell? ⟨q+1,1,none⟩=some (iv b2)) from fun w' hb=>by
  obtain⟨x0,x1⟩:=Qq (Qc HA hb (Qb HA));obtain⟨y0,y1⟩:=Qq (Qc HB hb (Qb HB));exact⟨x0,x1,y0,y1⟩)
 have HWW:=Zh hW;have HQ:=Zh hq;have hor:∀g x,x.heap[g]? = some (.cells #[iv (cmpI a1 b1),iv (cmpI a2 b2)] 3 (0,0))→Calls Tryz.prog 178 #[.slice (some ⟨g,0,none⟩) 2 2] x (fun e w'=>e=.returned (iv (cmpC (a1,a2) (b1,b2)))∧w'=x):=fun g x h=>Qxt _ _ g x h
 have hc1:=QSp a1 b1;have hc2:=QSp a2 b2;generalize cmpC (a1,a2) (b1,b2)=r at hor ⊢;generalize cmpI a1 b1=c1 at hor hc1;generalize cmpI a2 b2=c2 at hor hc2;have K1:=Zh hc1;have K2:=Zh hc2;have KOR:=Zh hor;clear hW HA HB hor hc1 hc2;go_enter Tryz.func138,Tryz.ntmps138;go_upto_region 1 with(fail)
 rw[show(w.alloc (.cells #[iv a1,iv a2] CT)).alloc (.cells #[iv b1,iv b2] CT)=W from HWW.o]
 try rw[hq]
 clear hq;refine Zr (fun w'=>w'.cell? ⟨q,0,none⟩=some (iv a1)∧w'.cell? ⟨q,1,none⟩=some (iv a2)∧w'.cell? ⟨q+1,0,none⟩=some (iv b1)∧w'.cell? ⟨q+1,1,none⟩=some (iv b2)) 12 (HSS.o (W.drewN 1) (Qp (Below.refl _ _) 1)) fun hS0=>?_
 refine Yd 0 5 ?_;refine Yd 1 6 ?_;refine Yd 2 7 ?_;refine Yd 3 8 ?_;refine Yd 5 10 ?_;refine Yd 6 11 ?_;refine Yd 7 12 ?_;refine Yd 8 13 ?_;refine QP 4 (some 9) 179 #[iv a1,iv b1] rfl ZK ZK ZK rfl ?_;refine(K1.o _).mono ?_;rintro e z1 ⟨rfl,rfl⟩;refine⟨_,rfl,fun _=>hS0,?_⟩;refine QP 9 (some 14) 179 #[iv a2,iv b2] rfl ZK ZK ZK rfl ?_;refine(K2.o _).mono ?_;rintro e z1 ⟨rfl,rfl⟩;refine⟨_,rfl,fun _=>hS0,?_⟩;refine QW 10 (some 15) (.slice (some ⟨W.heap.size,0,none⟩) 2 2) ((W.drewN 1).alloc (.cells #[iv c1,iv c2] 3)) rfl ZK ZK ?rva rfl (fun _=>?sa) ?_
 case rva=>go_simp
 case sa=>exact HSS.o _ (Qwf W _)
 clear hS0;have hS0:=HSS.o _ (Qwf W (.cells #[iv c1,iv c2] 3));refine QP 11 (some 16) 178 #[.slice (some ⟨W.heap.size,0,none⟩) 2 2] rfl ZK ZK ZK rfl ?_;refine(KOR.o W.heap.size ((W.drewN 1).alloc (.cells #[iv c1,iv c2] 3)) (heap_alloc_new (W.drewN 1) _)).mono ?_;rintro e z1 ⟨rfl,rfl⟩;refine⟨_,rfl,fun _=>hS0,?_⟩;refine QW 12 (some 4) (iv r) ((W.drewN 1).alloc (.cells #[iv c1,iv c2] 3)) rfl ZK ZK (by go_simp) rfl (fun h=>absurd rfl h) ?_;refine Qu ZK ?_ _;generalize hA:Act.put _ _ _=A0;simp only[Qba,Qaa,Zu,Zv,Zw] at hA;subst hA;have BF:=Zh (show Below w.heap.size w ((W.drewN 1).alloc (.cells #[iv c1,iv c2] 3)) from by rw[HQ.o];exact BW.o.trans ((Qwf W _).mono (by have:=BW.o.size;have:=HQ.o;omega)));clear hS0;go_wp2;go_ret;exact⟨rfl,BF.o⟩
end
section
variable [Base]
open Go
section
variable {P:Program} {ops:Array Oper} {Q:Exit→Act→World→Prop} {md:Region.Mode} {S:World→Prop}
theorem QA {st:Nat}(i:Nat)(d:Option Tmp)(cs:List Nat){oi:Oper}{fuel:Nat}{listed:Array Bool}{a:Act}{w:World}(hi:ops[i]? = some oi)(hs:Region.noSelect ops=true)(hf:Region.free md ops listed i=true)(hr:(Region.ready md ops listed).contains i=true)(hw:(QQe md ops st i cs&&cs.all fun c=>!listed.getD c true)=true)(hQ:∀c a w,Q (.panic c) (a.put oi.dst undef) w→Q (.panic c) a w)(hS:S w)(hwant:Region.wanted oi (yielded ops a.tmps)=false)(hd:oi.dst=d)(h:Qma P md ops Q S st fuel (listed.setIfInBounds i true) (a.put d undef) w):Qma P md ops Q S st (fuel+1) listed a w:=by
 subst hd;simp only[Bool.and_eq_true,List.all_eq_true,Bool.not_eq_true'] at hw;exact Qbg cs hi (Region.noSelect_spec hs) hw.1 hQ fuel listed a w (Region.free_spec hi hf) hw.2 (by simpa using hr) (.inr ⟨hwant,rfl⟩) hS h
theorem QVj {st i:Nat}{oi:Oper}{v:Value}(hst:ops[st]? = none)(hi:ops[i]? = some oi)(hsel:∀(j:Nat) (o:Oper) cs b,ops[j]? = some o→o.op≠.select cs b)(hQ:∀c a w,Q (.panic c) (a.put oi.dst v) w→Q (.panic c) a w):
  ∀(fuel:Nat) (listed:Array Bool) (a:Act) (w:World),
   (∀j oj,ops[j]? = some oj→j≠i→listed.getD j true=false→(∀e∈oj.after,Region.binds md e=true→e.on≠i)→oi.apart ops oj=true) →
   i∈Region.ready md ops listed→YieldsIf P ops S oi v a→S w →
   Qma P md ops Q S st fuel (listed.setIfInBounds i true) (a.put oi.dst v) w→Qma P md ops Q S st (fuel+1) listed a w:=by
 intro fuel
 induction fuel with
|zero=>
  intro listed a w _ hr hy hS H;refine⟨fun h=>(by rw[h] at hr;cases hr),fun j hj=>?_⟩;by_cases hji:j=i
  ·subst hji;exact hy.wpOp hi hS ⟨fun _=>hS,H⟩
  ·have:=ready_mono hj hji;rw[H.1] at this
   cases this
|succ fuel ih=>
  intro listed a w hfree hr hy hS H;refine⟨fun h=>(by rw[h] at hr;cases hr),fun j hj=>?_⟩;by_cases hji:j=i
  ·subst hji;exact hy.wpOp hi hS ⟨fun _=>hS,H⟩
  ·have hiun:=QYb (mem_ready.1 hr).1;obtain⟨hjun,oj,hoj,hall⟩:=mem_ready.1 hj;have hjst:j≠st:=fun h=>by rw[h,hst] at hoj;cases hoj
   have hnot:∀e∈oj.after,Region.binds md e=true→e.on≠i:=fun e he hb heq=>by
    have h1:=hall e he hb;rw[heq,hiun] at h1
    cases h1
   have hstep:=wpOp_putIf hoj (hfree j oj hoj hji hjun hnot) (fun cs b=>hsel i oi cs b hi) (fun cs b=>hsel j oj cs b hoj) hQ hy (H.2 j (ready_mono hj hji));refine wpOp_mono (fun a' w' h3=>⟨h3.2.1,ih (listed.setIfInBounds j true) a' w' ?_ (ready_mono hr (Ne.symm hji)) h3.1 (h3.2.1 hjst) ?_⟩) hstep
   ·intro k ok hk hki hun hno;refine hfree k ok hk hki ?_ hno;by_cases hjk:j=k
    ·subst hjk;exact hjun
    ·rw[getD_set_ne true hjk] at hun;exact hun
   ·rw[Array.setIfInBounds_comm _ _ hji];exact h3.2.2
theorem Qe {st:Nat}(i:Nat)(d:Option Tmp)(v:Value){oi:Oper}{fuel:Nat}{listed:Array Bool}{a:Act}{w:World}(hi:ops[i]? = some oi)(hs:Region.noSelect ops=true)(hf:Region.free md ops listed i=true)(hr:(Region.ready md ops listed).contains i=true)(hst:ops[st]? = none)(hQ:∀c a w,Q (.panic c) (a.put oi.dst v) w→Q (.panic c) a w)(hS:S w)(hwant:Region.wanted oi (yielded ops a.tmps)=true)(hd:oi.dst=d)(hrun:∀w,S w→(execOp a.eval oi).run P w=.ok (.value v) w)(h:Qma P md ops Q S st fuel (listed.setIfInBounds i true) (a.put d v) w):Qma P md ops Q S st (fuel+1) listed a w:=by
 subst hd;exact QVj hst hi (Region.noSelect_spec hs) hQ fuel listed a w (Region.free_spec hi hf) (by simpa using hr) (.inl ⟨hwant,hrun⟩) hS h
end
theorem Zn {P:Program} {md:Region.Mode} {ops:Array Oper} {Q:Exit→Act→World→Prop} {S:World→Prop} {st:Nat} (i:Nat) (d:Option Tmp) (v:Value) {oi:Oper} {fuel:Nat} {listed:Array Bool} {a:Act} {w:World} (hS:S w) (hrun:∀w,S w→(execOp a.eval oi).run P w=.ok (.value v) w) (h:Qma P md ops Q S st fuel (listed.setIfInBounds i true) (a.put d v) w) (hi:ops[i]? = some oi:=by rfl) (hs:Region.noSelect ops=true:=by kernel_rfl) (hf:Region.free md ops listed i=true:=by kernel_rfl) (hr:(Region.ready md ops listed).contains i=true:=by kernel_rfl) (hst:ops[st]? = none:=by rfl) (hQ:∀c a w,Q (.panic c) (a.put oi.dst v) w→Q (.panic c) a w:=by exact fun _ _ _ h=>h) (hwant:Region.wanted oi (yielded ops a.tmps)=true:=by kernel_rfl) (hd:oi.dst=d:=by rfl):Qma P md ops Q S st (fuel+1) listed a w:=Qe i d v hi hs hf hr hst hQ hS hwant hd hrun h
theorem Zk {P:Program} {md:Region.Mode} {ops:Array Oper} {Q:Exit→Act→World→Prop} {S:World→Prop} {st:Nat} (i:Nat) (d:Option Tmp) (cs:List Nat) {oi:Oper} {fuel:Nat} {listed:Array Bool} {a:Act} {w:World} (hS:S w) (h:Qma P md ops Q S st fuel (listed.setIfInBounds i true) (a.put d undef) w) (hi:ops[i]? = some oi:=by rfl) (hs:Region.noSelect ops=true:=by kernel_rfl) (hf:Region.free md ops listed i=true:=by kernel_rfl) (hr:(Region.ready md ops listed).contains i=true:=by kernel_rfl) (hw:(QQe md ops st i cs&&cs.all fun c=>!listed.getD c true)=true:=by kernel_rfl) (hQ:∀c a w,Q (.panic c) (a.put oi.dst undef) w→Q (.panic c) a w:=by exact fun _ _ _ h=>h) (hwant:Region.wanted oi (yielded ops a.tmps)=false:=by kernel_rfl) (hd:oi.dst=d:=by rfl):Qma P md ops Q S st (fuel+1) listed a w:=QA i d cs hi hs hf hr hw hQ hS hwant hd h
theorem Yn {P:Program} {md:Region.Mode} {ops:Array Oper} {Q:Exit→Act→World→Prop} {S:World→Prop} {st:Nat} (i d:Nat) {v:Value} {oi:Oper} {fuel:Nat} {listed:Array Bool} {a:Act} {w:World} (h:Qma P md ops Q S st fuel (listed.setIfInBounds i true) (a.put (some d) v) w) (hi:ops[i]? = some oi:=by rfl) (hS:S w:=by exact hS0) (hrun:∀w,S w→(execOp a.eval oi).run P w=.ok (.value v) w:=by intro w hS;(try simp only[and_assoc] at hS);repeat (obtain⟨_,hS⟩:_∧_:=hS);go_simp;rfl) (hs:Region.noSelect ops=true:=by kernel_rfl) (hf:Region.free md ops listed i=true:=by kernel_rfl) (hr:(Region.ready md ops listed).contains i=true:=by kernel_rfl) (hst:ops[st]? = none:=by rfl) (hQ:∀c a w,Q (.panic c) (a.put oi.dst v) w→Q (.panic c) a w:=by exact fun _ _ _ h=>h) (hwant:Region.wanted oi (yielded ops a.tmps)=true:=by kernel_rfl) (hd:oi.dst=some d:=by rfl):Qma P md ops Q S st (fuel+1) listed a w:=Qe i (some d) v hi hs hf hr hst hQ hS hwant hd hrun h
end
section
open Go.RowKit
variable [Base]
theorem Qff {s:QSet}{b:Bool}(hb:setB s=b){u:Value}{w:World}(h:Qi w u s.words):Calls Tryz.prog 90 #[.agg #[iv s.width,u]] w (Qia b w):=hb▸QOj s u w h
def Qke (l:List Cp)(k:Nat):Option Cp:=if k=0 then none else l[k-1]?
theorem Qcn {w:Int}{l:List Cp}{k:Nat}{c:Cp}(h:l[k]? = some c):Qnc w (Qke l k) (l.drop k)=((inC w c&&(match Qke l k with|none=>true|some q=>befC q c))&&Qnc w (Qke l (k+1)) (l.drop (k+1))):=by
 obtain⟨hk,rfl⟩:=List.getElem?_eq_some_iff.1 h;rw[List.drop_eq_getElem_cons hk];show((inC w l[k]&&(match Qke l k with|none=>true|some q=>befC q l[k]))&&Qnc w (some l[k]) (l.drop (k+1)))=_;have e:Qke l (k+1)=some l[k]:=by
  unfold Qke;rw[if_neg ZO,Nat.add_sub_cancel,List.getElem?_eq_getElem hk]
 rw[e]
theorem Qng (t:Qw)(gu ku cu:Value)(w:World)(h:Qja w gu ku cu t):Calls Tryz.prog 72 #[trV t gu ku cu] w (Qia (Qtd t) w):=by
 obtain⟨⟨gw,gl⟩,⟨kw,kl⟩,cs⟩:=t;have HG:=Zh (fun (x:World) (b:Below w.heap.size w x)=>h.gen.below b);have HK:=Zh (fun (x:World) (b:Below w.heap.size w x)=>h.kill.below b);obtain⟨ga,gc,rfl,-,-,-,-⟩:=h.gen.cell;obtain⟨ka,kc,rfl,-,-,-,-⟩:=h.kill.cell;obtain⟨ca,cc,rfl,h63,-,-,hcc⟩:=h.cops.cell;simp only at HG HK h63 hcc;have HC:=Zh hcc;have HT:=Zh (show Qtd ⟨⟨gw,gl⟩,⟨kw,kl⟩,cs⟩=(setB ⟨gw,gl⟩&&(setB ⟨kw,kl⟩&&(decide (gw=kw)&&(decide (cs.length≤64)&&Qnc gw none cs)))) from rfl);obtain⟨r,hr⟩:=Ze (Qtd ⟨⟨gw,gl⟩,⟨kw,kl⟩,cs⟩);rw[hr] at HT ⊢;simp only[trV];obtain⟨gn,hgn⟩:=Ze gl.length;obtain⟨kn,hkn⟩:=Ze kl.length;obtain⟨n,hn⟩:=Ze cs.length;rw[hgn] at HG ⊢;rw[hkn] at HK ⊢;rw[hn] at h63 HT ⊢;unfold maxLen at h63;have HN:=Zh hn;obtain⟨q,hq⟩:=Ze w.heap.size;obtain⟨W,hW⟩:=Ze (w.alloc (.cells #[iv gw,.slice ga gn gc,iv kw,.slice ka kn kc,.slice ca n cc] 55));have HX:=Zh (show W.heap[q]? = some (.cells #[iv gw,.slice ga gn gc,iv kw,.slice ka kn kc,.slice ca n cc] 55 (0,0)) by rw[←hW,←hq];exact heap_alloc_new _ _);have BW:=Zh (show Below q w W by rw[←hW,←hq];exact Zb);have HWW:=Zh hW;have HQ:=Zh hq;obtain⟨b1,hb1⟩:=Ze (setB ⟨gw,gl⟩);obtain⟨b2,hb2⟩:=Ze (setB ⟨kw,kl⟩);have K1:=Zh (fun (x:World) (b:Below w.heap.size w x)=>Qff hb1 (HG.o x b));have K2:=Zh (fun (x:World) (b:Below w.heap.size w x)=>Qff hb2 (HK.o x b));rw[hb1,hb2] at HT;simp only at K1 K2;clear h hcc hr hgn hkn hn hW hb1 hb2 HG HK;obtain⟨x0,x1,x2,x3,x4⟩:=QJ HX.o;go_enter Tryz.func72,Tryz.ntmps72;go_upto_region 1 with(fail)
 rw[show w.alloc (.cells #[iv gw,.slice ga gn gc,iv kw,.slice ka kn kc,.slice ca n cc] 55)=W from HWW.o]
 try rw[hq]
 clear hq;go_wp2_with fail;refine(K1.o W (HQ.o.symm▸BW.o)).mono ?_;rintro e w1 ⟨rfl,c1⟩;have HX1:=Zh (Qc HX.o c1 (Qb HX.o));have HB1:=Zh (BW.o.trans (c1.mono (by have:=BW.o.size;have:=HQ.o;omega)));clear c1 x0 x1 x2 x3 x4;obtain⟨x0,x1,x2,x3,x4⟩:=QJ HX1.o
 cases b1 with
|false=>
  have HF:=Zh (show r=false by rw[HT.o];rfl);go_wp2;go_ret;exact⟨Qyb HF.o.symm,HQ.o.symm▸HB1.o⟩
|true=>
 go_wp2_with fail;refine(K2.o w1 (HQ.o.symm▸HB1.o)).mono ?_;rintro e w2 ⟨rfl,c2⟩;have HX2:=Zh (Qc HX1.o c2 (Qb HX1.o));have HB2:=Zh (HB1.o.trans (c2.mono (by have:=HB1.o.size;have:=HQ.o;omega)));clear c2 x0 x1 x2 x3 x4;obtain⟨x0,x1,x2,x3,x4⟩:=QJ HX2.o
 cases b2 with
|false=>
  have HF:=Zh (show r=false by rw[HT.o];rfl);go_wp2;go_ret;exact⟨Qyb HF.o.symm,HQ.o.symm▸HB2.o⟩
|true=>
 by_cases hw:gw=kw;rotate_left
 ·have HF:=Zh (show r=false by rw[HT.o];simp[hw]);have t1:(gw != kw)=true:=by simpa using hw
  clear hw;go_wp2;go_ret;exact⟨Qyb HF.o.symm,HQ.o.symm▸HB2.o⟩
 have t1:(gw != kw)=false:=by simpa using hw
 by_cases hn64:64<n
 ·have HF:=Zh (show r=false by rw[HT.o];simp;omega);clear hw;go_wp2;go_ret;exact⟨Qyb HF.o.symm,HQ.o.symm▸HB2.o⟩
 have HR:=Zh (show r=Qnc gw (Qke cs 0) (cs.drop 0) by rw[HT.o];simp[hw,Qke];omega);clear hw;go_wp2;clear x0 x1 x2 x3 x4;go_loopw [33] (fun y wr=>∃k:Nat,k≤n∧y=.int .i64 k∧Hid (Below w2.heap.size w2 wr)∧w2.heap.size≤wr.heap.size∧Hid (r=Qnc gw (Qke cs k) (cs.drop k))) (fun y _=>n-(intOf y).toNat)
 case atStart=>exact⟨0,Nat.zero_le _,rfl,Below.refl _ _,Nat.le_refl _,HR.o⟩
 case round=>
  obtain⟨k,hk,rfl,HB,hsr,HRk⟩:=hrel;have HBA:=Zh (HB2.o.trans (HB.o.mono (by have:=HB2.o.size;have:=HQ.o;omega)));by_cases hlt:k<n;rotate_left
  ·have HF:=Zh (show r=true by rw[HRk.o,List.drop_eq_nil_of_le (by rw[HN.o];omega)];rfl);go_wp2;go_ret;exact⟨Qyb HF.o.symm,HQ.o.symm▸HBA.o⟩
  ·obtain⟨y,hy⟩:∃y,cs[k]? = some y:=⟨_,List.getElem?_eq_getElem (by rw[HN.o];exact hlt)⟩;obtain⟨b4,o4,rfl,hb4,g0,g1⟩:=HC.o k y hy;have HST:=Zh (Qcn (w:=gw) hy);obtain⟨y1,y2⟩:=y;simp only at g0 g1;have hbq:b4<q:=by have:=HQ.o;omega
   have g0:=(HBA.o.cell (p:=⟨b4,o4+k*2,none⟩) hbq).trans g0;have g1:=(HBA.o.cell (p:=⟨b4,o4+k*2+1,none⟩) hbq).trans g1;have HXr:=Zh (Qc HX2.o HB.o (Qb HX2.o));obtain⟨U,hU⟩:=Ze (wr.alloc (.cells #[iv y1,iv y2] CT));obtain⟨xb,hxb⟩:=Ze wr.heap.size;have BU:=Zh (show Below xb wr U by rw[←hU,←hxb];exact Zb);have HC2:=Zh (show U.heap[xb]? = some (.cells #[iv y1,iv y2] CT (0,0)) by rw[←hU,←hxb];exact heap_alloc_new _ _);have HXU:=Zh (Qc HXr.o BU.o (by have:=Qb HXr.o;omega));have HUU:=Zh hU;have HXB:=Zh hxb;have HBU:=Zh (show Below w2.heap.size w2 U from HB.o.trans (BU.o.mono ZO));have HS0:=Zh (show ∀w',Below U.heap.size U w'→(w'.cell? ⟨q,0,none⟩=some (iv gw)∧w'.cell? ⟨q,1,none⟩=some (.slice ga gn gc)∧w'.cell? ⟨q,2,none⟩=some (iv kw)∧w'.cell? ⟨q,3,none⟩=some (.slice ka kn kc)∧w'.cell? ⟨q,4,none⟩=some (.slice (some ⟨b4,o4,none⟩) n cc)∧w'.cell? ⟨xb,0,none⟩=some (iv y1)∧w'.cell? ⟨xb,1,none⟩=some (iv y2)) from fun w' hb=>by
    obtain⟨a0,a1,a2,a3,a4⟩:=QJ (Qc HXU.o hb (Qb HXU.o));obtain⟨c0,c1⟩:=Qq (Qc HC2.o hb (Qb HC2.o));exact⟨a0,a1,a2,a3,a4,c0,c1⟩)
   obtain⟨t1',ht1⟩:∃b,bitB gw y1=b:=⟨_,rfl⟩;obtain⟨t2',ht2⟩:∃b,bitB gw y2=b:=⟨_,rfl⟩;have HIN:=Zh (show inC gw (y1,y2)=(t1'&&t2') by rw[←ht1,←ht2];rfl);have KB1:=Zh (fun (x:World)=>ht1▸QJl ⟨⟨gw,gl⟩,⟨kw,kl⟩,cs⟩ ga ka (some ⟨b4,o4,none⟩) gn gc kn kc n cc y1 x);have KB2:=Zh (fun (x:World)=>ht2▸QJl ⟨⟨gw,gl⟩,⟨kw,kl⟩,cs⟩ ga ka (some ⟨b4,o4,none⟩) gn gc kn kc n cc y2 x);simp only[trV] at KB1 KB2;clear hy hU ht1 ht2;go_upto_region 6 with(fail)
   rw[show wr.alloc (.cells #[iv y1,iv y2] CT)=U from HUU.o]
   try rw[hxb]
   clear hxb g0 g1;have FIN:=Zh (show ∀x,Below U.heap.size U x→Below w.heap.size w x from fun x hb=>HQ.o.symm▸HB2.o.trans ((HBU.o.trans (hb.mono HBU.o.size)).mono (by have:=HB2.o.size;have:=HQ.o;omega)));have FIN2:=Zh (show ∀x,Below U.heap.size U x→Below w2.heap.size w2 x from fun x hb=>HBU.o.trans (hb.mono HBU.o.size))
   cases t1' with
  |false=>
    have HF:=Zh (show r=false by rw[HRk.o,HST.o,HIN.o];rfl);have HSS:=HS0;refine Zr (fun w'=>w'.cell? ⟨q,0,none⟩=some (iv gw)∧w'.cell? ⟨q,1,none⟩=some (.slice ga gn gc)∧w'.cell? ⟨q,2,none⟩=some (iv kw)∧w'.cell? ⟨q,3,none⟩=some (.slice ka kn kc)∧w'.cell? ⟨q,4,none⟩=some (.slice (some ⟨b4,o4,none⟩) n cc)∧w'.cell? ⟨xb,0,none⟩=some (iv y1)∧w'.cell? ⟨xb,1,none⟩=some (iv y2)) 26 (HSS.o (U.drewN 1) (Qp (Below.refl _ _) 1)) fun hS0=>?_
    refine Yc 0 38 [3,5,9,12] ?_;refine Yc 1 39 [2,3,5,9,12] ?_;refine Yc 2 40 [3,5,9,12] ?_;refine QP 3 (some 41) 137 #[.agg #[iv gw,.slice ga gn gc,iv kw,.slice ka kn kc,.slice (some ⟨b4,o4,none⟩) n cc],iv y1] rfl ZK ZK ZK rfl ?_;refine(KB1.o (U.drewN 1)).mono ?_;rintro e m1 ⟨rfl,b1⟩;have BB1:=Zh ((Qp (Below.refl U.heap.size U) 1).trans b1);clear hS0 b1;have hS0:=HSS.o _ BB1.o;refine⟨_,rfl,fun _=>hS0,?_⟩;refine Yc 4 42 [5,9,12] ?_;refine Yc 5 43 [9,12] ?_;refine Zk 6 (some 44) [9,12] hS0 ?_;refine Zk 7 (some 45) [8,9,12] hS0 ?_;refine Zk 8 (some 46) [9,12] hS0 ?_;refine Zk 9 (some 47) [12] hS0 ?_;refine Zk 10 (some 48) [11,12] hS0 ?_;refine Yc 11 49 [12] ?_;refine Yd 12 50 ?_;refine Zk 13 (some 51) [14,15,25] hS0 ?_;refine Zk 14 (some 52) [15,25] hS0 ?_;refine Zk 15 (some 53) [25] hS0 ?_;refine Zk 16 (some 54) [17,20,21,23,24,25] hS0 ?_;refine Zk 17 (some 55) [20,21,23,24,25] hS0 ?_;refine Zk 18 (some 56) [19,20,21,23,24,25] hS0 ?_;refine Zk 19 (some 57) [20,21,23,24,25] hS0 ?_;refine Zk 20 (some 58) [21,23,24,25] hS0 ?_;refine Zk 21 (some 59) [23,24,25] hS0 ?_;refine Zk 22 (some 60) [23,24,25] hS0 ?_;refine Zk 23 (some 61) [24,25] hS0 ?_;refine Zk 24 (some 62) [25] hS0 ?_;refine Zs 25 (some 63) hS0 ?_;refine QW 26 (some 64) (.bool true) m1 rfl ZK ZK (by go_simp) rfl (fun h=>absurd rfl h) ?_;refine Qu ZK ?_ _;generalize hA:Act.put _ _ _=A0;simp only[Qba,Qaa,Zu,Zv,Zw] at hA;subst hA;have BF:=Zh (FIN.o _ BB1.o);clear hS0;go_wp2;go_ret;exact⟨Qyb HF.o.symm,BF.o⟩
  |true=>
   cases t2' with
  |false=>
    have HF:=Zh (show r=false by rw[HRk.o,HST.o,HIN.o];rfl);have HSS:=HS0;refine Zr (fun w'=>w'.cell? ⟨q,0,none⟩=some (iv gw)∧w'.cell? ⟨q,1,none⟩=some (.slice ga gn gc)∧w'.cell? ⟨q,2,none⟩=some (iv kw)∧w'.cell? ⟨q,3,none⟩=some (.slice ka kn kc)∧w'.cell? ⟨q,4,none⟩=some (.slice (some ⟨b4,o4,none⟩) n cc)∧w'.cell? ⟨xb,0,none⟩=some (iv y1)∧w'.cell? ⟨xb,1,none⟩=some (iv y2)) 26 (HSS.o (U.drewN 1) (Qp (Below.refl _ _) 1)) fun hS0=>?_
    refine Yc 0 38 [3,5,9,12] ?_;refine Yc 1 39 [2,3,5,9,12] ?_;refine Yc 2 40 [3,5,9,12] ?_;refine QP 3 (some 41) 137 #[.agg #[iv gw,.slice ga gn gc,iv kw,.slice ka kn kc,.slice (some ⟨b4,o4,none⟩) n cc],iv y1] rfl ZK ZK ZK rfl ?_;refine(KB1.o (U.drewN 1)).mono ?_;rintro e m1 ⟨rfl,b1⟩;have BB1:=Zh ((Qp (Below.refl U.heap.size U) 1).trans b1);clear hS0 b1;have hS0:=HSS.o _ BB1.o;refine⟨_,rfl,fun _=>hS0,?_⟩;refine Yc 4 42 [5,9,12] ?_;refine Yc 5 43 [9,12] ?_;refine Yc 6 44 [9,12] ?_;refine Yc 7 45 [8,9,12] ?_;refine Yc 8 46 [9,12] ?_;refine QP 9 (some 47) 137 #[.agg #[iv gw,.slice ga gn gc,iv kw,.slice ka kn kc,.slice (some ⟨b4,o4,none⟩) n cc],iv y2] rfl ZK ZK ZK rfl ?_;refine(KB2.o m1).mono ?_;rintro e m2 ⟨rfl,b2⟩;have BB2:=Zh (BB1.o.trans (b2.mono BB1.o.size));clear hS0 b2;have hS0:=HSS.o _ BB2.o;refine⟨_,rfl,fun _=>hS0,?_⟩;refine Yc 10 48 [11,12] ?_;refine Yc 11 49 [12] ?_;refine Yd 12 50 ?_;refine Zk 13 (some 51) [14,15,25] hS0 ?_;refine Zk 14 (some 52) [15,25] hS0 ?_;refine Zk 15 (some 53) [25] hS0 ?_;refine Zk 16 (some 54) [17,20,21,23,24,25] hS0 ?_;refine Zk 17 (some 55) [20,21,23,24,25] hS0 ?_;refine Zk 18 (some 56) [19,20,21,23,24,25] hS0 ?_;refine Zk 19 (some 57) [20,21,23,24,25] hS0 ?_;refine Zk 20 (some 58) [21,23,24,25] hS0 ?_;refine Zk 21 (some 59) [23,24,25] hS0 ?_;refine Zk 22 (some 60) [23,24,25] hS0 ?_;refine Zk 23 (some 61) [24,25] hS0 ?_;refine Zk 24 (some 62) [25] hS0 ?_;refine Zs 25 (some 63) hS0 ?_;refine QW 26 (some 64) (.bool true) m2 rfl ZK ZK (by go_simp) rfl (fun h=>absurd rfl h) ?_;refine Qu ZK ?_ _;generalize hA:Act.put _ _ _=A0;simp only[Qba,Qaa,Zu,Zv,Zw] at hA;subst hA;have BF:=Zh (FIN.o _ BB2.o);clear hS0;go_wp2;go_ret;exact⟨Qyb HF.o.symm,BF.o⟩
  |true=>
   by_cases hk0:k=0
   ·subst hk0;have HF:=Zh (show r=Qnc gw (Qke cs 1) (cs.drop 1) by rw[HRk.o,HST.o,HIN.o];simp[Qke]);have HSS:=HS0;refine Zr (fun w'=>w'.cell? ⟨q,0,none⟩=some (iv gw)∧w'.cell? ⟨q,1,none⟩=some (.slice ga gn gc)∧w'.cell? ⟨q,2,none⟩=some (iv kw)∧w'.cell? ⟨q,3,none⟩=some (.slice ka kn kc)∧w'.cell? ⟨q,4,none⟩=some (.slice (some ⟨b4,o4,none⟩) n cc)∧w'.cell? ⟨xb,0,none⟩=some (iv y1)∧w'.cell? ⟨xb,1,none⟩=some (iv y2)) 26 (HSS.o (U.drewN 1) (Qp (Below.refl _ _) 1)) fun hS0=>?_
    refine Yc 0 38 [3,5,9,12] ?_;refine Yc 1 39 [2,3,5,9,12] ?_;refine Yc 2 40 [3,5,9,12] ?_;refine QP 3 (some 41) 137 #[.agg #[iv gw,.slice ga gn gc,iv kw,.slice ka kn kc,.slice (some ⟨b4,o4,none⟩) n cc],iv y1] rfl ZK ZK ZK rfl ?_;refine(KB1.o (U.drewN 1)).mono ?_;rintro e m1 ⟨rfl,b1⟩;have BB1:=Zh ((Qp (Below.refl U.heap.size U) 1).trans b1);clear hS0 b1;have hS0:=HSS.o _ BB1.o;refine⟨_,rfl,fun _=>hS0,?_⟩;refine Yc 4 42 [5,9,12] ?_;refine Yc 5 43 [9,12] ?_;refine Yc 6 44 [9,12] ?_;refine Yc 7 45 [8,9,12] ?_;refine Yc 8 46 [9,12] ?_;refine QP 9 (some 47) 137 #[.agg #[iv gw,.slice ga gn gc,iv kw,.slice ka kn kc,.slice (some ⟨b4,o4,none⟩) n cc],iv y2] rfl ZK ZK ZK rfl ?_;refine(KB2.o m1).mono ?_;rintro e m2 ⟨rfl,b2⟩;have BB2:=Zh (BB1.o.trans (b2.mono BB1.o.size));clear hS0 b2;have hS0:=HSS.o _ BB2.o;refine⟨_,rfl,fun _=>hS0,?_⟩;refine Yc 10 48 [11,12] ?_;refine Yc 11 49 [12] ?_;refine Yd 12 50 ?_;refine Yc 13 51 [14,15,25] ?_;refine Yc 14 52 [15,25] ?_;refine Yc 15 53 [25] ?_;refine Zk 16 (some 54) [17,20,21,23,24,25] hS0 ?_;refine Zk 17 (some 55) [20,21,23,24,25] hS0 ?_;refine Zk 18 (some 56) [19,20,21,23,24,25] hS0 ?_;refine Zk 19 (some 57) [20,21,23,24,25] hS0 ?_;refine Zk 20 (some 58) [21,23,24,25] hS0 ?_;refine Zk 21 (some 59) [23,24,25] hS0 ?_;refine Zk 22 (some 60) [23,24,25] hS0 ?_;refine Zk 23 (some 61) [24,25] hS0 ?_;refine Zk 24 (some 62) [25] hS0 ?_;refine Yd 25 63 ?_;refine QW 26 (some 64) (.bool false) m2 rfl ZK ZK (by go_simp) rfl (fun h=>absurd rfl h) ?_;refine Qu ZK ?_ _;generalize hA:Act.put _ _ _=A0;simp only[Qba,Qaa,Zu,Zv,Zw] at hA;subst hA;have BF:=Zh (FIN2.o _ BB2.o);clear hS0;go_wp2;go_roundw
    case rel=>exact⟨1,by omega,by first|rfl|go_num,BF,BF.o.size,HF⟩
    case measure=>simp[intOf];omega
   ·have hkp:0<k:=by omega
    have hkI:(0:Int)<(k:Int):=by omega
    obtain⟨p,hp⟩:∃p,cs[k-1]? = some p:=⟨_,List.getElem?_eq_getElem (by rw[HN.o];omega)⟩;obtain⟨b5,o5,e5,hb5,g0,g1⟩:=HC.o (k-1) p hp;injection e5 with e5
    injection e5 with e5 e6
    subst e5 e6;have HPV:=Zh (show Qke cs k=some p by unfold Qke;rw[if_neg hk0,hp]);obtain⟨p1,p2⟩:=p;simp only at g0 g1;have BAU:=HBA.o.trans (BU.o.mono (by have:=HBA.o.size;have:=HXB.o;have:=HQ.o;omega));have g0:=(BAU.cell (p:=⟨b4,o4+(k-1)*2,none⟩) hbq).trans g0;have g1:=(BAU.cell (p:=⟨b4,o4+(k-1)*2+1,none⟩) hbq).trans g1;have hbU:b4<U.heap.size:=by have:=Qb HXU.o;omega
    have HSS:=Zh (show ∀w',Below U.heap.size U w'→(w'.cell? ⟨q,0,none⟩=some (iv gw)∧w'.cell? ⟨q,1,none⟩=some (.slice ga gn gc)∧w'.cell? ⟨q,2,none⟩=some (iv kw)∧w'.cell? ⟨q,3,none⟩=some (.slice ka kn kc)∧w'.cell? ⟨q,4,none⟩=some (.slice (some ⟨b4,o4,none⟩) n cc)∧w'.cell? ⟨xb,0,none⟩=some (iv y1)∧w'.cell? ⟨xb,1,none⟩=some (iv y2)∧w'.cell? ⟨b4,o4+(k-1)*2,none⟩=some (iv p1)∧w'.cell? ⟨b4,o4+(k-1)*2+1,none⟩=some (iv p2)) from fun w' hb=>by
     obtain⟨a0,a1,a2,a3,a4,c0,c1⟩:=HS0.o w' hb;exact⟨a0,a1,a2,a3,a4,c0,c1,(hb.cell (p:=⟨b4,_,none⟩) hbU).trans g0,(hb.cell (p:=⟨b4,_,none⟩) hbU).trans g1⟩)
    have hbf:=QMs (p1,p2) (y1,y2);have hcm:=fun (x:World)=>Qen p1 p2 y1 y2 x
    generalize cmpC (p1,p2) (y1,y2)=cm at hbf hcm;have KC:=Zh hcm;have HBF:=Zh hbf;have hk1:((k:Int)-1)=((k-1:Nat):Int):=by omega
    have HF:=Zh (show r=(befC (p1,p2) (y1,y2)&&Qnc gw (Qke cs (k+1)) (cs.drop (k+1))) by rw[HRk.o,HST.o,HIN.o,HPV.o];simp);have hkw:IntKind.i64.wrap ((k-1:Nat):Int)=((k-1:Nat):Int):=IntWalk.i64_in _ ZO;have hk2:(0:Int)≤((k-1:Nat):Int):=by omega
    have hk3:((k-1:Nat):Int)<(n:Int):=by omega
    clear hp g0 g1 BAU hbf hcm hk0;refine Zr (fun w'=>w'.cell? ⟨q,0,none⟩=some (iv gw)∧w'.cell? ⟨q,1,none⟩=some (.slice ga gn gc)∧w'.cell? ⟨q,2,none⟩=some (iv kw)∧w'.cell? ⟨q,3,none⟩=some (.slice ka kn kc)∧w'.cell? ⟨q,4,none⟩=some (.slice (some ⟨b4,o4,none⟩) n cc)∧w'.cell? ⟨xb,0,none⟩=some (iv y1)∧w'.cell? ⟨xb,1,none⟩=some (iv y2)∧w'.cell? ⟨b4,o4+(k-1)*2,none⟩=some (iv p1)∧w'.cell? ⟨b4,o4+(k-1)*2+1,none⟩=some (iv p2)) 26 (HSS.o (U.drewN 1) (Qp (Below.refl _ _) 1)) fun hS0=>?_
    refine Yc 0 38 [3,5,9,12] ?_;refine Yc 1 39 [2,3,5,9,12] ?_;refine Yc 2 40 [3,5,9,12] ?_;refine QP 3 (some 41) 137 #[.agg #[iv gw,.slice ga gn gc,iv kw,.slice ka kn kc,.slice (some ⟨b4,o4,none⟩) n cc],iv y1] rfl ZK ZK ZK rfl ?_;refine(KB1.o (U.drewN 1)).mono ?_;rintro e m1 ⟨rfl,b1⟩;have BB1:=Zh ((Qp (Below.refl U.heap.size U) 1).trans b1);clear hS0 b1;have hS0:=HSS.o _ BB1.o;refine⟨_,rfl,fun _=>hS0,?_⟩;refine Yc 4 42 [5,9,12] ?_;refine Yc 5 43 [9,12] ?_;refine Yc 6 44 [9,12] ?_;refine Yc 7 45 [8,9,12] ?_;refine Yc 8 46 [9,12] ?_;refine QP 9 (some 47) 137 #[.agg #[iv gw,.slice ga gn gc,iv kw,.slice ka kn kc,.slice (some ⟨b4,o4,none⟩) n cc],iv y2] rfl ZK ZK ZK rfl ?_;refine(KB2.o m1).mono ?_;rintro e m2 ⟨rfl,b2⟩;have BB2:=Zh (BB1.o.trans (b2.mono BB1.o.size));clear hS0 b2;have hS0:=HSS.o _ BB2.o;refine⟨_,rfl,fun _=>hS0,?_⟩;refine Yc 10 48 [11,12] ?_;refine Yc 11 49 [12] ?_;refine Yd 12 50 ?_;refine Yc 13 51 [14,15,25] ?_;refine Yc 14 52 [15,25] ?_;refine Yc 15 53 [25] ?_;refine Yc 16 54 [17,20,21,23,24,25] ?_;refine Yc 17 55 [20,21,23,24,25] ?_;refine Yc 18 56 [19,20,21,23,24,25] ?_;refine Yc 19 57 [20,21,23,24,25] ?_;refine Yc 20 58 [21,23,24,25] ?_;refine Yc 21 59 [23,24,25] ?_;refine Yc 22 60 [23,24,25] ?_;refine QP 23 (some 61) 138 #[.agg #[iv p1,iv p2],.agg #[iv y1,iv y2]] rfl ZK ZK ZK rfl ?_;refine(KC.o m2).mono ?_;rintro e m3 ⟨rfl,b3⟩;have BB3:=Zh (BB2.o.trans (b3.mono BB2.o.size));clear hS0 b3;have hS0:=HSS.o _ BB3.o;refine⟨_,rfl,fun _=>hS0,?_⟩;refine Yc 24 62 [25] ?_;refine Yd 25 63 ?_;refine QW 26 (some 64) (.bool (decide (0≤cm))) m3 rfl ZK ZK (by go_simp) rfl (fun h=>absurd rfl h) ?_;refine Qu ZK ?_ _;generalize hA:Act.put _ _ _=A0;simp only[Qba,Qaa,Zu,Zv,Zw] at hA;subst hA;have BF:=Zh (FIN.o _ BB3.o);have BF2:=Zh (FIN2.o _ BB3.o);clear hS0;by_cases hc0:0≤cm
    ·have HF2:=Zh (show r=false by
      rw[HF.o];have:=HBF.o;rw[show decide (0≤cm)=true by simpa using hc0] at this;rw[show befC (p1,p2) (y1,y2)=false by simpa using this.symm];rfl)
     go_wp2;go_ret;exact⟨Qyb HF2.o.symm,BF.o⟩
    ·have HF2:=Zh (show r=Qnc gw (Qke cs (k+1)) (cs.drop (k+1)) by
      rw[HF.o];have:=HBF.o;rw[show decide (0≤cm)=false by simpa using hc0] at this;rw[show befC (p1,p2) (y1,y2)=true by simpa using this.symm];rfl)
     go_wp2;go_roundw
     case rel=>exact⟨k+1,by omega,by go_num,BF2,BF2.o.size,HF2⟩
     case measure=>simp[intOf];omega
end
end Go.Proofs.YtijekimobahgpaaGreatDoor
