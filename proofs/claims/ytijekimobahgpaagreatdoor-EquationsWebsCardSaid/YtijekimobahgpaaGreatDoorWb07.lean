/- A part of the proof. -/
import Derived.Test.YtijekimobahgpaaGreatDoorWb06
set_option linter.unusedVariables false
set_option linter.unusedSimpArgs false
set_option linter.unusedSectionVars false
set_option maxRecDepth 100000
set_option maxHeartbeats 16000000
namespace Go.Proofs.YtijekimobahgpaaGreatDoor
section
open Go.RowKit
variable [Base]
theorem Qwf (w:World)(o:Obj):Below w.heap.size w ((w.drewN 1).alloc o):=(Qp (Below.refl _ _) 1).alloc (Nat.le_refl _) _
theorem Qxt (a b:Int)(g:Nat)(w:World)(hg:w.heap[g]? = some (.cells #[iv a,iv b] 3 (0,0))):Calls Tryz.prog 178 #[.slice (some ⟨g,0,none⟩) 2 2] w (fun e w'=>e=.returned (iv (if a≠0 then a else b))∧w'=w):=by
 obtain⟨x0,x1⟩:=Qq hg;obtain⟨r,hr⟩:=Ze ((if a≠0 then a else b));rw[hr];have HR:=Zh hr;clear hg hr;go_enter Tryz.func178,Tryz.ntmps178;go_wp2;go_loopw [8] (fun y wr=>∃k:Nat,k≤2∧y=.int .i64 k∧w=wr∧(1≤k→a=0)∧(2≤k→b=0)) (fun y _=>2-(intOf y).toNat)
 case atStart=>exact⟨0,by omega,rfl,rfl,by omega,by omega⟩
 case round=>
  obtain⟨k,hk,rfl,rfl,h1,h2⟩:=hrel;have hc:k=0∨k=1∨k=2:=by omega
  rcases hc with rfl|rfl|rfl
  ·clear h1 h2;by_cases ha:a=0
   ·have h3:(a != 0)=false:=by simpa using ha
    have HA:=Zh ha;clear ha;go_wp2;go_roundw
    case rel=>exact⟨1,by omega,rfl,(by first|rfl|trivial),fun _=>HA.o,by omega⟩
    case measure=>simp[intOf]
   ·have h3:(a != 0)=true:=by simpa using ha
    have HA2:=Zh (show r=a by rw[←HR.o];exact if_pos ha);clear ha;go_wp2;rw[HA2.o];go_ret;exact⟨rfl,rfl⟩
  ·have HA:=Zh (h1 ZO);clear h1 h2;by_cases hb:b=0
   ·have h3:(b != 0)=false:=by simpa using hb
    have HB:=Zh hb;clear hb;go_wp2;go_roundw
    case rel=>exact⟨2,by omega,rfl,(by first|rfl|trivial),fun _=>HA.o,fun _=>HB.o⟩
    case measure=>simp[intOf]
   ·have h3:(b != 0)=true:=by simpa using hb
    have HB:=Zh (show r=b by rw[←HR.o,HA.o];simp);clear hb;go_wp2;rw[HB.o];go_ret;exact⟨rfl,rfl⟩
  ·have HB:=Zh (show r=0 by rw[←HR.o,h1 ZO,h2 ZO];simp);clear h1 h2;go_wp2;rw[HB.o];go_ret;exact⟨rfl,rfl⟩
def cmpC (p q:Cp):Int:=if cmpI p.1 q.1≠0 then cmpI p.1 q.1 else cmpI p.2 q.2
theorem QMs (p q:Cp):decide (0≤cmpC p q)=!befC p q:=by
 obtain⟨a,b⟩:=p;obtain⟨c,d⟩:=q;unfold cmpC cmpI befC;simp only;by_cases h1:a<c
 ·simp[h1]
 ·by_cases h2:c<a
  ·have h3:a≠c:=by omega
   simp[h1,h2,h3]
  ·obtain rfl:a=c:=by omega
   by_cases h4:b<d
   ·simp[h4]
   ·by_cases h5:d<b <;> simp[h4,h5]
theorem Qen (a1 a2 b1 b2:Int)(w:World):Calls Tryz.prog 138 #[.agg #[iv a1,iv a2],.agg #[iv b1,iv b2]] w (IntQ (cmpC (a1,a2) (b1,b2)) w):=by
 obtain⟨W,hW⟩:=Ze ((w.alloc (.cells #[iv a1,iv a2] CT)).alloc (.cells #[iv b1,iv b2] CT));obtain⟨q,hq⟩:=Ze w.heap.size;have HA:=show W.heap[q]? = some (.cells #[iv a1,iv a2] CT (0,0)) by rw[←hW,←hq];exact Qz _ (heap_alloc_new _ _)
 have HB:=show W.heap[q+1]? = some (.cells #[iv b1,iv b2] CT (0,0)) by rw[←hW,←hq];have:=heap_alloc_new (w.alloc (.cells #[iv a1,iv a2] CT)) (.cells #[iv b1,iv b2] CT);rwa [World.size_alloc] at this
 have BW:=Zh (show Below q w W by rw[←hW,←hq];exact(Zb).alloc ZS _);have HSS:=Zh (show ∀w',Below W.heap.size W w'→(w'.cell? ⟨q,0,none⟩=some (iv a1)∧w'.cell? ⟨q,1,none⟩=some (iv a2)∧w'.cell? ⟨q+1,0,none⟩=some (iv b1)∧w'.cell? ⟨q+1,1,none⟩=some (iv b2)) from fun w' hb=>by
  obtain⟨x0,x1⟩:=Qq (Qc HA hb (Qb HA));obtain⟨y0,y1⟩:=Qq (Qc HB hb (Qb HB));exact⟨x0,x1,y0,y1⟩)
 have HWW:=Zh hW;have HQ:=Zh hq;have hor:∀g x,x.heap[g]? = some (.cells #[iv (cmpI a1 b1),iv (cmpI a2 b2)] 3 (0,0))→Calls Tryz.prog 178 #[.slice (some ⟨g,0,none⟩) 2 2] x (fun e w'=>e=.returned (iv (cmpC (a1,a2) (b1,b2)))∧w'=x):=fun g x h=>Qxt _ _ g x h
 have hc1:=QSp a1 b1;have hc2:=QSp a2 b2;generalize cmpC (a1,a2) (b1,b2)=r at hor ⊢;generalize cmpI a1 b1=c1 at hor hc1;generalize cmpI a2 b2=c2 at hor hc2;have K1:=Zh hc1;have K2:=Zh hc2;have KOR:=Zh hor;clear hW HA HB hor hc1 hc2;go_enter Tryz.func138,Tryz.ntmps138;go_upto_region 1 with(fail)
 rw[show(w.alloc (.cells #[iv a1,iv a2] CT)).alloc (.cells #[iv b1,iv b2] CT)=W from HWW.o]
 try rw[hq]
 clear hq;refine Zr (fun w'=>w'.cell? ⟨q,0,none⟩=some (iv a1)∧w'.cell? ⟨q,1,none⟩=some (iv a2)∧w'.cell? ⟨q+1,0,none⟩=some (iv b1)∧w'.cell? ⟨q+1,1,none⟩=some (iv b2)) 12 (HSS.o (W.drewN 1) (Qp (Below.refl _ _) 1)) fun hS0=>?_
 refine Yd 0 5 ?_;refine Yd 1 6 ?_;refine Yd 2 7 ?_;refine Yd 3 8 ?_;refine Yd 5 10 ?_;refine Yd 6 11 ?_;refine Yd 7 12 ?_;refine Yd 8 13 ?_;refine QP 4 (some 9) 179 #[iv a1,iv b1] rfl ZK ZK ZK rfl ?_;refine(K1.o _).mono ?_;rintro e z1 ⟨rfl,rfl⟩;refine⟨_,rfl,fun _=>hS0,?_⟩;refine QP 9 (some 14) 179 #[iv a2,iv b2] rfl ZK ZK ZK rfl ?_;refine(K2.o _).mono ?_;rintro e z1 ⟨rfl,rfl⟩;refine⟨_,rfl,fun _=>hS0,?_⟩;refine QW 10 (some 15) (.slice (some ⟨W.heap.size,0,none⟩) 2 2) ((W.drewN 1).alloc (.cells #[iv c1,iv c2] 3)) rfl ZK ZK ?rva rfl (fun _=>?sa) ?_
 case rva=>go_simp
 case sa=>exact HSS.o _ (Qwf W _)
 clear hS0;have hS0:=HSS.o _ (Qwf W (.cells #[iv c1,iv c2] 3));refine QP 11 (some 16) 178 #[.slice (some ⟨W.heap.size,0,none⟩) 2 2] rfl ZK ZK ZK rfl ?_;refine(KOR.o W.heap.size ((W.drewN 1).alloc (.cells #[iv c1,iv c2] 3)) (heap_alloc_new (W.drewN 1) _)).mono ?_;rintro e z1 ⟨rfl,rfl⟩;refine⟨_,rfl,fun _=>hS0,?_⟩;refine QW 12 (some 4) (iv r) ((W.drewN 1).alloc (.cells #[iv c1,iv c2] 3)) rfl ZK ZK (by go_simp) rfl (fun h=>absurd rfl h) ?_;refine Qu ZK ?_ _;generalize hA:Act.put _ _ _=A0;simp only[Qba,Qaa,Zu,Zv,Zw] at hA;subst hA;have BF:=Zh (show Below w.heap.size w ((W.drewN 1).alloc (.cells #[iv c1,iv c2] 3)) from by rw[HQ.o];exact BW.o.trans ((Qwf W _).mono (by have:=BW.o.size;have:=HQ.o;omega)));clear hS0;go_wp2;go_ret;exact⟨rfl,BF.o⟩
end
section
variable [Base]
open Go
section
variable {P:Program} {ops:Array Oper} {Q:Exit→Act→World→Prop} {md:Region.Mode} {S:World→Prop}
theorem QA {st:Nat}(i:Nat)(d:Option Tmp)(cs:List Nat){oi:Oper}{fuel:Nat}{listed:Array Bool}{a:Act}{w:World}(hi:ops[i]? = some oi)(hs:Region.noSelect ops=true)(hf:Region.free md ops listed i=true)(hr:(Region.ready md ops listed).contains i=true)(hw:(QQe md ops st i cs&&cs.all fun c=>!listed.getD c true)=true)(hQ:∀c a w,Q (.panic c) (a.put oi.dst undef) w→Q (.panic c) a w)(hS:S w)(hwant:Region.wanted oi (yielded ops a.tmps)=false)(hd:oi.dst=d)(h:Qma P md ops Q S st fuel (listed.setIfInBounds i true) (a.put d undef) w):Qma P md ops Q S st (fuel+1) listed a w:=by
 subst hd;simp only[Bool.and_eq_true,List.all_eq_true,Bool.not_eq_true'] at hw;exact Qbg cs hi (Region.noSelect_spec hs) hw.1 hQ fuel listed a w (Region.free_spec hi hf) hw.2 (by simpa using hr) (.inr ⟨hwant,rfl⟩) hS h
theorem QVj {st i:Nat}{oi:Oper}{v:Value}(hst:ops[st]? = none)(hi:ops[i]? = some oi)(hsel:∀(j:Nat) (o:Oper) cs b,ops[j]? = some o→o.op≠.select cs b)(hQ:∀c a w,Q (.panic c) (a.put oi.dst v) w→Q (.panic c) a w):
  ∀(fuel:Nat) (listed:Array Bool) (a:Act) (w:World),
   (∀j oj,ops[j]? = some oj→j≠i→listed.getD j true=false→(∀e∈oj.after,Region.binds md e=true→e.on≠i)→oi.apart ops oj=true) →
   i∈Region.ready md ops listed→YieldsIf P ops S oi v a→S w →
   Qma P md ops Q S st fuel (listed.setIfInBounds i true) (a.put oi.dst v) w→Qma P md ops Q S st (fuel+1) listed a w:=by
 intro fuel
 induction fuel with
|zero=>
  intro listed a w _ hr hy hS H;refine⟨fun h=>(by rw[h] at hr;cases hr),fun j hj=>?_⟩;by_cases hji:j=i
  ·subst hji;exact hy.wpOp hi hS ⟨fun _=>hS,H⟩
  ·have:=ready_mono hj hji;rw[H.1] at this
   cases this
|succ fuel ih=>
  intro listed a w hfree hr hy hS H;refine⟨fun h=>(by rw[h] at hr;cases hr),fun j hj=>?_⟩;by_cases hji:j=i
  ·subst hji;exact hy.wpOp hi hS ⟨fun _=>hS,H⟩
  ·have hiun:=QYb (mem_ready.1 hr).1;obtain⟨hjun,oj,hoj,hall⟩:=mem_ready.1 hj;have hjst:j≠st:=fun h=>by rw[h,hst] at hoj;cases hoj
   have hnot:∀e∈oj.after,Region.binds md e=true→e.on≠i:=fun e he hb heq=>by
    have h1:=hall e he hb;rw[heq,hiun] at h1
    cases h1
   have hstep:=wpOp_putIf hoj (hfree j oj hoj hji hjun hnot) (fun cs b=>hsel i oi cs b hi) (fun cs b=>hsel j oj cs b hoj) hQ hy (H.2 j (ready_mono hj hji));refine wpOp_mono (fun a' w' h3=>⟨h3.2.1,ih (listed.setIfInBounds j true) a' w' ?_ (ready_mono hr (Ne.symm hji)) h3.1 (h3.2.1 hjst) ?_⟩) hstep
   ·intro k ok hk hki hun hno;refine hfree k ok hk hki ?_ hno;by_cases hjk:j=k
    ·subst hjk;exact hjun
    ·rw[getD_set_ne true hjk] at hun;exact hun
   ·rw[Array.setIfInBounds_comm _ _ hji];exact h3.2.2
theorem Qe {st:Nat}(i:Nat)(d:Option Tmp)(v:Value){oi:Oper}{fuel:Nat}{listed:Array Bool}{a:Act}{w:World}(hi:ops[i]? = some oi)(hs:Region.noSelect ops=true)(hf:Region.free md ops listed i=true)(hr:(Region.ready md ops listed).contains i=true)(hst:ops[st]? = none)(hQ:∀c a w,Q (.panic c) (a.put oi.dst v) w→Q (.panic c) a w)(hS:S w)(hwant:Region.wanted oi (yielded ops a.tmps)=true)(hd:oi.dst=d)(hrun:∀w,S w→(execOp a.eval oi).run P w=.ok (.value v) w)(h:Qma P md ops Q S st fuel (listed.setIfInBounds i true) (a.put d v) w):Qma P md ops Q S st (fuel+1) listed a w:=by
 subst hd;exact QVj hst hi (Region.noSelect_spec hs) hQ fuel listed a w (Region.free_spec hi hf) (by simpa using hr) (.inl ⟨hwant,hrun⟩) hS h
end
theorem Zn {P:Program} {md:Region.Mode} {ops:Array Oper} {Q:Exit→Act→World→Prop} {S:World→Prop} {st:Nat} (i:Nat) (d:Option Tmp) (v:Value) {oi:Oper} {fuel:Nat} {listed:Array Bool} {a:Act} {w:World} (hS:S w) (hrun:∀w,S w→(execOp a.eval oi).run P w=.ok (.value v) w) (h:Qma P md ops Q S st fuel (listed.setIfInBounds i true) (a.put d v) w) (hi:ops[i]? = some oi:=by rfl) (hs:Region.noSelect ops=true:=by kernel_rfl) (hf:Region.free md ops listed i=true:=by kernel_rfl) (hr:(Region.ready md ops listed).contains i=true:=by kernel_rfl) (hst:ops[st]? = none:=by rfl) (hQ:∀c a w,Q (.panic c) (a.put oi.dst v) w→Q (.panic c) a w:=by exact fun _ _ _ h=>h) (hwant:Region.wanted oi (yielded ops a.tmps)=true:=by kernel_rfl) (hd:oi.dst=d:=by rfl):Qma P md ops Q S st (fuel+1) listed a w:=Qe i d v hi hs hf hr hst hQ hS hwant hd hrun h
theorem Zk {P:Program} {md:Region.Mode} {ops:Array Oper} {Q:Exit→Act→World→Prop} {S:World→Prop} {st:Nat} (i:Nat) (d:Option Tmp) (cs:List Nat) {oi:Oper} {fuel:Nat} {listed:Array Bool} {a:Act} {w:World} (hS:S w) (h:Qma P md ops Q S st fuel (listed.setIfInBounds i true) (a.put d undef) w) (hi:ops[i]? = some oi:=by rfl) (hs:Region.noSelect ops=true:=by kernel_rfl) (hf:Region.free md ops listed i=true:=by kernel_rfl) (hr:(Region.ready md ops listed).contains i=true:=by kernel_rfl) (hw:(QQe md ops st i cs&&cs.all fun c=>!listed.getD c true)=true:=by kernel_rfl) (hQ:∀c a w,Q (.panic c) (a.put oi.dst undef) w→Q (.panic c) a w:=by exact fun _ _ _ h=>h) (hwant:Region.wanted oi (yielded ops a.tmps)=false:=by kernel_rfl) (hd:oi.dst=d:=by rfl):Qma P md ops Q S st (fuel+1) listed a w:=QA i d cs hi hs hf hr hw hQ hS hwant hd h
theorem Yn {P:Program} {md:Region.Mode} {ops:Array Oper} {Q:Exit→Act→World→Prop} {S:World→Prop} {st:Nat} (i d:Nat) {v:Value} {oi:Oper} {fuel:Nat} {listed:Array Bool} {a:Act} {w:World} (h:Qma P md ops Q S st fuel (listed.setIfInBounds i true) (a.put (some d) v) w) (hi:ops[i]? = some oi:=by rfl) (hS:S w:=by exact hS0) (hrun:∀w,S w→(execOp a.eval oi).run P w=.ok (.value v) w:=by intro w hS;(try simp only[and_assoc] at hS);repeat (obtain⟨_,hS⟩:_∧_:=hS);go_simp;rfl) (hs:Region.noSelect ops=true:=by kernel_rfl) (hf:Region.free md ops listed i=true:=by kernel_rfl) (hr:(Region.ready md ops listed).contains i=true:=by kernel_rfl) (hst:ops[st]? = none:=by rfl) (hQ:∀c a w,Q (.panic c) (a.put oi.dst v) w→Q (.panic c) a w:=by exact fun _ _ _ h=>h) (hwant:Region.wanted oi (yielded ops a.tmps)=true:=by kernel_rfl) (hd:oi.dst=some d:=by rfl):Qma P md ops Q S st (fuel+1) listed a w:=Qe i (some d) v hi hs hf hr hst hQ hS hwant hd hrun h
end
section
open Go.RowKit
variable [Base]
theorem Qff {s:QSet}{b:Bool}(hb:setB s=b){u:Value}{w:World}(h:Qi w u s.words):Calls Tryz.prog 90 #[.agg #[iv s.width,u]] w (Qia b w):=hb▸QOj s u w h
def Qke (l:List Cp)(k:Nat):Option Cp:=if k=0 then none else l[k-1]?
theorem Qcn {w:Int}{l:List Cp}{k:Nat}{c:Cp}(h:l[k]? = some c):Qnc w (Qke l k) (l.drop k)=((inC w c&&(match Qke l k with|none=>true|some q=>befC q c))&&Qnc w (Qke l (k+1)) (l.drop (k+1))):=by
 obtain⟨hk,rfl⟩:=List.getElem?_eq_some_iff.1 h;rw[List.drop_eq_getElem_cons hk];show((inC w l[k]&&(match Qke l k with|none=>true|some q=>befC q l[k]))&&Qnc w (some l[k]) (l.drop (k+1)))=_;have e:Qke l (k+1)=some l[k]:=by
  unfold Qke;rw[if_neg ZO,Nat.add_sub_cancel,List.getElem?_eq_getElem hk]
 rw[e]
theorem Qng (t:Qw)(gu ku cu:Value)(w:World)(h:Qja w gu ku cu t):Calls Tryz.prog 72 #[trV t gu ku cu] w (Qia (Qtd t) w):=by
 obtain⟨⟨gw,gl⟩,⟨kw,kl⟩,cs⟩:=t;have HG:=Zh (fun (x:World) (b:Below w.heap.size w x)=>h.gen.below b);have HK:=Zh (fun (x:World) (b:Below w.heap.size w x)=>h.kill.below b);obtain⟨ga,gc,rfl,-,-,-,-⟩:=h.gen.cell;obtain⟨ka,kc,rfl,-,-,-,-⟩:=h.kill.cell;obtain⟨ca,cc,rfl,h63,-,-,hcc⟩:=h.cops.cell;simp only at HG HK h63 hcc;have HC:=Zh hcc;have HT:=Zh (show Qtd ⟨⟨gw,gl⟩,⟨kw,kl⟩,cs⟩=(setB ⟨gw,gl⟩&&(setB ⟨kw,kl⟩&&(decide (gw=kw)&&(decide (cs.length≤64)&&Qnc gw none cs)))) from rfl);obtain⟨r,hr⟩:=Ze (Qtd ⟨⟨gw,gl⟩,⟨kw,kl⟩,cs⟩);rw[hr] at HT ⊢;simp only[trV];obtain⟨gn,hgn⟩:=Ze gl.length;obtain⟨kn,hkn⟩:=Ze kl.length;obtain⟨n,hn⟩:=Ze cs.length;rw[hgn] at HG ⊢;rw[hkn] at HK ⊢;rw[hn] at h63 HT ⊢;unfold maxLen at h63;have HN:=Zh hn;obtain⟨q,hq⟩:=Ze w.heap.size;obtain⟨W,hW⟩:=Ze (w.alloc (.cells #[iv gw,.slice ga gn gc,iv kw,.slice ka kn kc,.slice ca n cc] 55));have HX:=Zh (show W.heap[q]? = some (.cells #[iv gw,.slice ga gn gc,iv kw,.slice ka kn kc,.slice ca n cc] 55 (0,0)) by rw[←hW,←hq];exact heap_alloc_new _ _);have BW:=Zh (show Below q w W by rw[←hW,←hq];exact Zb);have HWW:=Zh hW;have HQ:=Zh hq;obtain⟨b1,hb1⟩:=Ze (setB ⟨gw,gl⟩);obtain⟨b2,hb2⟩:=Ze (setB ⟨kw,kl⟩);have K1:=Zh (fun (x:World) (b:Below w.heap.size w x)=>Qff hb1 (HG.o x b));have K2:=Zh (fun (x:World) (b:Below w.heap.size w x)=>Qff hb2 (HK.o x b));rw[hb1,hb2] at HT;simp only at K1 K2;clear h hcc hr hgn hkn hn hW hb1 hb2 HG HK;obtain⟨x0,x1,x2,x3,x4⟩:=QJ HX.o;go_enter Tryz.func72,Tryz.ntmps72;go_upto_region 1 with(fail)
 rw[show w.alloc (.cells #[iv gw,.slice ga gn gc,iv kw,.slice ka kn kc,.slice ca n cc] 55)=W from HWW.o]
 try rw[hq]
 clear hq;go_wp2_with fail;refine(K1.o W (HQ.o.symm▸BW.o)).mono ?_;rintro e w1 ⟨rfl,c1⟩;have HX1:=Zh (Qc HX.o c1 (Qb HX.o));have HB1:=Zh (BW.o.trans (c1.mono (by have:=BW.o.size;have:=HQ.o;omega)));clear c1 x0 x1 x2 x3 x4;obtain⟨x0,x1,x2,x3,x4⟩:=QJ HX1.o
 cases b1 with
|false=>
  have HF:=Zh (show r=false by rw[HT.o];rfl);go_wp2;go_ret;exact⟨Qyb HF.o.symm,HQ.o.symm▸HB1.o⟩
|true=>
 go_wp2_with fail;refine(K2.o w1 (HQ.o.symm▸HB1.o)).mono ?_;rintro e w2 ⟨rfl,c2⟩;have HX2:=Zh (Qc HX1.o c2 (Qb HX1.o));have HB2:=Zh (HB1.o.trans (c2.mono (by have:=HB1.o.size;have:=HQ.o;omega)));clear c2 x0 x1 x2 x3 x4;obtain⟨x0,x1,x2,x3,x4⟩:=QJ HX2.o
 cases b2 with
|false=>
  have HF:=Zh (show r=false by rw[HT.o];rfl);go_wp2;go_ret;exact⟨Qyb HF.o.symm,HQ.o.symm▸HB2.o⟩
|true=>
 by_cases hw:gw=kw;rotate_left
 ·have HF:=Zh (show r=false by rw[HT.o];simp[hw]);have t1:(gw != kw)=true:=by simpa using hw
  clear hw;go_wp2;go_ret;exact⟨Qyb HF.o.symm,HQ.o.symm▸HB2.o⟩
 have t1:(gw != kw)=false:=by simpa using hw
 by_cases hn64:64<n
 ·have HF:=Zh (show r=false by rw[HT.o];simp;omega);clear hw;go_wp2;go_ret;exact⟨Qyb HF.o.symm,HQ.o.symm▸HB2.o⟩
 have HR:=Zh (show r=Qnc gw (Qke cs 0) (cs.drop 0) by rw[HT.o];simp[hw,Qke];omega);clear hw;go_wp2;clear x0 x1 x2 x3 x4;go_loopw [33] (fun y wr=>∃k:Nat,k≤n∧y=.int .i64 k∧Hid (Below w2.heap.size w2 wr)∧w2.heap.size≤wr.heap.size∧Hid (r=Qnc gw (Qke cs k) (cs.drop k))) (fun y _=>n-(intOf y).toNat)
 case atStart=>exact⟨0,Nat.zero_le _,rfl,Below.refl _ _,Nat.le_refl _,HR.o⟩
 case round=>
  obtain⟨k,hk,rfl,HB,hsr,HRk⟩:=hrel;have HBA:=Zh (HB2.o.trans (HB.o.mono (by have:=HB2.o.size;have:=HQ.o;omega)));by_cases hlt:k<n;rotate_left
  ·have HF:=Zh (show r=true by rw[HRk.o,List.drop_eq_nil_of_le (by rw[HN.o];omega)];rfl);go_wp2;go_ret;exact⟨Qyb HF.o.symm,HQ.o.symm▸HBA.o⟩
  ·obtain⟨y,hy⟩:∃y,cs[k]? = some y:=⟨_,List.getElem?_eq_getElem (by rw[HN.o];exact hlt)⟩;obtain⟨b4,o4,rfl,hb4,g0,g1⟩:=HC.o k y hy;have HST:=Zh (Qcn (w:=gw) hy);obtain⟨y1,y2⟩:=y;simp only at g0 g1;have hbq:b4<q:=by have:=HQ.o;omega
   have g0:=(HBA.o.cell (p:=⟨b4,o4+k*2,none⟩) hbq).trans g0;have g1:=(HBA.o.cell (p:=⟨b4,o4+k*2+1,none⟩) hbq).trans g1;have HXr:=Zh (Qc HX2.o HB.o (Qb HX2.o));obtain⟨U,hU⟩:=Ze (wr.alloc (.cells #[iv y1,iv y2] CT));obtain⟨xb,hxb⟩:=Ze wr.heap.size;have BU:=Zh (show Below xb wr U by rw[←hU,←hxb];exact Zb);have HC2:=Zh (show U.heap[xb]? = some (.cells #[iv y1,iv y2] CT (0,0)) by rw[←hU,←hxb];exact heap_alloc_new _ _);have HXU:=Zh (Qc HXr.o BU.o (by have:=Qb HXr.o;omega));have HUU:=Zh hU;have HXB:=Zh hxb;have HBU:=Zh (show Below w2.heap.size w2 U from HB.o.trans (BU.o.mono ZO));have HS0:=Zh (show ∀w',Below U.heap.size U w'→(w'.cell? ⟨q,0,none⟩=some (iv gw)∧w'.cell? ⟨q,1,none⟩=some (.slice ga gn gc)∧w'.cell? ⟨q,2,none⟩=some (iv kw)∧w'.cell? ⟨q,3,none⟩=some (.slice ka kn kc)∧w'.cell? ⟨q,4,none⟩=some (.slice (some ⟨b4,o4,none⟩) n cc)∧w'.cell? ⟨xb,0,none⟩=some (iv y1)∧w'.cell? ⟨xb,1,none⟩=some (iv y2)) from fun w' hb=>by
    obtain⟨a0,a1,a2,a3,a4⟩:=QJ (Qc HXU.o hb (Qb HXU.o));obtain⟨c0,c1⟩:=Qq (Qc HC2.o hb (Qb HC2.o));exact⟨a0,a1,a2,a3,a4,c0,c1⟩)
   obtain⟨t1',ht1⟩:∃b,bitB gw y1=b:=⟨_,rfl⟩;obtain⟨t2',ht2⟩:∃b,bitB gw y2=b:=⟨_,rfl⟩;have HIN:=Zh (show inC gw (y1,y2)=(t1'&&t2') by rw[←ht1,←ht2];rfl);have KB1:=Zh (fun (x:World)=>ht1▸QJl ⟨⟨gw,gl⟩,⟨kw,kl⟩,cs⟩ ga ka (some ⟨b4,o4,none⟩) gn gc kn kc n cc y1 x);have KB2:=Zh (fun (x:World)=>ht2▸QJl ⟨⟨gw,gl⟩,⟨kw,kl⟩,cs⟩ ga ka (some ⟨b4,o4,none⟩) gn gc kn kc n cc y2 x);simp only[trV] at KB1 KB2;clear hy hU ht1 ht2;go_upto_region 6 with(fail)
   rw[show wr.alloc (.cells #[iv y1,iv y2] CT)=U from HUU.o]
   try rw[hxb]
   clear hxb g0 g1;have FIN:=Zh (show ∀x,Below U.heap.size U x→Below w.heap.size w x from fun x hb=>HQ.o.symm▸HB2.o.trans ((HBU.o.trans (hb.mono HBU.o.size)).mono (by have:=HB2.o.size;have:=HQ.o;omega)));have FIN2:=Zh (show ∀x,Below U.heap.size U x→Below w2.heap.size w2 x from fun x hb=>HBU.o.trans (hb.mono HBU.o.size))
   cases t1' with
  |false=>
    have HF:=Zh (show r=false by rw[HRk.o,HST.o,HIN.o];rfl);have HSS:=HS0;refine Zr (fun w'=>w'.cell? ⟨q,0,none⟩=some (iv gw)∧w'.cell? ⟨q,1,none⟩=some (.slice ga gn gc)∧w'.cell? ⟨q,2,none⟩=some (iv kw)∧w'.cell? ⟨q,3,none⟩=some (.slice ka kn kc)∧w'.cell? ⟨q,4,none⟩=some (.slice (some ⟨b4,o4,none⟩) n cc)∧w'.cell? ⟨xb,0,none⟩=some (iv y1)∧w'.cell? ⟨xb,1,none⟩=some (iv y2)) 26 (HSS.o (U.drewN 1) (Qp (Below.refl _ _) 1)) fun hS0=>?_
    refine Yc 0 38 [3,5,9,12] ?_;refine Yc 1 39 [2,3,5,9,12] ?_;refine Yc 2 40 [3,5,9,12] ?_;refine QP 3 (some 41) 137 #[.agg #[iv gw,.slice ga gn gc,iv kw,.slice ka kn kc,.slice (some ⟨b4,o4,none⟩) n cc],iv y1] rfl ZK ZK ZK rfl ?_;refine(KB1.o (U.drewN 1)).mono ?_;rintro e m1 ⟨rfl,b1⟩;have BB1:=Zh ((Qp (Below.refl U.heap.size U) 1).trans b1);clear hS0 b1;have hS0:=HSS.o _ BB1.o;refine⟨_,rfl,fun _=>hS0,?_⟩;refine Yc 4 42 [5,9,12] ?_;refine Yc 5 43 [9,12] ?_;refine Zk 6 (some 44) [9,12] hS0 ?_;refine Zk 7 (some 45) [8,9,12] hS0 ?_;refine Zk 8 (some 46) [9,12] hS0 ?_;refine Zk 9 (some 47) [12] hS0 ?_;refine Zk 10 (some 48) [11,12] hS0 ?_;refine Yc 11 49 [12] ?_;refine Yd 12 50 ?_;refine Zk 13 (some 51) [14,15,25] hS0 ?_;refine Zk 14 (some 52) [15,25] hS0 ?_;refine Zk 15 (some 53) [25] hS0 ?_;refine Zk 16 (some 54) [17,20,21,23,24,25] hS0 ?_;refine Zk 17 (some 55) [20,21,23,24,25] hS0 ?_;refine Zk 18 (some 56) [19,20,21,23,24,25] hS0 ?_;refine Zk 19 (some 57) [20,21,23,24,25] hS0 ?_;refine Zk 20 (some 58) [21,23,24,25] hS0 ?_;refine Zk 21 (some 59) [23,24,25] hS0 ?_;refine Zk 22 (some 60) [23,24,25] hS0 ?_;refine Zk 23 (some 61) [24,25] hS0 ?_;refine Zk 24 (some 62) [25] hS0 ?_;refine Zs 25 (some 63) hS0 ?_;refine QW 26 (some 64) (.bool true) m1 rfl ZK ZK (by go_simp) rfl (fun h=>absurd rfl h) ?_;refine Qu ZK ?_ _;generalize hA:Act.put _ _ _=A0;simp only[Qba,Qaa,Zu,Zv,Zw] at hA;subst hA;have BF:=Zh (FIN.o _ BB1.o);clear hS0;go_wp2;go_ret;exact⟨Qyb HF.o.symm,BF.o⟩
  |true=>
   cases t2' with
  |false=>
    have HF:=Zh (show r=false by rw[HRk.o,HST.o,HIN.o];rfl);have HSS:=HS0;refine Zr (fun w'=>w'.cell? ⟨q,0,none⟩=some (iv gw)∧w'.cell? ⟨q,1,none⟩=some (.slice ga gn gc)∧w'.cell? ⟨q,2,none⟩=some (iv kw)∧w'.cell? ⟨q,3,none⟩=some (.slice ka kn kc)∧w'.cell? ⟨q,4,none⟩=some (.slice (some ⟨b4,o4,none⟩) n cc)∧w'.cell? ⟨xb,0,none⟩=some (iv y1)∧w'.cell? ⟨xb,1,none⟩=some (iv y2)) 26 (HSS.o (U.drewN 1) (Qp (Below.refl _ _) 1)) fun hS0=>?_
    refine Yc 0 38 [3,5,9,12] ?_;refine Yc 1 39 [2,3,5,9,12] ?_;refine Yc 2 40 [3,5,9,12] ?_;refine QP 3 (some 41) 137 #[.agg #[iv gw,.slice ga gn gc,iv kw,.slice ka kn kc,.slice (some ⟨b4,o4,none⟩) n cc],iv y1] rfl ZK ZK ZK rfl ?_;refine(KB1.o (U.drewN 1)).mono ?_;rintro e m1 ⟨rfl,b1⟩;have BB1:=Zh ((Qp (Below.refl U.heap.size U) 1).trans b1);clear hS0 b1;have hS0:=HSS.o _ BB1.o;refine⟨_,rfl,fun _=>hS0,?_⟩;refine Yc 4 42 [5,9,12] ?_;refine Yc 5 43 [9,12] ?_;refine Yc 6 44 [9,12] ?_;refine Yc 7 45 [8,9,12] ?_;refine Yc 8 46 [9,12] ?_;refine QP 9 (some 47) 137 #[.agg #[iv gw,.slice ga gn gc,iv kw,.slice ka kn kc,.slice (some ⟨b4,o4,none⟩) n cc],iv y2] rfl ZK ZK ZK rfl ?_;refine(KB2.o m1).mono ?_;rintro e m2 ⟨rfl,b2⟩;have BB2:=Zh (BB1.o.trans (b2.mono BB1.o.size));clear hS0 b2;have hS0:=HSS.o _ BB2.o;refine⟨_,rfl,fun _=>hS0,?_⟩;refine Yc 10 48 [11,12] ?_;refine Yc 11 49 [12] ?_;refine Yd 12 50 ?_;refine Zk 13 (some 51) [14,15,25] hS0 ?_;refine Zk 14 (some 52) [15,25] hS0 ?_;refine Zk 15 (some 53) [25] hS0 ?_;refine Zk 16 (some 54) [17,20,21,23,24,25] hS0 ?_;refine Zk 17 (some 55) [20,21,23,24,25] hS0 ?_;refine Zk 18 (some 56) [19,20,21,23,24,25] hS0 ?_;refine Zk 19 (some 57) [20,21,23,24,25] hS0 ?_;refine Zk 20 (some 58) [21,23,24,25] hS0 ?_;refine Zk 21 (some 59) [23,24,25] hS0 ?_;refine Zk 22 (some 60) [23,24,25] hS0 ?_;refine Zk 23 (some 61) [24,25] hS0 ?_;refine Zk 24 (some 62) [25] hS0 ?_;refine Zs 25 (some 63) hS0 ?_;refine QW 26 (some 64) (.bool true) m2 rfl ZK ZK (by go_simp) rfl (fun h=>absurd rfl h) ?_;refine Qu ZK ?_ _;generalize hA:Act.put _ _ _=A0;simp only[Qba,Qaa,Zu,Zv,Zw] at hA;subst hA;have BF:=Zh (FIN.o _ BB2.o);clear hS0;go_wp2;go_ret;exact⟨Qyb HF.o.symm,BF.o⟩
  |true=>
   by_cases hk0:k=0
   ·subst hk0;have HF:=Zh (show r=Qnc gw (Qke cs 1) (cs.drop 1) by rw[HRk.o,HST.o,HIN.o];simp[Qke]);have HSS:=HS0;refine Zr (fun w'=>w'.cell? ⟨q,0,none⟩=some (iv gw)∧w'.cell? ⟨q,1,none⟩=some (.slice ga gn gc)∧w'.cell? ⟨q,2,none⟩=some (iv kw)∧w'.cell? ⟨q,3,none⟩=some (.slice ka kn kc)∧w'.cell? ⟨q,4,none⟩=some (.slice (some ⟨b4,o4,none⟩) n cc)∧w'.cell? ⟨xb,0,none⟩=some (iv y1)∧w'.cell? ⟨xb,1,none⟩=some (iv y2)) 26 (HSS.o (U.drewN 1) (Qp (Below.refl _ _) 1)) fun hS0=>?_
    refine Yc 0 38 [3,5,9,12] ?_;refine Yc 1 39 [2,3,5,9,12] ?_;refine Yc 2 40 [3,5,9,12] ?_;refine QP 3 (some 41) 137 #[.agg #[iv gw,.slice ga gn gc,iv kw,.slice ka kn kc,.slice (some ⟨b4,o4,none⟩) n cc],iv y1] rfl ZK ZK ZK rfl ?_;refine(KB1.o (U.drewN 1)).mono ?_;rintro e m1 ⟨rfl,b1⟩;have BB1:=Zh ((Qp (Below.refl U.heap.size U) 1).trans b1);clear hS0 b1;have hS0:=HSS.o _ BB1.o;refine⟨_,rfl,fun _=>hS0,?_⟩;refine Yc 4 42 [5,9,12] ?_;refine Yc 5 43 [9,12] ?_;refine Yc 6 44 [9,12] ?_;refine Yc 7 45 [8,9,12] ?_;refine Yc 8 46 [9,12] ?_;refine QP 9 (some 47) 137 #[.agg #[iv gw,.slice ga gn gc,iv kw,.slice ka kn kc,.slice (some ⟨b4,o4,none⟩) n cc],iv y2] rfl ZK ZK ZK rfl ?_;refine(KB2.o m1).mono ?_;rintro e m2 ⟨rfl,b2⟩;have BB2:=Zh (BB1.o.trans (b2.mono BB1.o.size));clear hS0 b2;have hS0:=HSS.o _ BB2.o;refine⟨_,rfl,fun _=>hS0,?_⟩;refine Yc 10 48 [11,12] ?_;refine Yc 11 49 [12] ?_;refine Yd 12 50 ?_;refine Yc 13 51 [14,15,25] ?_;refine Yc 14 52 [15,25] ?_;refine Yc 15 53 [25] ?_;refine Zk 16 (some 54) [17,20,21,23,24,25] hS0 ?_;refine Zk 17 (some 55) [20,21,23,24,25] hS0 ?_;refine Zk 18 (some 56) [19,20,21,23,24,25] hS0 ?_;refine Zk 19 (some 57) [20,21,23,24,25] hS0 ?_;refine Zk 20 (some 58) [21,23,24,25] hS0 ?_;refine Zk 21 (some 59) [23,24,25] hS0 ?_;refine Zk 22 (some 60) [23,24,25] hS0 ?_;refine Zk 23 (some 61) [24,25] hS0 ?_;refine Zk 24 (some 62) [25] hS0 ?_;refine Yd 25 63 ?_;refine QW 26 (some 64) (.bool false) m2 rfl ZK ZK (by go_simp) rfl (fun h=>absurd rfl h) ?_;refine Qu ZK ?_ _;generalize hA:Act.put _ _ _=A0;simp only[Qba,Qaa,Zu,Zv,Zw] at hA;subst hA;have BF:=Zh (FIN2.o _ BB2.o);clear hS0;go_wp2;go_roundw
    case rel=>exact⟨1,by omega,by first|rfl|go_num,BF,BF.o.size,HF⟩
    case measure=>simp[intOf];omega
   ·have hkp:0<k:=by omega
    have hkI:(0:Int)<(k:Int):=by omega
    obtain⟨p,hp⟩:∃p,cs[k-1]? = some p:=⟨_,List.getElem?_eq_getElem (by rw[HN.o];omega)⟩;obtain⟨b5,o5,e5,hb5,g0,g1⟩:=HC.o (k-1) p hp;injection e5 with e5
    injection e5 with e5 e6
    subst e5 e6;have HPV:=Zh (show Qke cs k=some p by unfold Qke;rw[if_neg hk0,hp]);obtain⟨p1,p2⟩:=p;simp only at g0 g1;have BAU:=HBA.o.trans (BU.o.mono (by have:=HBA.o.size;have:=HXB.o;have:=HQ.o;omega));have g0:=(BAU.cell (p:=⟨b4,o4+(k-1)*2,none⟩) hbq).trans g0;have g1:=(BAU.cell (p:=⟨b4,o4+(k-1)*2+1,none⟩) hbq).trans g1;have hbU:b4<U.heap.size:=by have:=Qb HXU.o;omega
    have HSS:=Zh (show ∀w',Below U.heap.size U w'→(w'.cell? ⟨q,0,none⟩=some (iv gw)∧w'.cell? ⟨q,1,none⟩=some (.slice ga gn gc)∧w'.cell? ⟨q,2,none⟩=some (iv kw)∧w'.cell? ⟨q,3,none⟩=some (.slice ka kn kc)∧w'.cell? ⟨q,4,none⟩=some (.slice (some ⟨b4,o4,none⟩) n cc)∧w'.cell? ⟨xb,0,none⟩=some (iv y1)∧w'.cell? ⟨xb,1,none⟩=some (iv y2)∧w'.cell? ⟨b4,o4+(k-1)*2,none⟩=some (iv p1)∧w'.cell? ⟨b4,o4+(k-1)*2+1,none⟩=some (iv p2)) from fun w' hb=>by
     obtain⟨a0,a1,a2,a3,a4,c0,c1⟩:=HS0.o w' hb;exact⟨a0,a1,a2,a3,a4,c0,c1,(hb.cell (p:=⟨b4,_,none⟩) hbU).trans g0,(hb.cell (p:=⟨b4,_,none⟩) hbU).trans g1⟩)
    have hbf:=QMs (p1,p2) (y1,y2);have hcm:=fun (x:World)=>Qen p1 p2 y1 y2 x
    generalize cmpC (p1,p2) (y1,y2)=cm at hbf hcm;have KC:=Zh hcm;have HBF:=Zh hbf;have hk1:((k:Int)-1)=((k-1:Nat):Int):=by omega
    have HF:=Zh (show r=(befC (p1,p2) (y1,y2)&&Qnc gw (Qke cs (k+1)) (cs.drop (k+1))) by rw[HRk.o,HST.o,HIN.o,HPV.o];simp);have hkw:IntKind.i64.wrap ((k-1:Nat):Int)=((k-1:Nat):Int):=IntWalk.i64_in _ ZO;have hk2:(0:Int)≤((k-1:Nat):Int):=by omega
    have hk3:((k-1:Nat):Int)<(n:Int):=by omega
    clear hp g0 g1 BAU hbf hcm hk0;refine Zr (fun w'=>w'.cell? ⟨q,0,none⟩=some (iv gw)∧w'.cell? ⟨q,1,none⟩=some (.slice ga gn gc)∧w'.cell? ⟨q,2,none⟩=some (iv kw)∧w'.cell? ⟨q,3,none⟩=some (.slice ka kn kc)∧w'.cell? ⟨q,4,none⟩=some (.slice (some ⟨b4,o4,none⟩) n cc)∧w'.cell? ⟨xb,0,none⟩=some (iv y1)∧w'.cell? ⟨xb,1,none⟩=some (iv y2)∧w'.cell? ⟨b4,o4+(k-1)*2,none⟩=some (iv p1)∧w'.cell? ⟨b4,o4+(k-1)*2+1,none⟩=some (iv p2)) 26 (HSS.o (U.drewN 1) (Qp (Below.refl _ _) 1)) fun hS0=>?_
    refine Yc 0 38 [3,5,9,12] ?_;refine Yc 1 39 [2,3,5,9,12] ?_;refine Yc 2 40 [3,5,9,12] ?_;refine QP 3 (some 41) 137 #[.agg #[iv gw,.slice ga gn gc,iv kw,.slice ka kn kc,.slice (some ⟨b4,o4,none⟩) n cc],iv y1] rfl ZK ZK ZK rfl ?_;refine(KB1.o (U.drewN 1)).mono ?_;rintro e m1 ⟨rfl,b1⟩;have BB1:=Zh ((Qp (Below.refl U.heap.size U) 1).trans b1);clear hS0 b1;have hS0:=HSS.o _ BB1.o;refine⟨_,rfl,fun _=>hS0,?_⟩;refine Yc 4 42 [5,9,12] ?_;refine Yc 5 43 [9,12] ?_;refine Yc 6 44 [9,12] ?_;refine Yc 7 45 [8,9,12] ?_;refine Yc 8 46 [9,12] ?_;refine QP 9 (some 47) 137 #[.agg #[iv gw,.slice ga gn gc,iv kw,.slice ka kn kc,.slice (some ⟨b4,o4,none⟩) n cc],iv y2] rfl ZK ZK ZK rfl ?_;refine(KB2.o m1).mono ?_;rintro e m2 ⟨rfl,b2⟩;have BB2:=Zh (BB1.o.trans (b2.mono BB1.o.size));clear hS0 b2;have hS0:=HSS.o _ BB2.o;refine⟨_,rfl,fun _=>hS0,?_⟩;refine Yc 10 48 [11,12] ?_;refine Yc 11 49 [12] ?_;refine Yd 12 50 ?_;refine Yc 13 51 [14,15,25] ?_;refine Yc 14 52 [15,25] ?_;refine Yc 15 53 [25] ?_;refine Yc 16 54 [17,20,21,23,24,25] ?_;refine Yc 17 55 [20,21,23,24,25] ?_;refine Yc 18 56 [19,20,21,23,24,25] ?_;refine Yc 19 57 [20,21,23,24,25] ?_;refine Yc 20 58 [21,23,24,25] ?_;refine Yc 21 59 [23,24,25] ?_;refine Yc 22 60 [23,24,25] ?_;refine QP 23 (some 61) 138 #[.agg #[iv p1,iv p2],.agg #[iv y1,iv y2]] rfl ZK ZK ZK rfl ?_;refine(KC.o m2).mono ?_;rintro e m3 ⟨rfl,b3⟩;have BB3:=Zh (BB2.o.trans (b3.mono BB2.o.size));clear hS0 b3;have hS0:=HSS.o _ BB3.o;refine⟨_,rfl,fun _=>hS0,?_⟩;refine Yc 24 62 [25] ?_;refine Yd 25 63 ?_;refine QW 26 (some 64) (.bool (decide (0≤cm))) m3 rfl ZK ZK (by go_simp) rfl (fun h=>absurd rfl h) ?_;refine Qu ZK ?_ _;generalize hA:Act.put _ _ _=A0;simp only[Qba,Qaa,Zu,Zv,Zw] at hA;subst hA;have BF:=Zh (FIN.o _ BB3.o);have BF2:=Zh (FIN2.o _ BB3.o);clear hS0;by_cases hc0:0≤cm
    ·have HF2:=Zh (show r=false by
      rw[HF.o];have:=HBF.o;rw[show decide (0≤cm)=true by simpa using hc0] at this;rw[show befC (p1,p2) (y1,y2)=false by simpa using this.symm];rfl)
     go_wp2;go_ret;exact⟨Qyb HF2.o.symm,BF.o⟩
    ·have HF2:=Zh (show r=Qnc gw (Qke cs (k+1)) (cs.drop (k+1)) by
      rw[HF.o];have:=HBF.o;rw[show decide (0≤cm)=false by simpa using hc0] at this;rw[show befC (p1,p2) (y1,y2)=true by simpa using this.symm];rfl)
     go_wp2;go_roundw
     case rel=>exact⟨k+1,by omega,by go_num,BF2,BF2.o.size,HF2⟩
     case measure=>simp[intOf];omega
end
section
open Go.RowKit
variable [Base]
theorem Qwb {w:World}{b:Nat}{a0 a1:Value}{t:TypeId}{fr:Nat×Nat}(h:w.heap[b]? = some (.cells #[a0,a1] t fr))(x:Value):(w.setCell ⟨b,0,none⟩ x).heap[b]? = some (.cells #[x,a1] t fr):=by
 simp[World.setCell,Array.getElem?_modify,h]
theorem Qvb {w:World}{b:Nat}{a0 a1:Value}{t:TypeId}{fr:Nat×Nat}(h:w.heap[b]? = some (.cells #[a0,a1] t fr))(x:Value):(w.setCell ⟨b,1,none⟩ x).heap[b]? = some (.cells #[a0,x] t fr):=by
 simp[World.setCell,Array.getElem?_modify,h]
theorem set5 {w:World}{b:Nat}{a0 a1 a2 a3 a4:Value}{t:TypeId}{fr:Nat×Nat}(h:w.heap[b]? = some (.cells #[a0,a1,a2,a3,a4] t fr))(x0 x1 x2 x3 x4:Value):
  (((((w.setCell ⟨b,0,none⟩ x0).setCell ⟨b,1,none⟩ x1).setCell ⟨b,2,none⟩ x2).setCell ⟨b,3,none⟩ x3).setCell ⟨b,4,none⟩ x4).heap[b]? = some (.cells #[x0,x1,x2,x3,x4] t fr):=by
 simp[World.setCell,Array.getElem?_modify,h]
theorem Qdj {w:World}{b p:Nat}{o:Obj}(h:w.heap[p]? = some o)(hne:p≠b)(x0 x1 x2 x3 x4:Value):
  (((((w.setCell ⟨b,0,none⟩ x0).setCell ⟨b,1,none⟩ x1).setCell ⟨b,2,none⟩ x2).setCell ⟨b,3,none⟩ x3).setCell ⟨b,4,none⟩ x4).heap[p]? = some o:=by
 rw[Below.heap_setCell _ _ _ _ hne,Below.heap_setCell _ _ _ _ hne,Below.heap_setCell _ _ _ _ hne,Below.heap_setCell _ _ _ _ hne,Below.heap_setCell _ _ _ _ hne];exact h
theorem Quc {T U:TypeId}{w:World}{b:Nat}(h:tyAt w b=some U)(hne:T≠U)(x0 x1 x2 x3 x4:Value):Qf T w (((((w.setCell ⟨b,0,none⟩ x0).setCell ⟨b,1,none⟩ x1).setCell ⟨b,2,none⟩ x2).setCell ⟨b,3,none⟩ x3).setCell ⟨b,4,none⟩ x4):=by
 have s:∀(w:World) (o:Nat) (x:Value),tyAt w b=some U→Qf T w (w.setCell ⟨b,o,none⟩ x)∧tyAt (w.setCell ⟨b,o,none⟩ x) b=some U:=fun w o x h=>⟨Qf.setCell h hne,by rw[QS];exact h⟩
 have s0:=s w 0 x0 h;have s1:=s _ 1 x1 s0.2;have s2:=s _ 2 x2 s1.2;have s3:=s _ 3 x3 s2.2;have s4:=s _ 4 x4 s3.2;exact s0.1.trans (s1.1.trans (s2.1.trans (s3.1.trans s4.1)))
def SetV (s:QSet)(w:World)(e:Ending)(w':World):Prop:=∃u,e=.returned (setV s u)∧Qi w' u s.words∧Below w.heap.size w w'
theorem Qog (s:QSet)(u:Value)(w:World)(h:Qi w u s.words)(hn:s.words.length≤1000000)(hbs:Base.b≤w.heap.size):Calls Tryz.prog 106 #[setV s u] w (SetV s w):=by
 have K:=Zh (fun (x:World) (b:Below w.heap.size w x)=>QXh u s.words.length (s.words.map uv) x (h.below b).1 (by rw[List.length_map];omega) (QDh s.words) hn);have HOK:=Zh h.2;obtain⟨ua0,uc0,rfl,-⟩:=h.cell;obtain⟨m,l⟩:=s;simp only at K HOK;simp only[setV];obtain⟨ln,hl⟩:=Ze l.length;simp only[hl] at K ⊢;have HL:=Zh hl;obtain⟨q,hq⟩:=Ze w.heap.size;obtain⟨W,hW⟩:=Ze ((w.alloc (.cells #[iv m,.slice ua0 ln uc0] 52)).alloc (.cells #[iv 0,.slice none 0 0] 52));have hsz:W.heap.size=q+2:=by rw[←hW,←hq];simp
 have BW:=Zh (show Below w.heap.size w W by rw[←hW];exact(Zb).alloc ZS _);have HX:=Zh (show W.heap[q]? = some (.cells #[iv m,.slice ua0 ln uc0] 52 (0,0)) by rw[←hW,←hq,Below.heap_alloc _ _ _ ZS];exact heap_alloc_new _ _);have HRW:=Zh (show W.heap[q+1]? = some (.cells #[iv 0,.slice none 0 0] 52 (0,0)) by rw[←hW,←hq];exact Qda _ _);have HWW:=Zh hW;have HQ:=Zh hq;have HSS:=Zh (show ∀w',Below W.heap.size W w'→(w'.cell? ⟨q,0,none⟩=some (iv m)∧w'.cell? ⟨q,1,none⟩=some (.slice ua0 ln uc0)) from fun w' hb=>Qq (Qc HX.o hb (Qb HX.o)));have HSZ:=Zh hsz;clear h hn hl hW hsz;go_enter Tryz.func106,Tryz.ntmps106;go_upto_region 1 with(fail)
 rw[show(w.alloc (.cells #[iv m,.slice ua0 ln uc0] 52)).alloc (.cells #[iv 0,.slice none 0 0] 52)=W from HWW.o]
 try rw[hq]
 clear hq;refine Zr (fun w'=>w'.cell? ⟨q,0,none⟩=some (iv m)∧w'.cell? ⟨q,1,none⟩=some (.slice ua0 ln uc0)) 6 (HSS.o (W.drewN 1) (Qp (Below.refl _ _) 1)) fun hS0=>?_
 refine Yd 0 3 ?_;refine Yd 1 4 ?_;refine Yd 2 5 ?_;refine Yd 3 6 ?_;refine QP 4 (some 7) 91 #[.slice ua0 ln uc0] rfl ZK ZK ZK rfl ?_;refine(K.o (W.drewN 1) (Qp (BW.o) 1)).mono ?_;rintro e m1 ⟨ua,uc,rfl,o1,b1⟩;have OO:=Zh o1;have BB1:=Zh ((Qp (Below.refl _ _) 1).trans b1:Below W.heap.size W m1);clear hS0 o1 b1;have hS0:=HSS.o _ BB1.o;refine⟨_,rfl,fun _=>hS0,?_⟩;refine Yd 5 8 ?_;have HR1:=Zh (Qc HRW.o BB1.o (by rw[HSZ.o];omega));have fz:=Qa HR1.o;have f0:=fz.2 0;have f1:=fz.2 1;have c0:=fz.1 0;have c1:=fz.1 1;simp only[Zx,Zy,Zz] at c0 c1;refine Qeb 6 none ((m1.setCell ⟨q+1,0,none⟩ (iv m)).setCell ⟨q+1,1,none⟩ (.slice ua ln uc)) rfl ZK ZK ?rs1 rfl (fun h=>absurd rfl h) ?_
 case rs1=>go_simp
 refine Qu ZK ?_ _;generalize hA:Act.put _ _ _=A0;simp only[Qba,Qaa,Zu,Zv,Zw] at hA;subst hA;clear hS0;go_wp2;have HT1:tyAt m1 (q+1)=some 52:=Qv HR1.o (by have:=HQ.o;omega);have o2:=Qza (g:=q+1) (j:=0) (x:=iv m) OO.o HT1 ZD;have HT2:tyAt (m1.setCell ⟨q+1,0,none⟩ (iv m)) (q+1)=some 52:=by rw[QS];exact HT1
 have o3:=Qza (g:=q+1) (j:=1) (x:=.slice ua ln uc) o2 HT2 ZD;have HB3:=Zh (show Below w.heap.size w ((m1.setCell ⟨q+1,0,none⟩ (iv m)).setCell ⟨q+1,1,none⟩ (.slice ua ln uc)) from(((BW.o.trans (BB1.o.mono BW.o.size)).setCell (by rw[HQ.o];show q≤q+1;omega) _).setCell (by rw[HQ.o];show q≤q+1;omega) _));have HO3:=Zh o3;have e2:((m1.setCell ⟨q+1,0,none⟩ (iv m)).setCell ⟨q+1,1,none⟩ (.slice ua ln uc)).heap[q+1]? = some (.cells #[iv m,.slice ua ln uc] 52 (0,0)):=Qvb (Qwb HR1.o _) _;obtain⟨g0,g1⟩:=Qq e2;clear o2 o3 HT1 HT2 e2 f0 f1 c0 c1 fz;go_wp2;refine bodyPost_ret (v:=.agg #[iv m,.slice ua ln uc]) (by simp[results,Tryz.results106,go_sem,g0,g1]) rfl ⟨_,rfl,⟨Qg.of_owns HO3.o,HOK.o⟩,HB3.o⟩
def QCl (r:Qw×Int)(w:World)(e:Ending)(w':World):Prop:=∃gu ku cu,e=.returned (.tuple #[trV r.1 gu ku cu,iv r.2])∧Qja w' gu ku cu r.1∧Below w.heap.size w w'
theorem Qzn (m:Nat)(hm:m≤256)(w:World)(hbs:Base.b≤w.heap.size):Calls Tryz.prog 46 #[iv m] w (QCl (idT m,0) w):=by
 obtain⟨q,hq⟩:=Ze w.heap.size;obtain⟨W0,hW0⟩:=Ze (w.alloc (.cells #[iv 0,.slice none 0 0,iv 0,.slice none 0 0,.slice none 0 0] 55));have B0:=Zh (show Below q w W0 by rw[←hW0,←hq];exact Zb);have H0:=Zh (show W0.heap[q]? = some (.cells #[iv 0,.slice none 0 0,iv 0,.slice none 0 0,.slice none 0 0] 55 (0,0)) by rw[←hW0,←hq];exact heap_alloc_new _ _);have HWW:=Zh hW0;have HQ:=Zh hq;clear hW0;go_enter Tryz.func46,Tryz.ntmps46;go_upto_region 1 with(fail)
 rw[show w.alloc (.cells #[iv 0,.slice none 0 0,iv 0,.slice none 0 0,.slice none 0 0] 55)=W0 from HWW.o];go_wp2_with fail;refine(Qxe m hm W0).mono ?_;rintro e w1 ⟨u,rfl,os,b1⟩;have HU:=Zh os.words;obtain⟨ga,gc,rfl,-⟩:=os.words.cell;have HGN:=Zh (show(Qy m).words.length=Qj m by simp[Qy]);rw[HGN.o] at HU ⊢;rw[show setV (Qy m) (.slice ga (Qj m) gc)=.agg #[iv m,.slice ga (Qj m) gc] from rfl];obtain⟨gn,hgn⟩:=Ze (Qj m);have hg5:gn≤5:=by rw[←hgn];unfold Qj;omega
 rw[hgn] at HGN HU ⊢;obtain⟨p,hp⟩:=Ze w1.heap.size;have hpq:q+1≤p:=by have:=b1.size;have:=Qb H0.o;omega
 obtain⟨W,hW⟩:=Ze (w1.alloc (.cells #[iv m,.slice ga gn gc] 52));have hsz:W.heap.size=p+1:=by rw[←hW,←hp];simp
 have A1:Below p w1 W:=by rw[←hW,←hp];exact Zb
 have HSZ:=Zh hsz;have HP1:W.heap[p]? = some (.cells #[iv m,.slice ga gn gc] 52 (0,0)):=by rw[←hW,←hp];exact heap_alloc_new _ _
 have HP:=Zh HP1;have BQ:=Zh (show Below q w W from B0.o.trans ((b1.trans (A1.mono (by have:=b1.size;omega))).mono (by have:=Qb H0.o;omega)));have HRW:=Zh (show W.heap[q]? = some (.cells #[iv 0,.slice none 0 0,iv 0,.slice none 0 0,.slice none 0 0] 55 (0,0)) from Qc (Qc H0.o b1 (Qb H0.o)) A1 ZO);have HUW:=Zh (show Qi W (.slice ga gn gc) (Qy m).words from HU.o.below (hp▸A1));have K:=Zh (fun (x:World) (b:Below W.heap.size W x)=>Qog (Qy m) (.slice ga gn gc) x (HUW.o.below b) (by rw[HGN.o];omega) (by have:=b.size;omega));have HSS:=Zh (show ∀w',Below W.heap.size W w'→(w'.cell? ⟨p,0,none⟩=some (iv m)∧w'.cell? ⟨p,1,none⟩=some (.slice ga gn gc)) from fun w' hb=>Qq (Qc HP.o hb (Qb HP.o)));have HWW:=Zh hW;obtain⟨x0,x1⟩:=Qq HP.o;clear hW hsz HP1 A1 b1 os hgn;go_upto_region 4 with(fail)
 try rw[hp]
 rw[show w1.alloc (.cells #[iv m,.slice ga gn gc] 52)=W from HWW.o];refine Zr (fun w'=>w'.cell? ⟨p,0,none⟩=some (iv m)∧w'.cell? ⟨p,1,none⟩=some (.slice ga gn gc)) 5 (HSS.o (W.drewN 1) (Qp (Below.refl _ _) 1)) fun hS0=>?_
 refine Yd 0 15 ?_;refine Yd 1 16 ?_;refine QP 2 (some 17) 106 #[.agg #[iv m,.slice ga gn gc]] rfl ZK ZK ZK rfl ?_;refine(K.o (W.drewN 1) (Qp (Below.refl _ _) 1)).mono ?_;rintro e m1 ⟨ku,rfl,o1,b1⟩;obtain⟨ka,kc,rfl,-⟩:=o1.cell;have OO:=Zh o1;have BB1:=Zh ((Qp (Below.refl _ _) 1).trans b1:Below W.heap.size W m1);clear hS0 o1 b1;have hS0:=HSS.o _ BB1.o;rw[HGN.o,show setV (Qy m) (.slice ka gn kc)=.agg #[iv m,.slice ka gn kc] from rfl];refine⟨_,rfl,fun _=>hS0,?_⟩;refine Yd 3 18 ?_;have HR1:=Zh (Qc HRW.o BB1.o (by have:=HSZ.o;omega));have fz:=Qa HR1.o;have f0:=fz.2 0;have f1:=fz.2 1;have f2:=fz.2 2;have f3:=fz.2 3;have f4:=fz.2 4;have c0:=fz.1 0;have c1:=fz.1 1;have c2:=fz.1 2;have c3:=fz.1 3;have c4:=fz.1 4;simp only[Zx,Zy,Zz] at c0 c1 c2 c3 c4;have hSF:(fun w':World=>w'.cell? ⟨p,0,none⟩=some (iv m)∧w'.cell? ⟨p,1,none⟩=some (.slice ga gn gc)) ((((((m1.setCell ⟨q,0,none⟩ (iv m)).setCell ⟨q,1,none⟩ (.slice ga gn gc)).setCell ⟨q,2,none⟩ (iv m)).setCell ⟨q,3,none⟩ (.slice ka gn kc)).setCell ⟨q,4,none⟩ (.slice none 0 0))):=Qq (Qdj (Qc HP.o BB1.o (Qb HP.o)) ZO _ _ _ _ _);clear hS0;have hS0:=hSF;clear hSF;refine Qeb 4 none ((((((m1.setCell ⟨q,0,none⟩ (iv m)).setCell ⟨q,1,none⟩ (.slice ga gn gc)).setCell ⟨q,2,none⟩ (iv m)).setCell ⟨q,3,none⟩ (.slice ka gn kc)).setCell ⟨q,4,none⟩ (.slice none 0 0))) rfl ZK ZK ?rs1 rfl (fun _=>hS0) ?_
 case rs1=>go_simp
 refine QW 5 (some 3) (iv 0) ((((((m1.setCell ⟨q,0,none⟩ (iv m)).setCell ⟨q,1,none⟩ (.slice ga gn gc)).setCell ⟨q,2,none⟩ (iv m)).setCell ⟨q,3,none⟩ (.slice ka gn kc)).setCell ⟨q,4,none⟩ (.slice none 0 0))) rfl ZK ZK (by go_simp) rfl (fun h=>absurd rfl h) ?_;refine Qu ZK ?_ _;generalize hA:Act.put _ _ _=A0;simp only[Qba,Qaa,Zu,Zv,Zw] at hA;subst hA;have e5:(((((((m1.setCell ⟨q,0,none⟩ (iv m)).setCell ⟨q,1,none⟩ (.slice ga gn gc)).setCell ⟨q,2,none⟩ (iv m)).setCell ⟨q,3,none⟩ (.slice ka gn kc)).setCell ⟨q,4,none⟩ (.slice none 0 0)))).heap[q]? = some (.cells #[iv m,.slice ga gn gc,iv m,.slice ka gn kc,.slice none 0 0] 55 (0,0)):=set5 HR1.o _ _ _ _ _;obtain⟨g0,g1,g2,g3,g4⟩:=QJ e5;have HB3:=Zh (show Below w.heap.size w ((((((m1.setCell ⟨q,0,none⟩ (iv m)).setCell ⟨q,1,none⟩ (.slice ga gn gc)).setCell ⟨q,2,none⟩ (iv m)).setCell ⟨q,3,none⟩ (.slice ka gn kc)).setCell ⟨q,4,none⟩ (.slice none 0 0))) from
  (((((show Below w.heap.size w W by rw[HQ.o];exact BQ.o).trans (BB1.o.mono (by have:=HSZ.o;have:=HQ.o;omega))).setCell (Nat.le_of_eq HQ.o) _).setCell (Nat.le_of_eq HQ.o) _).setCell (Nat.le_of_eq HQ.o) _).setCell (Nat.le_of_eq HQ.o) _ |>.setCell (Nat.le_of_eq HQ.o) _)
 have KT:=Zh (show Qf 139 m1 ((((((m1.setCell ⟨q,0,none⟩ (iv m)).setCell ⟨q,1,none⟩ (.slice ga gn gc)).setCell ⟨q,2,none⟩ (iv m)).setCell ⟨q,3,none⟩ (.slice ka gn kc)).setCell ⟨q,4,none⟩ (.slice none 0 0))) from Quc (Qv HR1.o (by have:=HQ.o;omega)) ZD _ _ _ _ _);have HU3:=Zh ((HUW.o.below BB1.o).keep KT.o);have HK3:=Zh (OO.o.keep KT.o);clear hS0 f0 f1 f2 f3 f4 c0 c1 c2 c3 c4 fz e5;have HK4:=HK3.o;rw[HGN.o] at HK4;go_wp2;refine bodyPost_ret (v:=.tuple #[.agg #[iv m,.slice ga gn gc,iv m,.slice ka gn kc,.slice none 0 0],iv 0]) (by simp[results,Tryz.results46,go_sem,g0,g1,g2,g3,g4]) rfl ⟨_,_,_,rfl,⟨HU3.o,HK4,QKc.nil⟩,HB3.o⟩
end
section
variable [Base]
def rowK (t:Qw)(m k a:Nat):QSet:=mkS m fun b=>(decide (a=b)&&!QE t.kill.words a)||decide (((a:Int),(b:Int))∈t.cops.take k)
def QGd (t:Qw)(m k i:Nat):List QSet:=(List.range i).map (rowK t m k)
theorem Qqb (t:Qw)(m k i:Nat):(QGd t m k i).length=i:=by simp[QGd]
theorem QVd (t:Qw){m:Nat}(h:m≤256)(k a:Nat):Ok m (rowK t m k a):=QIb _ h
theorem QAq (t:Qw){m:Nat}(h:m≤256){a:Nat}(ha:a<m):rowK t m 0 a=if QE t.kill.words a=true then Qy m else putS (Qy m) a:=by
 unfold rowK;by_cases hk:QE t.kill.words a=true
 ·rw[if_pos hk];refine(QIb _ h).ext (QOb h) fun b=>?_
  rw[Qpb _ h,QNb,hk];simp
 ·rw[if_neg hk];have hp:=(QOb h).put ha;refine(QIb _ h).ext hp.1 fun b=>?_
  rw[Qpb _ h,hp.2,QNb];rw[show QE t.kill.words a=false by simpa using hk];rw[Bool.eq_iff_iff];simp;omega
theorem Qlj (t:Qw)(m k i:Nat):QGd t m k (i+1)=QGd t m k i++[rowK t m k i]:=by
 simp[QGd,List.range_succ]
theorem QLh (t:Qw)(m k i a:Nat)(h:a<i):(QGd t m k i)[a]? = some (rowK t m k a):=by
 unfold QGd;rw[List.getElem?_map,List.getElem?_range h];rfl
theorem QBq {t:Qw}{m k a b:Nat}(h:m≤256)(hc:t.cops[k]? = some ((a:Int),(b:Int)))(hb:b<m)(x:Nat):rowK t m (k+1) x=if x=a then putS (rowK t m k x) b else rowK t m k x:=by
 have hm:∀c,c∈t.cops.take (k+1)↔c∈t.cops.take k∨c=((a:Int),(b:Int)):=fun c=>by
  rw[List.take_add_one,hc];simp
 by_cases e:x=a
 ·subst e;rw[if_pos rfl];have hp:=(QVd t h k x).put hb;refine(QVd t h _ x).ext hp.1 fun y=>?_
  rw[hp.2];unfold rowK;rw[Qpb _ h,Qpb _ h,Bool.eq_iff_iff];simp only[Bool.and_eq_true,Bool.or_eq_true,decide_eq_true_eq,Bool.not_eq_true',hm,Prod.mk.injEq];constructor
  ·rintro⟨h1,h2|h2|⟨_,h2⟩⟩
   ·exact .inl ⟨h1,.inl h2⟩
   ·exact .inl ⟨h1,.inr h2⟩
   ·exact .inr ZO
  ·rintro(⟨h1,h2|h2⟩|h2)
   ·exact⟨h1,.inl h2⟩
   ·exact⟨h1,.inr (.inl h2)⟩
   ·subst h2;exact⟨hb,.inr (.inr ZS)⟩
 ·rw[if_neg e];unfold rowK;refine Qad h fun y _=>?_
  rw[Bool.eq_iff_iff];simp only[Bool.and_eq_true,Bool.or_eq_true,decide_eq_true_eq,Bool.not_eq_true',hm,Prod.mk.injEq];constructor
  ·rintro(h2|h2|⟨h2,_⟩)
   ·exact .inl h2
   ·exact .inr h2
   ·omega
  ·rintro(h2|h2)
   ·exact .inl h2
   ·exact .inr (.inl h2)
theorem QWn {t:Qw}{m k a b:Nat}(h:m≤256)(hc:t.cops[k]? = some ((a:Int),(b:Int)))(hb:b<m):QGd t m (k+1) m=(QGd t m k m).set a (putS (rowK t m k a) b):=by
 refine List.ext_getElem? fun x=>?_
 rw[List.getElem?_set];by_cases hx:x<m
 ·rw[QLh _ _ _ _ _ hx,QLh _ _ _ _ _ hx,QBq h hc hb];by_cases e:a=x
  ·subst e;simp[Qqb,hx]
  ·rw[if_neg (fun h=>e h.symm),if_neg e]
 ·rw[List.getElem?_eq_none (by rw[Qqb];omega),List.getElem?_eq_none (by rw[Qqb];omega)]
  split
  ·next e=>subst e;simp[Qqb,hx]
  ·rfl
def Qpi (t:Qw)(m:Nat):List QSet:=(List.range m).map fun a=>mkS m (folB t a)
theorem Qyq (t:Qw)(m:Nat):QGd t m t.cops.length m=Qpi t m:=by
 unfold QGd Qpi rowK;rw[List.take_length];rfl
def QJb (t:Qw)(m i:Nat):QSet:=mkS m fun a=>QE t.gen.words a||(decide (a<i)&&!folB t a a)
theorem Qre (t:Qw){m:Nat}(h:m≤256)(i:Nat):Ok m (QJb t m i):=QIb _ h
theorem Qno {t:Qw}{m:Nat}(h:Ok m t.gen):QJb t m 0=t.gen:=by
 refine(QIb _ h.le).ext h fun b=>?_
 rw[Qpb _ h.le];by_cases hb:b<m
 ·simp[hb]
 ·rw[h.tail ZO];simp[hb]
theorem Qoo (t:Qw){m i:Nat}(h:m≤256)(hi:i<m):QJb t m (i+1)=if folB t i i=true then QJb t m i else putS (QJb t m i) i:=by
 by_cases hf:folB t i i=true
 ·rw[if_pos hf];unfold QJb;refine Qad h fun a _=>?_
  by_cases e:a=i
  ·subst e;simp[hf]
  ·rw[show decide (a<i+1)=decide (a<i) by simp;omega]
 ·rw[if_neg hf];have hp:=(Qre t h i).put hi;refine(Qre t h _).ext hp.1 fun a=>?_
  rw[hp.2];unfold QJb;rw[Qpb _ h,Qpb _ h];by_cases e:a=i
  ·subst e;simp[hf,hi]
  ·rw[show decide (a<i+1)=decide (a<i) by simp;omega];simp[e]
theorem QTq (t:Qw)(m:Nat)(h:m≤256):QJb t m m=(Qlb t m).kill:=Qad h fun a ha=>by simp[ha]
def copK (a:Nat)(l:List Nat):List Cp:=(l.filter fun b=>decide (b≠a)).map fun b:Nat=>((a:Int),(b:Int))
theorem QLk (a b:Nat)(l:List Nat):copK a (l++[b])=if b=a then copK a l else copK a l++[((a:Int),(b:Int))]:=by
 unfold copK;rw[List.filter_append,List.map_append];by_cases e:b=a
 ·simp[e]
 ·simp[e]
theorem QKs {t:Qw}{m a:Nat}{r:QSet}(hr:Ok m r)(hb:∀b,QE r.words b=((decide (b<m)&&folB t a b)&&!QE t.gen.words b)):copK a (memS r)=rowC t m a:=by
 unfold copK rowC memS;rw[if_pos hr.ok,hr.width,Int.toNat_natCast,List.filter_filter]
 congr 1
 refine List.filter_congr fun b h=>?_
 have h:=List.mem_range.1 h;rw[hb,Bool.eq_iff_iff];simp[h];omega
end
section
open Go.RowKit
variable [Base]
def QIa (f:Nat→Nat→Nat)(s t:QSet):QSet×Int:=if setB s=false∨setB t=false then (Qrd,1) else if s.width≠t.width then (Qrd,2) else (zipS f s t,0)
def FunQ (fn:FuncId)(f:Nat→Nat→Nat):Prop:=∀(x y:Nat) (w:World),x<18446744073709551616→y<18446744073709551616→f x y<18446744073709551616∧Calls Tryz.prog fn #[uv x,uv y] w fun e w'=>e=.returned (uv (f x y))∧w=w'
def Qdc (f:Nat→Nat→Nat)(s t:QSet)(i:Nat):List Nat:=(List.zipWith f s.words t.words).take i++List.replicate (s.words.length-i) 0
structure XIn (w v wr:World)(r c g m:Nat)(d:Int)(l:List Nat):Prop where
 below:Below w.heap.size w wr
 keep:Below v.heap.size v wr
 res:wr.heap[r]? = some (.cells #[.int .i64 0,.slice none 0 0] 52 (0,0))
 cur:wr.heap[c]? = some (.cells #[.int .i64 d,.slice (some ⟨g,0,none⟩) (Qj m) (Qj m)] 52 (0,0))
 own:wr.heap[g]? = some (.cells (l.map uv).toArray 139 (0,0))
 old:w.heap.size≤r∧w.heap.size≤c∧w.heap.size≤g∧r≠c∧r≠g∧c≠g∧v.heap.size≤g
theorem XIn.drew {w v wr:World}{r c g m:Nat}{d:Int}{l:List Nat}(h:XIn w v wr r c g m d l)(n:Nat):XIn w v (wr.drewN n) r c g m d l:=⟨Qp h.below n,Qp h.keep n,h.res,h.cur,h.own,h.old⟩
theorem XIn.put {w v wr:World}{r c g m:Nat}{d:Int}{l:List Nat}(h:XIn w v wr r c g m d l)(i y:Nat):XIn w v (wr.setCell ⟨g,i,none⟩ (uv y)) r c g m d (l.set i y):=by
 obtain⟨o1,o2,o3,o4,o5,o6,o7⟩:=h.old;have hg:=h.own;refine⟨h.below.setCell (p:=⟨g,i,none⟩) o3 _,h.keep.setCell (p:=⟨g,i,none⟩) o7 _,?_,?_,?_,h.old⟩
 ·rw[Below.heap_setCell _ _ _ _ (by show r≠g;omega)];exact h.res
 ·rw[Below.heap_setCell _ _ _ _ (by show c≠g;omega)];exact h.cur
 ·rw[List.map_set];simp[World.setCell,Array.getElem?_modify,hg]
theorem XIn.fin {w v wr:World}{r c g m:Nat}{d:Int}{l:List Nat}(h:XIn w v wr r c g m d l)(x y:Value):((wr.setCell ⟨r,0,none⟩ x).setCell ⟨r,1,none⟩ y).heap[g]? = some (.cells (l.map uv).toArray 139 (0,0))∧Below w.heap.size w ((wr.setCell ⟨r,0,none⟩ x).setCell ⟨r,1,none⟩ y):=by
 obtain⟨o1,o2,o3,o4,o5,o6,o7⟩:=h.old;refine⟨?_,(h.below.setCell (p:=⟨r,0,none⟩) o1 _).setCell (p:=⟨r,1,none⟩) o1 _⟩;rw[Below.heap_setCell _ _ _ _ (by show g≠r;omega),Below.heap_setCell _ _ _ _ (by show g≠r;omega)];exact h.own
theorem Qkf {f:Nat→Nat→Nat}{s t:QSet}{i x y:Nat}(hx:s.words[i]? = some x)(hy:t.words[i]? = some y)(hl:s.words.length=t.words.length):Qdc f s t (i+1)=(Qdc f s t i).set i (f x y):=by
 have hi:=(List.getElem?_eq_some_iff.1 hx).1;have hz:(List.zipWith f s.words t.words)[i]? = some (f x y):=by rw[List.getElem?_zipWith,hx,hy]
 have hzl:(List.zipWith f s.words t.words).length=s.words.length:=by rw[List.length_zipWith,←hl,Nat.min_self]
 apply List.ext_getElem?;intro j;unfold Qdc;rw[List.getElem?_set,List.getElem?_append,List.getElem?_append,List.length_append,List.length_take,List.length_take,hzl,List.length_replicate,Nat.min_eq_left (by omega:i+1≤s.words.length),Nat.min_eq_left (by omega:i≤s.words.length),List.getElem?_take,List.getElem?_take,List.getElem?_replicate,List.getElem?_replicate];by_cases h1:i=j
 ·subst h1;rw[if_pos rfl,if_pos ZO,if_pos ZO,if_pos ZO,hz]
 ·rw[if_neg h1];by_cases h2:j<i
  ·rw[if_pos ZO,if_pos ZO,if_pos h2,if_pos h2]
  ·rw[if_neg ZO,if_neg h2];by_cases h3:j-i<s.words.length-i
   ·rw[if_pos ZO,if_pos h3]
   ·rw[if_neg ZO,if_neg h3]
theorem QTc {f:Nat→Nat→Nat}{s t:QSet}{i:Nat}(hl:s.words.length=t.words.length)(hi:i≤s.words.length):(Qdc f s t i).length=s.words.length:=by
 unfold Qdc;rw[List.length_append,List.length_take,List.length_zipWith,List.length_replicate,←hl,Nat.min_self];omega
theorem QKf {f:Nat→Nat→Nat}{s t:QSet}(hl:s.words.length=t.words.length):Qdc f s t s.words.length=(zipS f s t).words:=by
 unfold Qdc zipS;rw[Nat.sub_self,List.replicate_zero,List.append_nil,List.take_of_length_le];rw[List.length_zipWith,←hl,Nat.min_self];exact Nat.le_refl _
theorem Qjf {f:Nat→Nat→Nat}{s t:QSet}{m:Nat}(h:s.words.length=Qj m):(List.map uv (Qdc f s t 0)).toArray=zc (Qj m):=by
 unfold Qdc zc;rw[h,Nat.sub_zero];simp
theorem QM {w:World}{b g o j:Nat}{u:Value}{x:Option Value}(h:b≠g)(hc:w.cell? ⟨b,o,none⟩=x):(w.setCell ⟨g,j,none⟩ u).drew.cell? ⟨b,o,none⟩=x:=
 (show(w.setCell ⟨g,j,none⟩ u).cell? ⟨b,o,none⟩=x from Qqa h hc)
theorem QRj (a b:Nat)(ha:a<18446744073709551616)(hb:b<18446744073709551616):bits .andNot .u64 (a:Int) (b:Int)=((clr a b:Nat):Int):=by
 have h1:(BitVec.ofInt 64 (a:Int)).toNat=a:=by
  rw[BitVec.ofInt_natCast,BitVec.toNat_ofNat];exact Nat.mod_eq_of_lt ZO
 have h2:(BitVec.ofInt 64 (b:Int)).toNat=b:=by
  rw[BitVec.ofInt_natCast,BitVec.toNat_ofNat];exact Nat.mod_eq_of_lt ZO
 have h3:(BitVec.ofInt 64 (a:Int) &&& ~~~ BitVec.ofInt 64 (b:Int)).toNat=clr a b:=by
  apply Nat.eq_of_testBit_eq;intro i;rw[QAl,BitVec.testBit_toNat,BitVec.getLsbD_and,BitVec.getLsbD_not,←BitVec.testBit_toNat,←BitVec.testBit_toNat,h1,h2];by_cases hi:i<64
  ·simp[hi]
  ·rw[Nat.testBit_lt_two_pow (Nat.lt_of_lt_of_le ha (Nat.pow_le_pow_right (n:=2) ZD (show 64≤i by omega)))];simp
 show IntKind.u64.wrap ((BitVec.ofInt 64 (a:Int) &&& ~~~ BitVec.ofInt 64 (b:Int)).toNat:Int)=_;rw[h3,IntKind.wrap_u64];have:=Qvl (b:=b) ha;omega
theorem QKt:FunQ 152 clr:=fun x y w hx hy=>by
 refine⟨Qvl hx,?_⟩
 have h:=QRj x y hx hy
 go_enter Tryz.func152,Tryz.ntmps152
 go_wp2
 go_ret
 exact⟨rfl,rfl⟩
end
section
open Go.RowKit
variable [Base]
theorem Qko (f:Nat→Nat→Nat)(hf:FunQ 152 f)(s t:QSet)(u1 u2:Value)(w:World)(h1:Qi w u1 s.words)(h2:Qi w u2 t.words):
  Calls Tryz.prog 86 #[setV s u1,setV t u2,.func (.func 152) #[] #[]] w (SetE (QIa f s t) w):=by
 have hud:∀b:Bool,(undef=Value.bool b)=False:=fun b=>by simp[undef]
 obtain⟨a1,c1,rfl,hm1,hc1,hcm1,hk1⟩:=h1.cell;obtain⟨a2,c2,rfl,hm2,hc2,hcm2,hk2⟩:=h2.cell;obtain⟨n1,hn1⟩:=Ze s.words.length;obtain⟨n2,hn2⟩:=Ze t.words.length;have R1:=Zh h1;have R2:=Zh h2;rw[hn1] at hm1 hc1 R1 ⊢;rw[hn2] at hm2 hc2 R2 ⊢;have N1:=Zh hn1;have N2:=Zh hn2;have K1:=Zh hk1;have K2:=Zh hk2;have OK1:=Zh h1.2;have OK2:=Zh h2.2;have HF:=Zh hf;obtain⟨W,hW⟩:=Ze (((w.alloc (.cells #[.int .i64 s.width,.slice a1 n1 c1] 52)).alloc (.cells #[.int .i64 t.width,.slice a2 n2 c2] 52)).alloc (.cells #[.int .i64 0,.slice none 0 0] 52));have B0:Below w.heap.size w W:=by rw[←hW];exact((Zb).alloc ZS _).alloc (by simp;omega) _
 have L1:W.heap[w.heap.size]? = some (.cells #[.int .i64 s.width,.slice a1 n1 c1] 52 (0,0)):=by rw[←hW];exact Qz _ (Qz _ (heap_alloc_new _ _))
 have L2:W.heap[w.heap.size+1]? = some (.cells #[.int .i64 t.width,.slice a2 n2 c2] 52 (0,0)):=by rw[←hW];exact Qz _ (Qda _ _)
 have L3:W.heap[w.heap.size+1+1]? = some (.cells #[.int .i64 0,.slice none 0 0] 52 (0,0)):=by rw[←hW];have k:=heap_alloc_new ((w.alloc (.cells #[.int .i64 s.width,.slice a1 n1 c1] 52)).alloc (.cells #[.int .i64 t.width,.slice a2 n2 c2] 52)) (.cells #[.int .i64 0,.slice none 0 0] 52);simp only[World.size_alloc] at k;exact k
 have HW:=Zh hW;have BB:=Zh B0;have H1:=Zh L1;have H2:=Zh L2;have H3:=Zh L3;have x0:=(Qa L1).1 0;have x1:=(Qa L1).1 1;have y0:=(Qa L2).1 0;have y1:=(Qa L2).1 1;have z0:=(Qa L3).1 0;have z1:=(Qa L3).1 1;have f0:=(Qa L3).2 0;have f1:=(Qa L3).2 1;simp only[Zx,Zy,Zz] at x0 x1 y0 y1 z0 z1;unfold maxLen at hm1 hm2;clear hW B0 L1 L2 L3 h1 h2 hn1 hn2 hk1 hk2 hf;rcases Bool.eq_false_or_eq_true (setB s) with hv1|hv1
 rotate_left
 ·rw[show QIa f s t=(Qrd,1) from by unfold QIa;rw[if_pos (Or.inl hv1)]];have HV1:=Zh hv1;clear hv1;go_enter Tryz.func86,Tryz.ntmps86;go_wp2_with fail;rw[show((w.alloc (.cells #[.int .i64 s.width,.slice a1 _ c1] 52)).alloc (.cells #[.int .i64 t.width,.slice a2 _ c2] 52)).alloc (.cells #[.int .i64 0,.slice none 0 0] 52)=W from HW.o];refine(QT HV1.o _ _ (R1.o.below BB.o)).mono ?_;rintro e v1 ⟨rfl,b1⟩;have B1:=Zh (BB.o.trans (b1.mono BB.o.size));have M11:=Zh (Qc H1.o b1 (Qb H1.o));have M12:=Zh (Qc H2.o b1 (Qb H2.o));have M13:=Zh (Qc H3.o b1 (Qb H3.o));clear b1;clear x0 x1 y0 y1 z0 z1 f0 f1;have x0:=(Qa M11.o).1 0;have x1:=(Qa M11.o).1 1;have y0:=(Qa M12.o).1 0;have y1:=(Qa M12.o).1 1;have z0:=(Qa M13.o).1 0;have z1:=(Qa M13.o).1 1;have f0:=(Qa M13.o).2 0;have f1:=(Qa M13.o).2 1;simp only[Zx,Zy,Zz] at x0 x1 y0 y1 z0 z1;go_wp2;refine bodyPost_ret (v:=.tuple #[QPd,.int .i64 1]) (by simp[results,Tryz.results86,go_sem,z0,z1]) rfl (QJd.set ⟨rfl,(B1.o.setCell (p:=⟨w.heap.size+1+1,0,none⟩) (by show w.heap.size≤w.heap.size+1+1;omega) _).setCell (p:=⟨w.heap.size+1+1,1,none⟩) (by show w.heap.size≤w.heap.size+1+1;omega) _⟩)
 have HV1:=Zh hv1;rcases Bool.eq_false_or_eq_true (setB t) with hv2|hv2
 rotate_left
 ·rw[show QIa f s t=(Qrd,1) from by unfold QIa;rw[if_pos (Or.inr hv2)]];have HV2:=Zh hv2;clear hv1 hv2;go_enter Tryz.func86,Tryz.ntmps86;go_wp2_with fail;rw[show((w.alloc (.cells #[.int .i64 s.width,.slice a1 _ c1] 52)).alloc (.cells #[.int .i64 t.width,.slice a2 _ c2] 52)).alloc (.cells #[.int .i64 0,.slice none 0 0] 52)=W from HW.o];refine(QT HV1.o _ _ (R1.o.below BB.o)).mono ?_;rintro e v1 ⟨rfl,b1⟩;have B1:=Zh (BB.o.trans (b1.mono BB.o.size));have M11:=Zh (Qc H1.o b1 (Qb H1.o));have M12:=Zh (Qc H2.o b1 (Qb H2.o));have M13:=Zh (Qc H3.o b1 (Qb H3.o));clear b1;clear x0 x1 y0 y1 z0 z1 f0 f1;have x0:=(Qa M11.o).1 0;have x1:=(Qa M11.o).1 1;have y0:=(Qa M12.o).1 0;have y1:=(Qa M12.o).1 1;have z0:=(Qa M13.o).1 0;have z1:=(Qa M13.o).1 1;have f0:=(Qa M13.o).2 0;have f1:=(Qa M13.o).2 1;simp only[Zx,Zy,Zz] at x0 x1 y0 y1 z0 z1;go_wp2_with fail;refine(QT HV2.o _ _ (R2.o.below B1.o)).mono ?_;rintro e v2 ⟨rfl,b2⟩;have B2:=Zh (B1.o.trans (b2.mono B1.o.size));have M21:=Zh (Qc M11.o b2 (Qb M11.o));have M22:=Zh (Qc M12.o b2 (Qb M12.o));have M23:=Zh (Qc M13.o b2 (Qb M13.o));clear b2;clear x0 x1 y0 y1 z0 z1 f0 f1;have x0:=(Qa M21.o).1 0;have x1:=(Qa M21.o).1 1;have y0:=(Qa M22.o).1 0;have y1:=(Qa M22.o).1 1;have z0:=(Qa M23.o).1 0;have z1:=(Qa M23.o).1 1;have f0:=(Qa M23.o).2 0;have f1:=(Qa M23.o).2 1;simp only[Zx,Zy,Zz] at x0 x1 y0 y1 z0 z1;go_wp2;refine bodyPost_ret (v:=.tuple #[QPd,.int .i64 1]) (by simp[results,Tryz.results86,go_sem,z0,z1]) rfl (QJd.set ⟨rfl,(B2.o.setCell (p:=⟨w.heap.size+1+1,0,none⟩) (by show w.heap.size≤w.heap.size+1+1;omega) _).setCell (p:=⟨w.heap.size+1+1,1,none⟩) (by show w.heap.size≤w.heap.size+1+1;omega) _⟩)
 have HV2:=Zh hv2;by_cases hd:s.width=t.width;rotate_left
 ·rw[show QIa f s t=(Qrd,2) from by unfold QIa;rw[if_neg (by rw[hv1,hv2];simp),if_pos hd]];have hdb:(s.width != t.width)=true:=by simpa using hd
  clear hv1 hv2;go_enter Tryz.func86,Tryz.ntmps86;go_wp2_with fail;rw[show((w.alloc (.cells #[.int .i64 s.width,.slice a1 _ c1] 52)).alloc (.cells #[.int .i64 t.width,.slice a2 _ c2] 52)).alloc (.cells #[.int .i64 0,.slice none 0 0] 52)=W from HW.o];refine(QT HV1.o _ _ (R1.o.below BB.o)).mono ?_;rintro e v1 ⟨rfl,b1⟩;have B1:=Zh (BB.o.trans (b1.mono BB.o.size));have M11:=Zh (Qc H1.o b1 (Qb H1.o));have M12:=Zh (Qc H2.o b1 (Qb H2.o));have M13:=Zh (Qc H3.o b1 (Qb H3.o));clear b1;clear x0 x1 y0 y1 z0 z1 f0 f1;have x0:=(Qa M11.o).1 0;have x1:=(Qa M11.o).1 1;have y0:=(Qa M12.o).1 0;have y1:=(Qa M12.o).1 1;have z0:=(Qa M13.o).1 0;have z1:=(Qa M13.o).1 1;have f0:=(Qa M13.o).2 0;have f1:=(Qa M13.o).2 1;simp only[Zx,Zy,Zz] at x0 x1 y0 y1 z0 z1;go_wp2_with fail;refine(QT HV2.o _ _ (R2.o.below B1.o)).mono ?_;rintro e v2 ⟨rfl,b2⟩;have B2:=Zh (B1.o.trans (b2.mono B1.o.size));have M21:=Zh (Qc M11.o b2 (Qb M11.o));have M22:=Zh (Qc M12.o b2 (Qb M12.o));have M23:=Zh (Qc M13.o b2 (Qb M13.o));clear b2;clear x0 x1 y0 y1 z0 z1 f0 f1;have x0:=(Qa M21.o).1 0;have x1:=(Qa M21.o).1 1;have y0:=(Qa M22.o).1 0;have y1:=(Qa M22.o).1 1;have z0:=(Qa M23.o).1 0;have z1:=(Qa M23.o).1 1;have f0:=(Qa M23.o).2 0;have f1:=(Qa M23.o).2 1;simp only[Zx,Zy,Zz] at x0 x1 y0 y1 z0 z1;go_wp2;refine bodyPost_ret (v:=.tuple #[QPd,.int .i64 2]) (by simp[results,Tryz.results86,go_sem,z0,z1]) rfl (QJd.set ⟨rfl,(B2.o.setCell (p:=⟨w.heap.size+1+1,0,none⟩) (by show w.heap.size≤w.heap.size+1+1;omega) _).setCell (p:=⟨w.heap.size+1+1,1,none⟩) (by show w.heap.size≤w.heap.size+1+1;omega) _⟩)
 rw[show QIa f s t=(zipS f s t,0) from by unfold QIa;rw[if_neg (by rw[hv1,hv2];simp),if_neg (by simpa using hd)]];have hdb:(s.width != t.width)=false:=by simpa using hd
 have F1:=Zh (QBa hv1 OK1.o);have F2:=Zh (QBa hv2 OK2.o);obtain⟨m,e1,e2,e3⟩:=Qka F1.o;obtain⟨m2,e4,e5,e6⟩:=Qka F2.o;have HD:=Zh hd;have hmm:m2=m:=by omega
 subst hmm;have HM:=Zh e1;have hnn:n1=Qj m2:=by have:=N1.o;omega
 have hnn2:n2=Qj m2:=by have:=N2.o;omega
 subst hnn hnn2;have hwn:Qj m2≤4:=by unfold Qj;omega
 have hmk:=fun w=>QTd (Qj m2) ZO (Qj m2:Nat) rfl w
 clear hv1 hv2 e1 e3 e4 e6 hd;go_enter Tryz.func86,Tryz.ntmps86;go_wp2_with fail;rw[show((w.alloc (.cells #[.int .i64 s.width,.slice a1 _ c1] 52)).alloc (.cells #[.int .i64 t.width,.slice a2 _ c2] 52)).alloc (.cells #[.int .i64 0,.slice none 0 0] 52)=W from HW.o];refine(QT HV1.o _ _ (R1.o.below BB.o)).mono ?_;rintro e v1 ⟨rfl,b1⟩;have B1:=Zh (BB.o.trans (b1.mono BB.o.size));have M11:=Zh (Qc H1.o b1 (Qb H1.o));have M12:=Zh (Qc H2.o b1 (Qb H2.o));have M13:=Zh (Qc H3.o b1 (Qb H3.o));clear b1;clear x0 x1 y0 y1 z0 z1 f0 f1;have x0:=(Qa M11.o).1 0;have x1:=(Qa M11.o).1 1;have y0:=(Qa M12.o).1 0;have y1:=(Qa M12.o).1 1;have z0:=(Qa M13.o).1 0;have z1:=(Qa M13.o).1 1;have f0:=(Qa M13.o).2 0;have f1:=(Qa M13.o).2 1;simp only[Zx,Zy,Zz] at x0 x1 y0 y1 z0 z1;go_wp2_with fail;refine(QT HV2.o _ _ (R2.o.below B1.o)).mono ?_;rintro e v2 ⟨rfl,b2⟩;have B2:=Zh (B1.o.trans (b2.mono B1.o.size));have M21:=Zh (Qc M11.o b2 (Qb M11.o));have M22:=Zh (Qc M12.o b2 (Qb M12.o));have M23:=Zh (Qc M13.o b2 (Qb M13.o));clear b2;clear x0 x1 y0 y1 z0 z1 f0 f1;have x0:=(Qa M21.o).1 0;have x1:=(Qa M21.o).1 1;have y0:=(Qa M22.o).1 0;have y1:=(Qa M22.o).1 1;have z0:=(Qa M23.o).1 0;have z1:=(Qa M23.o).1 1;have f0:=(Qa M23.o).2 0;have f1:=(Qa M23.o).2 1;simp only[Zx,Zy,Zz] at x0 x1 y0 y1 z0 z1;go_wp2_with fail;have hz0:w.heap.size+1+1<v2.heap.size:=Qb M23.o;have hz1:w.heap.size≠v2.heap.size:=by omega
 have hz2:w.heap.size<v2.heap.size:=by omega
 go_region
 ·have I0:=Zh (show XIn w v2 ((v2.alloc (.cells (zc (Qj m2)) 139)).alloc (.cells #[.int .i64 s.width,.slice (some ⟨v2.heap.size,0,none⟩) (Qj m2) (Qj m2)] 52)).drew (w.heap.size+1+1) (v2.heap.size+1) v2.heap.size m2 s.width (Qdc f s t 0) from⟨((B2.o.alloc ZO _).alloc (by simp;omega) _).drew,((Zb).alloc ZS _).drew,Qz _ (Qz _ M23.o),Qda _ _,by rw[Qjf N1.o];exact Qz _ (heap_alloc_new _ _),by omega,by omega,by omega,by omega,by omega,by omega,by omega⟩);obtain⟨V,hV⟩:=Ze (((v2.alloc (.cells (zc (Qj m2)) 139)).alloc (.cells #[.int .i64 s.width,.slice (some ⟨v2.heap.size,0,none⟩) (Qj m2) (Qj m2)] 52)).drew);rw[hV] at I0;have HV:=Zh hV;have hrc:w.heap.size+1+1≠(v2.heap.size+1):=by omega
  have h0c:w.heap.size≠(v2.heap.size+1):=by omega
  have h1c:w.heap.size+1≠(v2.heap.size+1):=by omega
  have h0g:w.heap.size≠v2.heap.size:=by omega
  have h1g:w.heap.size+1≠v2.heap.size:=by omega
  have hcg:(v2.heap.size+1)≠v2.heap.size:=by omega
  have hcur:=I0.o.cur;clear hV x0 x1 y0 y1 z0 z1 f0 f1;have x0:=(Qa hcur).1 0;have x1:=(Qa hcur).1 1;simp only[Zx,Zy,Zz] at x0 x1;clear hcur;go_wp2_with fail;rw[show((v2.alloc (.cells (zc (Qj m2)) 139)).alloc (.cells #[.int .i64 s.width,.slice (some ⟨v2.heap.size,0,none⟩) (Qj m2) (Qj m2)] 52)).drew=V from HV.o];go_loopw [37] (fun y wr=>∃i:Nat,i≤Qj m2∧y=.int .i64 i∧Hid (XIn w v2 wr (w.heap.size+1+1) (v2.heap.size+1) v2.heap.size m2 s.width (Qdc f s t i))) (fun y _=>Qj m2-(intOf y).toNat)
  case atStart=>exact⟨0,Nat.zero_le _,rfl,I0.o⟩
  case round=>
   clear I0 x0 x1;obtain⟨i,hi,rfl,I⟩:=hrel;have J0:=Zh (Qa I.o.cur);have x0:=J0.o.1 0;have x1:=J0.o.1 1;have J1:=Zh (Qa I.o.res);have z0:=J1.o.1 0;have z1:=J1.o.1 1;have f0:=J1.o.2 0;have f1:=J1.o.2 1;simp only[Zx,Zy,Zz] at x0 x1 z0 z1;by_cases hlt:i<Qj m2
   ·obtain⟨x,hx⟩:∃x,s.words[i]? = some x:=⟨_,List.getElem?_eq_getElem (show i<s.words.length by have:=N1.o;omega)⟩;obtain⟨y,hy⟩:∃y,t.words[i]? = some y:=⟨_,List.getElem?_eq_getElem (show i<t.words.length by have:=N2.o;omega)⟩;obtain⟨b1,o1,rfl,hb1,-,hc1⟩:=K1.o i x hx;obtain⟨b2,o2,rfl,hb2,-,hc2⟩:=K2.o i y hy;have g1:=(I.o.below.cell (p:=⟨b1,o1+i,none⟩) hb1).trans hc1;have g2:=(I.o.below.cell (p:=⟨b2,o2+i,none⟩) hb2).trans hc2;have hxl:=OK1.o x (List.mem_of_getElem? hx);have hyl:=OK2.o y (List.mem_of_getElem? hy);have p1:=(Qa (Qc M21.o I.o.keep (Qb M21.o))).1 1;have p2:=(Qa (Qc M22.o I.o.keep (Qb M22.o))).1 1;simp only[Zx,Zy,Zz] at p1 p2;have hgg:=I.o.own;have q0:=(Qa hgg).1 i;have q1:=(Qa hgg).2 i;obtain⟨z,hz⟩:∃z,(Qdc f s t i)[i]? = some z:=⟨_,List.getElem?_eq_getElem (by rw[QTc (N1.o.trans N2.o.symm) (by rw[N1.o];exact hi),N1.o];exact hlt)⟩;rw[List.getElem?_toArray,List.getElem?_map,hz] at q0;simp only[Option.map_some] at q0;have HS:=Zh (Qkf (f:=f) hx hy (N1.o.trans N2.o.symm));have i1:(0:Int)≤(i:Int):=by omega
    have i2:(i:Int)<(Qj m2:Nat):=by omega
    have hc0:b1≠v2.heap.size:=by omega
    have hc9:b2≠v2.heap.size:=by omega
    clear hx hy hz hgg hc1 hc2;go_wp2_with fail;have hfl:f x y<18446744073709551616:=(HF.o x y wr hxl hyl).1;have k0:=Ne.symm h0g;have k4:=Ne.symm hz1;have k1:=Ne.symm h1g;have k2:=Ne.symm hc0;have k3:=Ne.symm hc9;go_region_held3 (fun w'=>w'.cell? ⟨(v2.heap.size+1),1,none⟩=some (.slice (some ⟨v2.heap.size,0,none⟩) (Qj m2) (Qj m2))∧w'.cell? ⟨w.heap.size,1,none⟩=some (.slice (some ⟨b1,o1,none⟩) (Qj m2) c1)∧w'.cell? ⟨w.heap.size+1,1,none⟩=some (.slice (some ⟨b2,o2,none⟩) (Qj m2) c2)∧w'.cell? ⟨b1,o1+i,none⟩=some (uv x)∧w'.cell? ⟨b2,o2+i,none⟩=some (uv y)) (first|go_keep|exact⟨Qqa hcg x1,Qqa h0g p1,Qqa h1g p2,Qqa hc0 g1,Qqa hc9 g2⟩|exact⟨QM h0g p1,QM h1g p2,QM hc0 g1,QM hc9 g2⟩|exact⟨QM hcg x1,QM h0g p1,QM h1g p2,QM hc0 g1,QM hc9 g2⟩) ((go_at_call 152;refine((HF.o x y _ hxl hyl).2).mono ?_;rintro e w9 ⟨rfl,rfl⟩))
    all_goals
     go_wp2;go_roundw
     case rel=>exact⟨i+1,by omega,by go_num,by rw[HS.o];exact((I.o.put i (f x y)).drew 1)⟩
     case measure=>simp[intOf];omega
   ·obtain rfl:i=Qj m2:=by omega
    have HFI:=Zh (I.o.fin (.int .i64 s.width) (.slice (some ⟨v2.heap.size,0,none⟩) (Qj m2) (Qj m2)));have HZ:=Zh (show Qdc f s t (Qj m2)=(zipS f s t).words by rw[←N1.o];exact QKf (N1.o.trans N2.o.symm));have HZF:=Zh (Qee (fun a b ha hb=>(HF.o a b w ha hb).1) F1.o F2.o HD.o).1;go_wp2;refine bodyPost_ret (v:=.tuple #[setV (zipS f s t) (.slice (some ⟨v2.heap.size,0,none⟩) (Qj m2) (Qj m2)),.int .i64 0]) (by simp[results,Tryz.results86,go_sem,z0,z1,zipS]) rfl ⟨_,rfl,.inr ⟨v2.heap.size,?_,by have:=I.o.old.2.2.1;exact this,?_,HZF.o⟩,HFI.o.2⟩
    ·rw[←HZ.o,QTc (N1.o.trans N2.o.symm) (by rw[N1.o];exact Nat.le_refl _),N1.o]
    ·rw[←HZ.o];exact HFI.o.1
 ·have I0:=Zh (show XIn w v2 ((v2.alloc (.cells #[.int .i64 s.width,.slice (some ⟨v2.heap.size+1,0,none⟩) (Qj m2) (Qj m2)] 52)).alloc (.cells (zc (Qj m2)) 139)).drew (w.heap.size+1+1) v2.heap.size (v2.heap.size+1) m2 s.width (Qdc f s t 0) from⟨((B2.o.alloc ZO _).alloc (by simp;omega) _).drew,((Zb).alloc ZS _).drew,Qz _ (Qz _ M23.o),Qz _ (heap_alloc_new _ _),by rw[Qjf N1.o];exact Qda _ _,by omega,by omega,by omega,by omega,by omega,by omega,by omega⟩);obtain⟨V,hV⟩:=Ze (((v2.alloc (.cells #[.int .i64 s.width,.slice (some ⟨v2.heap.size+1,0,none⟩) (Qj m2) (Qj m2)] 52)).alloc (.cells (zc (Qj m2)) 139)).drew);rw[hV] at I0;have HV:=Zh hV;have hrc:w.heap.size+1+1≠v2.heap.size:=by omega
  have h0c:w.heap.size≠v2.heap.size:=by omega
  have h1c:w.heap.size+1≠v2.heap.size:=by omega
  have h0g:w.heap.size≠(v2.heap.size+1):=by omega
  have h1g:w.heap.size+1≠(v2.heap.size+1):=by omega
  have hcg:v2.heap.size≠(v2.heap.size+1):=by omega
  have hcur:=I0.o.cur;clear hV x0 x1 y0 y1 z0 z1 f0 f1;have x0:=(Qa hcur).1 0;have x1:=(Qa hcur).1 1;simp only[Zx,Zy,Zz] at x0 x1;clear hcur;go_wp2_with fail;rw[show((v2.alloc (.cells #[.int .i64 s.width,.slice (some ⟨v2.heap.size+1,0,none⟩) (Qj m2) (Qj m2)] 52)).alloc (.cells (zc (Qj m2)) 139)).drew=V from HV.o];go_loopw [37] (fun y wr=>∃i:Nat,i≤Qj m2∧y=.int .i64 i∧Hid (XIn w v2 wr (w.heap.size+1+1) v2.heap.size (v2.heap.size+1) m2 s.width (Qdc f s t i))) (fun y _=>Qj m2-(intOf y).toNat)
  case atStart=>exact⟨0,Nat.zero_le _,rfl,I0.o⟩
  case round=>
   clear I0 x0 x1;obtain⟨i,hi,rfl,I⟩:=hrel;have J0:=Zh (Qa I.o.cur);have x0:=J0.o.1 0;have x1:=J0.o.1 1;have J1:=Zh (Qa I.o.res);have z0:=J1.o.1 0;have z1:=J1.o.1 1;have f0:=J1.o.2 0;have f1:=J1.o.2 1;simp only[Zx,Zy,Zz] at x0 x1 z0 z1;by_cases hlt:i<Qj m2
   ·obtain⟨x,hx⟩:∃x,s.words[i]? = some x:=⟨_,List.getElem?_eq_getElem (show i<s.words.length by have:=N1.o;omega)⟩;obtain⟨y,hy⟩:∃y,t.words[i]? = some y:=⟨_,List.getElem?_eq_getElem (show i<t.words.length by have:=N2.o;omega)⟩;obtain⟨b1,o1,rfl,hb1,-,hc1⟩:=K1.o i x hx;obtain⟨b2,o2,rfl,hb2,-,hc2⟩:=K2.o i y hy;have g1:=(I.o.below.cell (p:=⟨b1,o1+i,none⟩) hb1).trans hc1;have g2:=(I.o.below.cell (p:=⟨b2,o2+i,none⟩) hb2).trans hc2;have hxl:=OK1.o x (List.mem_of_getElem? hx);have hyl:=OK2.o y (List.mem_of_getElem? hy);have p1:=(Qa (Qc M21.o I.o.keep (Qb M21.o))).1 1;have p2:=(Qa (Qc M22.o I.o.keep (Qb M22.o))).1 1;simp only[Zx,Zy,Zz] at p1 p2;have hgg:=I.o.own;have q0:=(Qa hgg).1 i;have q1:=(Qa hgg).2 i;obtain⟨z,hz⟩:∃z,(Qdc f s t i)[i]? = some z:=⟨_,List.getElem?_eq_getElem (by rw[QTc (N1.o.trans N2.o.symm) (by rw[N1.o];exact hi),N1.o];exact hlt)⟩;rw[List.getElem?_toArray,List.getElem?_map,hz] at q0;simp only[Option.map_some] at q0;have HS:=Zh (Qkf (f:=f) hx hy (N1.o.trans N2.o.symm));have i1:(0:Int)≤(i:Int):=by omega
    have i2:(i:Int)<(Qj m2:Nat):=by omega
    have hc0:b1≠(v2.heap.size+1):=by omega
    have hc9:b2≠(v2.heap.size+1):=by omega
    clear hx hy hz hgg hc1 hc2;go_wp2_with fail;have hfl:f x y<18446744073709551616:=(HF.o x y wr hxl hyl).1;have k0:=Ne.symm h0g;have k4:=Ne.symm hz1;have k1:=Ne.symm h1g;have k2:=Ne.symm hc0;have k3:=Ne.symm hc9;go_region_held3 (fun w'=>w'.cell? ⟨v2.heap.size,1,none⟩=some (.slice (some ⟨(v2.heap.size+1),0,none⟩) (Qj m2) (Qj m2))∧w'.cell? ⟨w.heap.size,1,none⟩=some (.slice (some ⟨b1,o1,none⟩) (Qj m2) c1)∧w'.cell? ⟨w.heap.size+1,1,none⟩=some (.slice (some ⟨b2,o2,none⟩) (Qj m2) c2)∧w'.cell? ⟨b1,o1+i,none⟩=some (uv x)∧w'.cell? ⟨b2,o2+i,none⟩=some (uv y)) (first|go_keep|exact⟨Qqa hcg x1,Qqa h0g p1,Qqa h1g p2,Qqa hc0 g1,Qqa hc9 g2⟩|exact⟨QM h0g p1,QM h1g p2,QM hc0 g1,QM hc9 g2⟩|exact⟨QM hcg x1,QM h0g p1,QM h1g p2,QM hc0 g1,QM hc9 g2⟩) ((go_at_call 152;refine((HF.o x y _ hxl hyl).2).mono ?_;rintro e w9 ⟨rfl,rfl⟩))
    all_goals
     go_wp2;go_roundw
     case rel=>exact⟨i+1,by omega,by go_num,by rw[HS.o];exact((I.o.put i (f x y)).drew 1)⟩
     case measure=>simp[intOf];omega
   ·obtain rfl:i=Qj m2:=by omega
    have HFI:=Zh (I.o.fin (.int .i64 s.width) (.slice (some ⟨(v2.heap.size+1),0,none⟩) (Qj m2) (Qj m2)));have HZ:=Zh (show Qdc f s t (Qj m2)=(zipS f s t).words by rw[←N1.o];exact QKf (N1.o.trans N2.o.symm));have HZF:=Zh (Qee (fun a b ha hb=>(HF.o a b w ha hb).1) F1.o F2.o HD.o).1;go_wp2;refine bodyPost_ret (v:=.tuple #[setV (zipS f s t) (.slice (some ⟨(v2.heap.size+1),0,none⟩) (Qj m2) (Qj m2)),.int .i64 0]) (by simp[results,Tryz.results86,go_sem,z0,z1,zipS]) rfl ⟨_,rfl,.inr ⟨(v2.heap.size+1),?_,by have:=I.o.old.2.2.1;exact this,?_,HZF.o⟩,HFI.o.2⟩
    ·rw[←HZ.o,QTc (N1.o.trans N2.o.symm) (by rw[N1.o];exact Nat.le_refl _),N1.o]
    ·rw[←HZ.o];exact HFI.o.1
end
section
open Go.RowKit
variable [Base]
theorem Qbi (s t:QSet)(u1 u2:Value)(w:World)(h1:Qi w u1 s.words)(h2:Qi w u2 t.words):
  Calls Tryz.prog 93 #[setV s u1,setV t u2] w (SetE (QIa (clr) s t) w):=by
 obtain⟨a1,n1,c1,rfl⟩:∃a n c,u1=.slice a n c:=by obtain⟨a,c,rfl,-⟩:=h1.cell;exact⟨_,_,_,rfl⟩
 obtain⟨a2,n2,c2,rfl⟩:∃a n c,u2=.slice a n c:=by obtain⟨a,c,rfl,-⟩:=h2.cell;exact⟨_,_,_,rfl⟩
 have R1:=Zh h1;have R2:=Zh h2;obtain⟨W,hW⟩:=Ze (((w.alloc (.cells #[.int .i64 s.width,.slice a1 n1 c1] 52)).alloc (.cells #[.int .i64 t.width,.slice a2 n2 c2] 52)).alloc (.cells #[.int .i64 0,.slice none 0 0] 52));have B0:Below w.heap.size w W:=by rw[←hW];exact((Zb).alloc ZS _).alloc (by simp;omega) _
 have L3:W.heap[w.heap.size+1+1]? = some (.cells #[.int .i64 0,.slice none 0 0] 52 (0,0)):=by rw[←hW];have k:=heap_alloc_new ((w.alloc (.cells #[.int .i64 s.width,.slice a1 n1 c1] 52)).alloc (.cells #[.int .i64 t.width,.slice a2 n2 c2] 52)) (.cells #[.int .i64 0,.slice none 0 0] 52);simp only[World.size_alloc] at k;exact k
 have HW:=Zh hW;have BB:=Zh B0;have H3:=Zh L3;clear hW B0 L3 h1 h2;go_enter Tryz.func93,Tryz.ntmps93;go_wp2_with fail;rw[show((w.alloc (.cells #[.int .i64 s.width,.slice a1 n1 c1] 52)).alloc (.cells #[.int .i64 t.width,.slice a2 n2 c2] 52)).alloc (.cells #[.int .i64 0,.slice none 0 0] 52)=W from HW.o];refine(Qko (clr) QKt s t _ _ _ (R1.o.below BB.o) (R2.o.below BB.o)).mono ?_;rintro e v ⟨u,rfl,hu,b1⟩;obtain⟨ua,un,uc,rfl⟩:=hu.shape;obtain⟨q,hq⟩:=Ze (QIa (clr) s t);rw[hq] at hu ⊢;have HU:=Zh hu;have L3:=Zh (Qc H3.o b1 (Qb H3.o));have B1:=Zh (BB.o.trans (b1.mono BB.o.size));have z0:=(Qa L3.o).1 0;have z1:=(Qa L3.o).1 1;have f0:=(Qa L3.o).2 0;have f1:=(Qa L3.o).2 1;simp only[Zx,Zy,Zz] at z0 z1;have hsz:=Qb L3.o;have HLT:=Zh (Qb H3.o);have HQ:=Zh hq;clear hu b1 hq;go_wp2;refine bodyPost_ret (v:=.tuple #[setV q.1 (.slice ua un uc),.int .i64 q.2]) (by simp[results,Tryz.results93,go_sem,z0,z1]) rfl ?_;rw[HQ.o];exact⟨_,rfl,((HU.o.setCell HLT.o).setCell HLT.o).mono BB.o.size,(B1.o.setCell (p:=⟨w.heap.size+1+1,0,none⟩) (by show w.heap.size≤w.heap.size+1+1;omega) _).setCell (p:=⟨w.heap.size+1+1,1,none⟩) (by show w.heap.size≤w.heap.size+1+1;omega) _⟩
end
section
variable [Base]
theorem Qwm {f:Nat→Nat→Nat}{g:Bool→Bool→Bool}(hfg:∀a b k,(f a b).testBit k=g (a.testBit k) (b.testBit k))(hlt:∀a b,a<18446744073709551616→b<18446744073709551616→f a b<18446744073709551616)(h0:g false false=false){m:Nat}{s t:QSet}(hs:Ok m s)(ht:Ok m t):∃r,QIa f s t=(r,0)∧Ok m r∧∀b:Nat,QE r.words b=g (QE s.words b) (QE t.words b):=by
 have hw:s.width=t.width:=hs.width.trans ht.width.symm;have hz:=Qee hlt hs.form ht.form hw;refine⟨zipS f s t,?_,⟨hz.1,Qzr hfg hlt h0 hs.ok ht.ok hs.words ht.words hw,hs.width⟩,fun b=>?_⟩
 ·unfold QIa;rw[if_neg (by rw[hs.ok,ht.ok];simp),if_neg (by simpa using hw)]
 ·rw[show(zipS f s t).words=List.zipWith f s.words t.words from rfl,QXk hfg hz.2 h0]
theorem QXo {m:Nat}{s t:QSet}(hs:Ok m s)(ht:Ok m t):∃r,QIa clr s t=(r,0)∧Ok m r∧∀b:Nat,QE r.words b=(QE s.words b&&!QE t.words b):=Qwm (g:=fun a b=>a&&!b) QAl (fun _ _ h _=>Qvl h) rfl hs ht
theorem QCj {m:Nat}{s:QSet}(h:Ok m s){k:Nat}(hk:k<m):hasZ s (k:Int)=QE s.words k:=by
 unfold hasZ;rw[h.ok,h.width];simp[hk]
end
end Go.Proofs.YtijekimobahgpaaGreatDoor
