/- A part of the proof. -/
import Derived.Test.YtijekimobahgpaaGreatDoorVa05
import Derived.Deep.Quiet
import Derived.Deep.CutBlock
import Derived.Deep.Light
set_option linter.unusedVariables false
set_option linter.unusedSimpArgs false
set_option linter.unusedSectionVars false
set_option maxRecDepth 100000
set_option maxHeartbeats 16000000
namespace Go.Proofs.YtijekimobahgpaaGreatDoor
section
open Go.RowKit
variable [Base]
theorem Quh (ls:List (List UInt8))(l:List UInt8)(n c:Nat)(a:Option Addr)(w:World)(hx:Hid (ls.length=n))(hn:n≤9223372036854775807)(F:Hid (Qvn w a ls)):
  Calls Tryz.prog 229 #[.slice a n c,.string ⟨l.toArray⟩] w fun e w'=>e=.returned (.bool (hasB ls l))∧∃k,w'=w.drewN k:=by
 go_enter Tryz.func229,Tryz.ntmps229;go_wp2_with (go_at_call 160;refine(Qar ls l n c a _ hx hn F).mono ?_;rintro e w' ⟨r,rfl,hr,k,rfl⟩);go_ret;exact⟨Qgb hr.o,_,rfl⟩
def KwAt (w:World):Prop:=∃a c,w.cell? ⟨2,0,none⟩=some (.slice a 11 c)∧Qvn w a kws
theorem Qqo (w:World):
  Calls Tryz.prog 186 #[.string ⟨#[]⟩] w fun e w'=>e=.returned (.bool (QV []))∧∃k,w'=w.drewN k:=by
 go_enter Tryz.func186,Tryz.ntmps186;go_wp2;go_ret;exact⟨Qgb rfl,0,rfl⟩
theorem QBm (c:UInt8)(r:List UInt8)(w:World)(h0:16<(c::r).length):
  Calls Tryz.prog 186 #[.string ⟨(c::r).toArray⟩] w fun e w'=>e=.returned (.bool (QV (c::r)))∧∃k,w'=w.drewN k:=by
 rw[Qxk h0];have h:decide ((16:Int)<(r.length:Int)+1)=true:=by simp at h0 ⊢;omega
 clear h0;go_enter Tryz.func186,Tryz.ntmps186;go_wp2;go_ret;exact⟨rfl,0,rfl⟩
theorem Qol (c:UInt8)(r:List UInt8)(w:World)(h0:(c::r).length≤16)(h1:Qjb (c.toNat:Int)=false):
  Calls Tryz.prog 186 #[.string ⟨(c::r).toArray⟩] w fun e w'=>e=.returned (.bool (QV (c::r)))∧∃k,w'=w.drewN k:=by
 rw[Qtj (show QGg (c::r)=false from h1)];have h:decide ((16:Int)<(r.length:Int)+1)=false:=by simp at h0 ⊢;omega
 clear h0;have h2:Qjb (((⟨(c::r).toArray⟩:ByteArray)[0]'(by rw[Qbl];simp)).toNat:Int)=false:=h1;clear h1;go_enter Tryz.func186,Tryz.ntmps186;go_wp2_with (go_at_call 228;refine(Qqe _ _).mono ?_;rintro e w' ⟨rfl,rfl⟩);go_ret;exact⟨rfl,0,rfl⟩
theorem QUq (c:UInt8)(r:List UInt8)(w:World)(h0:(c::r).length≤16)(h1:Qjb (c.toNat:Int)=true)(KW:KwAt w):
  Calls Tryz.prog 186 #[.string ⟨(c::r).toArray⟩] w fun e w'=>e=.returned (.bool (QV (c::r)))∧∃k,w'=w.drewN k:=by
 obtain⟨a,cp,hk,hF⟩:=KW;have F:=Zh hF;clear hF;have hl:(⟨(c::r).toArray⟩:ByteArray).size=r.length+1:=by rw[Qbl];simp
 have WE:=Zh (fun w=>QEl ⟨(c::r).toArray⟩ 0 w (by rw[hl];unfold maxLen;simp at h0;omega) (Nat.zero_le _));clear hl;have h:decide ((16:Int)<(r.length:Int)+1)=false:=by simp at h0 ⊢;omega
 have h2:Qjb (((⟨(c::r).toArray⟩:ByteArray)[0]'(by rw[Qbl];simp)).toNat:Int)=true:=h1;have H0:=Zh h0;have H1:=Zh h1;clear h0 h1
 cases e:hasB kws (c::r)
 ·have EE:=Zh e;go_enter Tryz.func186,Tryz.ntmps186;go_wp2_with (first
  |(go_at_call 228;refine(Qqe _ _).mono ?_;rintro e w' ⟨rfl,rfl⟩)
  |(go_at_call 229;refine(Quh kws (c::r) 11 cp a _ rfl ZO F).mono ?_;rintro e w' ⟨rfl,k,rfl⟩)
  |(go_at_call 230;refine(WE.o _).mono ?_;rintro e w' ⟨rfl,rfl⟩))
  go_ret;refine⟨Qgb ?_,_,rfl⟩;rw[Qwk H0.o H1.o EE.o];have ht:=QCr Qha (c::r);have hw:wlen ⟨(c::r).toArray⟩ 0=((c::r).takeWhile Qha).length:=rfl;rw[←hw] at ht;rw[Bool.eq_iff_iff,←ht];have hs:((0+wlen ⟨(c::r).toArray⟩ 0:Nat):Int)=(wlen ⟨(c::r).toArray⟩ 0:Int):=by simp
  simp;omega
 ·rw[QFp e];go_enter Tryz.func186,Tryz.ntmps186;go_wp2_with (first
  |(go_at_call 228;refine(Qqe _ _).mono ?_;rintro e w' ⟨rfl,rfl⟩)
  |(go_at_call 229;refine(Quh kws (c::r) 11 cp a _ rfl ZO F).mono ?_;rintro e w' ⟨rfl,k,rfl⟩))
  go_ret;exact⟨rfl,_,rfl⟩
theorem Qzj (s:ByteArray)(w:World)(KW:KwAt w):
  Calls Tryz.prog 186 #[.string s] w fun e w'=>e=.returned (.bool (QV s.data.toList))∧∃k,w'=w.drewN k:=by
 obtain⟨⟨l⟩⟩:=s
 match l with
|[]=>exact Qqo w
|c::r=>
  show Calls Tryz.prog 186 #[.string ⟨(c::r).toArray⟩] w fun e w'=>e=.returned (.bool (QV (c::r)))∧∃k,w'=w.drewN k
  by_cases h0:16<(c::r).length
  ·exact QBm c r w h0
  cases h1:Qjb (c.toNat:Int)
  ·exact Qol c r w ZO h1
  ·exact QUq c r w ZO h1 KW
end
section
open Go.RowKit
variable [Base]
def KwIn (B:Nat)(w:World):Prop:=(2<B∧Base.b≤B)∧∃b off c,b<B∧w.cell? ⟨2,0,none⟩=some (.slice (some ⟨b,off,none⟩) 11 c)∧Qvn w (some ⟨b,off,none⟩) kws
theorem KwIn.at_ {B:Nat}{w w':World}(h:KwIn B w)(hb:Below B w w'):KwAt w':=by
 obtain⟨h0,b,off,c,h1,h2,h3⟩:=h;refine⟨some ⟨b,off,none⟩,c,(hb.cell (p:=⟨2,0,none⟩) (by show 2<B;omega)).trans h2,fun k s hk=>?_⟩;obtain⟨b',off',e,hc⟩:=h3 k s hk;injection e with e
 injection e with e1 e2
 subst e1 e2;exact⟨b,off,rfl,(hb.cell (p:=⟨b,off+k,none⟩) h1).trans hc⟩
theorem KwIn.keep {B:Nat}{w w':World}(h:KwIn B w)(hB:∀k,k<B→w'.heap[k]? = w.heap[k]?):KwIn B w':=by
 obtain⟨h0,b,off,c,h1,h2,h3⟩:=h;refine⟨h0,b,off,c,h1,(World.cell?_of_block (hB 2 ZO)).trans h2,fun k s hk=>?_⟩;obtain⟨b',off',e,hc⟩:=h3 k s hk;injection e with e
 injection e with e1 e2
 subst e1 e2;exact⟨b,off,rfl,(World.cell?_of_block (hB b h1)).trans hc⟩
theorem KwIn.bs {B:Nat}{w:World}(h:KwIn B w):Base.b≤B:=h.1.2
end
section
open Go.RowKit
variable [Base]
def Qcu (b:Bool)(w:World)(e:Ending)(w':World):Prop:=e=.returned (.bool b)∧∃k,w'=w.drewN k
theorem Qmm (s:Str)(w:World)(kw:KwAt w):Calls Tryz.prog 234 #[sv s] w (Qcu (!QV s) w):=by
 have K:=Zh (Qzj ⟨s.toArray⟩ w kw);obtain⟨r,hr⟩:=Ze (QV s);have HR:=Zh (show QV (ByteArray.mk s.toArray).data.toList=r from hr);rw[hr];clear kw hr;go_enter Tryz.func234,Tryz.ntmps234;go_wp2_with fail;refine K.o.mono ?_;rintro e w' ⟨rfl,k,rfl⟩;rw[HR.o];go_wp2;go_ret;exact⟨rfl,k,rfl⟩
def QEu (l:List Str)(w:World)(e:Ending)(w':World):Prop:=∃z:Int,e=.returned (iv z)∧-1≤z∧l.all QV=decide (z<0)∧∃k,w'=w.drewN k
theorem QBo (l:List Str)(v:Value)(w:World)(h:Qea w v l)(kw:KwAt w):
  Calls Tryz.prog 251 #[v,.func (.func 234) #[] #[]] w (QEu l w):=by
 obtain⟨a,c,rfl,hn,hc⟩:=h.cell;have HC:=Zh hc;have KW:=Zh kw;obtain⟨n,hl⟩:=Ze l.length;rw[hl] at hn ⊢;have HL:=Zh hl;clear hc h hl kw;unfold maxLen at hn;go_enter Tryz.func251,Tryz.ntmps251;go_wp2;go_loopw [8] (fun x wr=>∃k m:Nat,k≤n∧x=.int .i64 k∧wr=w.drewN m∧Hid (l.all QV=(l.drop k).all QV)) (fun x _=>n-(intOf x).toNat)
 case atStart=>exact⟨0,0,Nat.zero_le _,rfl,rfl,by unfold Hid;simp⟩
 case round=>
  obtain⟨k,m,hk,rfl,rfl,HA⟩:=hrel;by_cases hlt:k<n
  ·obtain⟨t,ht⟩:∃t,l[k]? = some t:=⟨_,List.getElem?_eq_getElem (show k<l.length by have:=HL.o;omega)⟩;obtain⟨b1,o1,rfl,_,g1⟩:=HC.o k t ht;have K:=Zh (Qmm t (w.drewN m) KW.o);have HS:=Zh (Qsn QV ht);obtain⟨r,hr⟩:=Ze (QV t);rw[hr] at K HS;clear ht hr
   cases r with
  |false=>
    have HF:=Zh (show l.all QV=false by rw[HA.o,HS.o];rfl);go_wp2_with fail;refine K.o.mono ?_;rintro e w' ⟨rfl,k2,rfl⟩;go_wp2;go_ret;exact⟨(k:Int),rfl,by omega,by rw[HF.o];simp,_,rfl⟩
  |true=>
    have HF:=Zh (show l.all QV=(l.drop (k+1)).all QV by rw[HA.o,HS.o];rfl);go_wp2_with fail;refine K.o.mono ?_;rintro e w' ⟨rfl,k2,rfl⟩;go_wp2;go_roundw
    case rel=>exact⟨k+1,_,by omega,by go_num,rfl,HF⟩
    case measure=>simp[intOf];omega
  ·have HF:=Zh (show l.all QV=true by rw[HA.o,List.drop_eq_nil_of_le (by rw[HL.o];omega)];rfl);go_wp2;go_ret;exact⟨-1,rfl,by omega,by rw[HF.o];rfl,_,rfl⟩
theorem Qhg (l:List Str)(v:Value)(w:World)(h:Qea w v l)(kw:KwAt w):
  Calls Tryz.prog 233 #[v,.func (.func 234) #[] #[]] w (Qcu (!l.all QV) w):=by
 obtain⟨a,c,rfl,-,-⟩:=h.cell;have K:=Zh (QBo l _ w h kw);clear h kw;go_enter Tryz.func233,Tryz.ntmps233;go_wp2_with fail;refine K.o.mono ?_;rintro e w' ⟨z,rfl,hz,ha,k,rfl⟩;have HA:=Zh (show(!l.all QV)=decide (0≤z) by rw[ha,Bool.eq_iff_iff];simp);clear ha;go_wp2;go_ret;exact⟨by rw[HA.o];rfl,k,rfl⟩
end
section
def useN (op:Int)(n:Nat):Int:=if op=1 then n else if op=2 then max n 1 else if op=5∨op=8 then 1 else 0
def tgtN (op:Int):Int:=if op=8 then 2 else if op=3∨op=7 then 1 else 0
def opK (op:Int):Bool:=decide (1≤op)&&decide (op≤9)
def Qhh (s:QD):List Str:=s.uses++s.targets++(if dfnB s.op then [s.dfn] else [])
def QHh (s:QD):Bool:=
 opK s.op&&((dfnB s.op||s.dfn.isEmpty)&&(decide ((s.uses.length:Int)=useN s.op s.uses.length)&&(decide (useN s.op s.uses.length≤4)&&(decide ((s.targets.length:Int)=tgtN s.op)&&(Qhh s).all QV))))
theorem Qtn (s:QD):(Qhh s).all QV=(s.uses.all QV&&s.targets.all QV&&(!dfnB s.op||QV s.dfn)):=by
 unfold Qhh;rw[List.all_append,List.all_append]
 cases dfnB s.op <;> simp
theorem QYi (s:QD):stmtB s=QHh s:=by
 unfold stmtB QHh;rw[Qtn];obtain⟨op,d,us,ts⟩:=s;unfold opB opK Qjl useN tgtN dfnB;simp only[];generalize us.all QV=a;generalize ts.all QV=b;generalize QV d=c;generalize d.isEmpty=e;generalize us.length=n;generalize ts.length=m;have hc:op=1∨op=2∨op=3∨op=4∨op=5∨op=6∨op=7∨op=8∨op=9∨¬(1≤op∧op≤9):=by omega
 rcases hc with rfl|rfl|rfl|rfl|rfl|rfl|rfl|rfl|rfl|hc
 rotate_left 9
 ·have h1:op≠1:=by omega
  have h2:op≠2:=by omega
  have h3:op≠3:=by omega
  have h4:op≠4:=by omega
  have h5:op≠5:=by omega
  have h6:op≠6:=by omega
  have h7:op≠7:=by omega
  have h8:op≠8:=by omega
  have h9:op≠9:=by omega
  have h10:(decide (1≤op)&&decide (op≤9))=false:=by rw[Bool.eq_false_iff];simp;omega
  rw[h10];simp[h1,h2,h3,h4,h5,h6,h7,h8,h9]
 all_goals
  rw[Bool.eq_iff_iff]
  cases a <;> cases b <;> cases c <;> cases e <;> simp <;> omega
end
section
open Go
section
variable {P:Program} {ops:Array Oper} {Q:Exit→Act→World→Prop} {md:Region.Mode} {S:World→Prop}
def Qma (P:Program)(md:Region.Mode)(ops:Array Oper)(Q:Exit→Act→World→Prop)(S:World→Prop)(st:Nat):Nat→Array Bool→Act→World→Prop
|0,listed,a,w=>Region.ready md ops listed=[]∧Q .normal a w
|fuel+1,listed,a,w=>
  (Region.ready md ops listed=[]→Q .normal a w) ∧
  ∀i∈Region.ready md ops listed,wpOp P ops Q i (fun a' w'=>(i≠st→S w')∧Qma P md ops Q S st fuel (listed.setIfInBounds i true) a' w') a w
theorem QKi {st:Nat}:∀(fuel:Nat) (listed:Array Bool) (a:Act) (w:World),Qma P md ops Q S st fuel listed a w→wpAny P md ops Q fuel listed a w
|0,_,_,_,h=>h
|fuel+1,_,_,_,h=>⟨h.1,fun i hi=>wpOp_mono (fun a' w' h'=>QKi fuel _ a' w' h'.2) (h.2 i hi)⟩
def Qcg (md:Region.Mode)(ops:Array Oper)(st i:Nat):Bool:=match ops[st]? with
|some o=>o.after.any fun e=>Region.binds md e&&e.on==i
|none=>false
theorem QXb {st i:Nat}{listed:Array Bool}(hw:Qcg md ops st i=true)(hi:listed.getD i false=false)(hr:st∈Region.ready md ops listed):False:=by
 obtain⟨_,o,ho,hall⟩:=mem_ready.1 hr;unfold Qcg at hw;rw[ho] at hw;obtain⟨e,he,hb⟩:=Array.any_eq_true'.1 hw;simp only[Bool.and_eq_true,beq_iff_eq] at hb;have:=hall e he hb.1;rw[hb.2,hi] at this
 cases this
theorem QYb {listed:Array Bool}{i:Nat}(h:listed.getD i true=false):listed.getD i false=false:=by
 rcases Nat.lt_or_ge i listed.size with h'|h'
 ·simp[h'] at h ⊢;exact h
 ·simp[Array.getElem?_eq_none h'] at h
theorem QYk {st i:Nat}{oi:Oper}{v:Value}(hi:ops[i]? = some oi)(hsel:∀(j:Nat) (o:Oper) cs b,ops[j]? = some o→o.op≠.select cs b)(hw:Qcg md ops st i=true)(hQ:∀c a w,Q (.panic c) (a.put oi.dst v) w→Q (.panic c) a w):
  ∀(fuel:Nat) (listed:Array Bool) (a:Act) (w:World),
   (∀j oj,ops[j]? = some oj→j≠i→listed.getD j true=false→(∀e∈oj.after,Region.binds md e=true→e.on≠i)→oi.apart ops oj=true) →
   i∈Region.ready md ops listed→YieldsIf P ops S oi v a→S w →
   Qma P md ops Q S st fuel (listed.setIfInBounds i true) (a.put oi.dst v) w→Qma P md ops Q S st (fuel+1) listed a w:=by
 intro fuel
 induction fuel with
|zero=>
  intro listed a w _ hr hy hS H;refine⟨fun h=>(by rw[h] at hr;cases hr),fun j hj=>?_⟩;by_cases hji:j=i
  ·subst hji;exact hy.wpOp hi hS ⟨fun _=>hS,H⟩
  ·have:=ready_mono hj hji;rw[H.1] at this
   cases this
|succ fuel ih=>
  intro listed a w hfree hr hy hS H;refine⟨fun h=>(by rw[h] at hr;cases hr),fun j hj=>?_⟩;by_cases hji:j=i
  ·subst hji;exact hy.wpOp hi hS ⟨fun _=>hS,H⟩
  ·have hiun:=QYb (mem_ready.1 hr).1;have hjst:j≠st:=fun h=>QXb hw hiun (h▸hj)
   obtain⟨hjun,oj,hoj,hall⟩:=mem_ready.1 hj;have hnot:∀e∈oj.after,Region.binds md e=true→e.on≠i:=fun e he hb heq=>by
    have h1:=hall e he hb;rw[heq,hiun] at h1
    cases h1
   have hstep:=wpOp_putIf hoj (hfree j oj hoj hji hjun hnot) (fun cs b=>hsel i oi cs b hi) (fun cs b=>hsel j oj cs b hoj) hQ hy (H.2 j (ready_mono hj hji));refine wpOp_mono (fun a' w' h3=>⟨h3.2.1,ih (listed.setIfInBounds j true) a' w' ?_ (ready_mono hr (Ne.symm hji)) h3.1 (h3.2.1 hjst) ?_⟩) hstep
   ·intro k ok hk hki hun hno;refine hfree k ok hk hki ?_ hno;by_cases hjk:j=k
    ·subst hjk;exact hjun
    ·rw[getD_set_ne true hjk] at hun;exact hun
   ·rw[Array.setIfInBounds_comm _ _ hji];exact h3.2.2
theorem Qei {st i:Nat}{oi:Oper}{v:Value}{fuel:Nat}{listed:Array Bool}{a:Act}{w:World}(hi:ops[i]? = some oi)(hs:Region.noSelect ops=true)(hf:Region.free md ops listed i=true)(hr:(Region.ready md ops listed).contains i=true)(hw:Qcg md ops st i=true)(hQ:∀c a w,Q (.panic c) (a.put oi.dst v) w→Q (.panic c) a w)(hy:YieldsIf P ops S oi v a)(hS:S w)(h:Qma P md ops Q S st fuel (listed.setIfInBounds i true) (a.put oi.dst v) w):Qma P md ops Q S st (fuel+1) listed a w:=
 QYk hi (Region.noSelect_spec hs) hw hQ fuel listed a w (Region.free_spec hi hf) (by simpa using hr) hy hS h
theorem Qr {st:Nat}(i:Nat)(v:Value){oi:Oper}{fuel:Nat}{listed:Array Bool}{a:Act}{w:World}(hi:ops[i]? = some oi)(hs:Region.noSelect ops=true)(hf:Region.free md ops listed i=true)(hr:(Region.ready md ops listed).contains i=true)(hw:Qcg md ops st i=true)(hQ:∀c a w,Q (.panic c) (a.put oi.dst v) w→Q (.panic c) a w)(hS:S w)(hwant:Region.wanted oi (yielded ops a.tmps)=true)(hrun:∀w,S w→(execOp a.eval oi).run P w=.ok (.value v) w)(h:Qma P md ops Q S st fuel (listed.setIfInBounds i true) (a.put oi.dst v) w):Qma P md ops Q S st (fuel+1) listed a w:=
 Qei hi hs hf hr hw hQ (.inl ⟨hwant,hrun⟩) hS h
theorem Ql {i:Nat}{o:Oper}{K:Act→World→Prop}{a:Act}{w:World}(ho:ops[i]? = some o)(h:wpList P ops (Exit.then K Q) [o] a w):wpOp P ops Q i K a w:=by
 have key:o.wp P a w K (Exit.then K Q)→o.wp P a w K Q:=by
  unfold Oper.wp;generalize (execOp a.eval o).run P w=r
  cases r with
 |ok n w'=>cases n <;> exact fun h=>h
 |halt x w'=>cases x <;> exact fun h=>h
 unfold wpOp;rw[ho];show if Region.wanted o (yielded ops a.tmps) then o.wp P a w K Q∨(o.asks P a w∧LetsOut Q) else K (a.put o.dst undef) w
 have h':if Region.wanted o (yielded ops a.tmps) then o.wp P a w K (Exit.then K Q)∨(o.asks P a w∧LetsOut (Exit.then K Q)) else K (a.put o.dst undef) w:=h
 split
 ·rename_i hw;rw[if_pos hw] at h';exact h'.imp key id
 ·rename_i hw;rw[if_neg hw] at h';exact h'
theorem Qh {st:Nat}{rs:List Nat}{fuel:Nat}{listed:Array Bool}{a:Act}{w:World}(hr:Region.ready md ops listed=rs)(hne:rs≠[])(h:∀i∈rs,wpOp P ops Q i (fun a' w'=>(i≠st→S w')∧Qma P md ops Q S st fuel (listed.setIfInBounds i true) a' w') a w):Qma P md ops Q S st (fuel+1) listed a w:=
 ⟨fun h0=>absurd (hr▸h0) hne,hr▸h⟩
theorem Qu {st:Nat}{listed:Array Bool}{a:Act}{w:World}(hr:Region.ready md ops listed=[])(h:Q .normal a w):∀fuel,Qma P md ops Q S st fuel listed a w
|0=>⟨hr,h⟩
|_+1=>⟨fun _=>h,by rw[hr];simp⟩
theorem QDl {st:Nat}{id:Nat}{a:Act}{w:World}(hm:P.follows .mixedOrders=true)(h:Qma P .any ops Q S st ops.size (Array.replicate ops.size false) a { w with drawn:=w.drawn+1 }):(Code.region id ops true).wp P Q a w:=
 wp_region_any hm (QKi _ _ _ _ h)
end
theorem Zt {P:Program} {md:Region.Mode} {ops:Array Oper} {Q:Exit→Act→World→Prop} {S:World→Prop} {st:Nat} (i:Nat) {fuel:Nat} {listed:Array Bool} {a:Act} {w:World} (h:wpOp P ops Q i (fun a' w'=>(i≠st→S w')∧Qma P md ops Q S st fuel (listed.setIfInBounds i true) a' w') a w) (hr:Region.ready md ops listed=[i]:=by kernel_rfl):Qma P md ops Q S st (fuel+1) listed a w:=
 Qh hr ZS fun j hj=>by
  obtain rfl:j=i:=by simpa using hj
  exact h
theorem Zp {P:Program} {md:Region.Mode} {ops:Array Oper} {Q:Exit→Act→World→Prop} {S:World→Prop} {st:Nat} (i:Nat) (v:Value) {oi:Oper} {fuel:Nat} {listed:Array Bool} {a:Act} {w:World} (hS:S w) (hrun:∀w,S w→(execOp a.eval oi).run P w=.ok (.value v) w) (h:Qma P md ops Q S st fuel (listed.setIfInBounds i true) (a.put oi.dst v) w) (hi:ops[i]? = some oi:=by rfl) (hs:Region.noSelect ops=true:=by kernel_rfl) (hf:Region.free md ops listed i=true:=by kernel_rfl) (hr:(Region.ready md ops listed).contains i=true:=by kernel_rfl) (hw:Qcg md ops st i=true:=by kernel_rfl) (hQ:∀c a w,Q (.panic c) (a.put oi.dst v) w→Q (.panic c) a w:=by exact fun _ _ _ h=>h) (hwant:Region.wanted oi (yielded ops a.tmps)=true:=by rfl):Qma P md ops Q S st (fuel+1) listed a w:=Qr i v hi hs hf hr hw hQ hS hwant hrun h
theorem Yp {P:Program} {md:Region.Mode} {ops:Array Oper} {Q:Exit→Act→World→Prop} {S:World→Prop} {st:Nat} (i:Nat) {v:Value} {oi:Oper} {fuel:Nat} {listed:Array Bool} {a:Act} {w:World} (h:Qma P md ops Q S st fuel (listed.setIfInBounds i true) (a.put oi.dst v) w) (hi:ops[i]? = some oi:=by rfl) (hS:S w:=by exact hS0) (hrun:∀w,S w→(execOp a.eval oi).run P w=.ok (.value v) w:=by intro w hS;(try simp only[and_assoc] at hS);repeat (obtain⟨_,hS⟩:_∧_:=hS);go_simp;rfl) (hs:Region.noSelect ops=true:=by kernel_rfl) (hf:Region.free md ops listed i=true:=by kernel_rfl) (hr:(Region.ready md ops listed).contains i=true:=by kernel_rfl) (hw:Qcg md ops st i=true:=by kernel_rfl) (hQ:∀c a w,Q (.panic c) (a.put oi.dst v) w→Q (.panic c) a w:=by exact fun _ _ _ h=>h) (hwant:Region.wanted oi (yielded ops a.tmps)=true:=by rfl):Qma P md ops Q S st (fuel+1) listed a w:=Qr i v hi hs hf hr hw hQ hS hwant hrun h
end
section
open Go
theorem QK {P:Program}{ops:Array Oper}{Q:Exit→Act→World→Prop}{S:World→Prop}{st:Nat}{id:Nat}{a:Act}{w:World}(hm:P.follows .mixedOrders=true)(h:Qma P .any ops Q S st ops.size (Array.replicate ops.size false) a (w.drewN 1)):(Code.region id ops true).wp P Q a w:=QDl hm h
theorem Zr {P:Program} {ops:Array Oper} {Q:Exit→Act→World→Prop} {id:Nat} {a:Act} {w:World} (S:World→Prop) (st:Nat) (h0:S (w.drewN 1)) (h:S (w.drewN 1)→Qma P .any ops Q S st ops.size (Array.replicate ops.size false) a (w.drewN 1)) (hm:P.follows .mixedOrders=true:=by kernel_rfl):(Code.region id ops true).wp P Q a w:=QK hm (h h0)
end
section
open Go
theorem Qba (t:Array Value)(d:List Deferred)(i:Nat)(v:Value):Act.put ⟨t,d⟩ (some i) v=⟨t.setIfInBounds i v,d⟩:=rfl
theorem Qaa (a:Act)(v:Value):Act.put a none v=a:=rfl
section
variable {P:Program} {ops:Array Oper} {Q:Exit→Act→World→Prop} {md:Region.Mode} {S:World→Prop}
theorem Qfi {st:Nat}(i:Nat)(d:Option Tmp){oi:Oper}{fuel:Nat}{listed:Array Bool}{a:Act}{w:World}(hi:ops[i]? = some oi)(hs:Region.noSelect ops=true)(hf:Region.free md ops listed i=true)(hr:(Region.ready md ops listed).contains i=true)(hw:Qcg md ops st i=true)(hQ:∀c a w,Q (.panic c) (a.put oi.dst undef) w→Q (.panic c) a w)(hS:S w)(hwant:Region.wanted oi (yielded ops a.tmps)=false)(hd:oi.dst=d)(h:Qma P md ops Q S st fuel (listed.setIfInBounds i true) (a.put d undef) w):Qma P md ops Q S st (fuel+1) listed a w:=
 Qei hi hs hf hr hw hQ (.inr ⟨hwant,rfl⟩) hS (hd▸h)
def QQe (md:Region.Mode)(ops:Array Oper)(st:Nat):Nat→List Nat→Bool
|i,[]=>Qcg md ops st i
|i,c::r=>Qcg md ops c i&&QQe md ops st c r
theorem QNj {st:Nat}{listed:Array Bool}:∀(cs:List Nat) (i:Nat),QQe md ops st i cs=true→listed.getD i true=false→(∀c∈cs,listed.getD c true=false)→(∀c∈cs,c∉Region.ready md ops listed)∧st∉Region.ready md ops listed
|[],i,h,hi,_=>⟨(fun c hc=>by cases hc),fun hr=>QXb h (QYb hi) hr⟩
|c::r,i,h,hi,hc=>by
  unfold QQe at h
  simp only[Bool.and_eq_true] at h
  have h1:=QNj r c h.2 (hc c ZS) (fun d hd=>hc d (by simp[hd]))
  refine⟨fun d hd=>?_,h1.2⟩
  rcases List.mem_cons.1 hd with rfl|hd
  ·exact fun hr=>QXb h.1 (QYb hi) hr
  ·exact h1.1 d hd
theorem Qbg {st i:Nat}{oi:Oper}{v:Value}(cs:List Nat)(hi:ops[i]? = some oi)(hsel:∀(j:Nat) (o:Oper) cs b,ops[j]? = some o→o.op≠.select cs b)(hw:QQe md ops st i cs=true)(hQ:∀c a w,Q (.panic c) (a.put oi.dst v) w→Q (.panic c) a w):
  ∀(fuel:Nat) (listed:Array Bool) (a:Act) (w:World),
   (∀j oj,ops[j]? = some oj→j≠i→listed.getD j true=false→(∀e∈oj.after,Region.binds md e=true→e.on≠i)→oi.apart ops oj=true) →
   (∀c∈cs,listed.getD c true=false) →
   i∈Region.ready md ops listed→YieldsIf P ops S oi v a→S w →
   Qma P md ops Q S st fuel (listed.setIfInBounds i true) (a.put oi.dst v) w→Qma P md ops Q S st (fuel+1) listed a w:=by
 intro fuel
 induction fuel with
|zero=>
  intro listed a w _ _ hr hy hS H;refine⟨fun h=>(by rw[h] at hr;cases hr),fun j hj=>?_⟩;by_cases hji:j=i
  ·subst hji;exact hy.wpOp hi hS ⟨fun _=>hS,H⟩
  ·have:=ready_mono hj hji;rw[H.1] at this
   cases this
|succ fuel ih=>
  intro listed a w hfree hcs hr hy hS H;refine⟨fun h=>(by rw[h] at hr;cases hr),fun j hj=>?_⟩;by_cases hji:j=i
  ·subst hji;exact hy.wpOp hi hS ⟨fun _=>hS,H⟩
  ·have hiun:=QYb (mem_ready.1 hr).1;have hno:=QNj cs i hw (mem_ready.1 hr).1 hcs;have hjst:j≠st:=fun h=>hno.2 (h▸hj)
   have hjc:∀c∈cs,j≠c:=fun c hc h=>hno.1 c hc (h▸hj)
   obtain⟨hjun,oj,hoj,hall⟩:=mem_ready.1 hj;have hnot:∀e∈oj.after,Region.binds md e=true→e.on≠i:=fun e he hb heq=>by
    have h1:=hall e he hb;rw[heq,hiun] at h1
    cases h1
   have hstep:=wpOp_putIf hoj (hfree j oj hoj hji hjun hnot) (fun cs b=>hsel i oi cs b hi) (fun cs b=>hsel j oj cs b hoj) hQ hy (H.2 j (ready_mono hj hji));refine wpOp_mono (fun a' w' h3=>⟨h3.2.1,ih (listed.setIfInBounds j true) a' w' ?_ ?_ (ready_mono hr (Ne.symm hji)) h3.1 (h3.2.1 hjst) ?_⟩) hstep
   ·intro k ok hk hki hun hno;refine hfree k ok hk hki ?_ hno;by_cases hjk:j=k
    ·subst hjk;exact hjun
    ·rw[getD_set_ne true hjk] at hun;exact hun
   ·intro c hc;rw[getD_set_ne true (hjc c hc)];exact hcs c hc
   ·rw[Array.setIfInBounds_comm _ _ hji];exact h3.2.2
theorem Qk {st:Nat}(i:Nat)(d:Option Tmp)(cs:List Nat)(v:Value){oi:Oper}{fuel:Nat}{listed:Array Bool}{a:Act}{w:World}(hi:ops[i]? = some oi)(hs:Region.noSelect ops=true)(hf:Region.free md ops listed i=true)(hr:(Region.ready md ops listed).contains i=true)(hw:(QQe md ops st i cs&&cs.all fun c=>!listed.getD c true)=true)(hQ:∀c a w,Q (.panic c) (a.put oi.dst v) w→Q (.panic c) a w)(hS:S w)(hwant:Region.wanted oi (yielded ops a.tmps)=true)(hd:oi.dst=d)(hrun:∀w,S w→(execOp a.eval oi).run P w=.ok (.value v) w)(h:Qma P md ops Q S st fuel (listed.setIfInBounds i true) (a.put d v) w):Qma P md ops Q S st (fuel+1) listed a w:=by
 subst hd;simp only[Bool.and_eq_true,List.all_eq_true,Bool.not_eq_true'] at hw;exact Qbg cs hi (Region.noSelect_spec hs) hw.1 hQ fuel listed a w (Region.free_spec hi hf) hw.2 (by simpa using hr) (.inl ⟨hwant,hrun⟩) hS h
theorem Qm {st:Nat}(i:Nat)(d:Option Tmp)(v:Value){oi:Oper}{fuel:Nat}{listed:Array Bool}{a:Act}{w:World}(hi:ops[i]? = some oi)(hs:Region.noSelect ops=true)(hf:Region.free md ops listed i=true)(hr:(Region.ready md ops listed).contains i=true)(hw:Qcg md ops st i=true)(hQ:∀c a w,Q (.panic c) (a.put oi.dst v) w→Q (.panic c) a w)(hS:S w)(hwant:Region.wanted oi (yielded ops a.tmps)=true)(hd:oi.dst=d)(hrun:∀w,S w→(execOp a.eval oi).run P w=.ok (.value v) w)(h:Qma P md ops Q S st fuel (listed.setIfInBounds i true) (a.put d v) w):Qma P md ops Q S st (fuel+1) listed a w:=by
 subst hd;exact Qr i v hi hs hf hr hw hQ hS hwant hrun h
theorem QP {st:Nat}(i:Nat)(d:Option Tmp)(fn:FuncId)(vals:Array Value){oi:Oper}{fuel:Nat}{listed:Array Bool}{a:Act}{w:World}(hi:ops[i]? = some oi)(hr:Region.ready md ops listed=[i])(hwant:Region.wanted oi (yielded ops a.tmps)=true)(hrun:(execOp a.eval oi).run P w=.ok (.enter fn vals) w)(hd:oi.dst=d)(hc:Calls P fn vals w fun e w'=>∃v,e=.returned v∧(i≠st→S w')∧Qma P md ops Q S st fuel (listed.setIfInBounds i true) (a.put d v) w'):Qma P md ops Q S st (fuel+1) listed a w:=by
 subst hd;refine Qh hr ZS fun j hj=>?_
 obtain rfl:j=i:=by simpa using hj
 unfold wpOp;rw[hi];show if Region.wanted oi (yielded ops a.tmps) then _ else _
 rw[if_pos hwant];left;unfold Oper.wp;rw[hrun,Oper.upon_enter];refine hc.mono ?_;rintro e w' ⟨v,rfl,h1,h2⟩;exact⟨h1,h2⟩
theorem Qeb {st:Nat}(i:Nat)(d:Option Tmp)(w':World){oi:Oper}{fuel:Nat}{listed:Array Bool}{a:Act}{w:World}(hi:ops[i]? = some oi)(hr:Region.ready md ops listed=[i])(hwant:Region.wanted oi (yielded ops a.tmps)=true)(hrun:(execOp a.eval oi).run P w=.ok .skip w')(hd:oi.dst=d)(hS:i≠st→S w')(h:Qma P md ops Q S st fuel (listed.setIfInBounds i true) (a.put d undef) w'):Qma P md ops Q S st (fuel+1) listed a w:=by
 subst hd;refine Qh hr ZS fun j hj=>?_
 obtain rfl:j=i:=by simpa using hj
 unfold wpOp;rw[hi];show if Region.wanted oi (yielded ops a.tmps) then _ else _
 rw[if_pos hwant];left;unfold Oper.wp;rw[hrun,Oper.upon_skip];exact⟨hS,h⟩
theorem QW {st:Nat}(i:Nat)(d:Option Tmp)(v:Value)(w':World){oi:Oper}{fuel:Nat}{listed:Array Bool}{a:Act}{w:World}(hi:ops[i]? = some oi)(hr:Region.ready md ops listed=[i])(hwant:Region.wanted oi (yielded ops a.tmps)=true)(hrun:(execOp a.eval oi).run P w=.ok (.value v) w')(hd:oi.dst=d)(hS:i≠st→S w')(h:Qma P md ops Q S st fuel (listed.setIfInBounds i true) (a.put d v) w'):Qma P md ops Q S st (fuel+1) listed a w:=by
 subst hd;refine Qh hr ZS fun j hj=>?_
 obtain rfl:j=i:=by simpa using hj
 unfold wpOp;rw[hi];show if Region.wanted oi (yielded ops a.tmps) then _ else _
 rw[if_pos hwant];left;unfold Oper.wp;rw[hrun,Oper.upon_value];exact⟨hS,h⟩
end
theorem Zc {P:Program} {md:Region.Mode} {ops:Array Oper} {Q:Exit→Act→World→Prop} {S:World→Prop} {st:Nat} (i:Nat) (d:Option Tmp) (cs:List Nat) (v:Value) {oi:Oper} {fuel:Nat} {listed:Array Bool} {a:Act} {w:World} (hS:S w) (hrun:∀w,S w→(execOp a.eval oi).run P w=.ok (.value v) w) (h:Qma P md ops Q S st fuel (listed.setIfInBounds i true) (a.put d v) w) (hi:ops[i]? = some oi:=by rfl) (hs:Region.noSelect ops=true:=by kernel_rfl) (hf:Region.free md ops listed i=true:=by kernel_rfl) (hr:(Region.ready md ops listed).contains i=true:=by kernel_rfl) (hw:(QQe md ops st i cs&&cs.all fun c=>!listed.getD c true)=true:=by kernel_rfl) (hQ:∀c a w,Q (.panic c) (a.put oi.dst v) w→Q (.panic c) a w:=by exact fun _ _ _ h=>h) (hwant:Region.wanted oi (yielded ops a.tmps)=true:=by kernel_rfl) (hd:oi.dst=d:=by rfl):Qma P md ops Q S st (fuel+1) listed a w:=Qk i d cs v hi hs hf hr hw hQ hS hwant hd hrun h
theorem Zd {P:Program} {md:Region.Mode} {ops:Array Oper} {Q:Exit→Act→World→Prop} {S:World→Prop} {st:Nat} (i:Nat) (d:Option Tmp) (v:Value) {oi:Oper} {fuel:Nat} {listed:Array Bool} {a:Act} {w:World} (hS:S w) (hrun:∀w,S w→(execOp a.eval oi).run P w=.ok (.value v) w) (h:Qma P md ops Q S st fuel (listed.setIfInBounds i true) (a.put d v) w) (hi:ops[i]? = some oi:=by rfl) (hs:Region.noSelect ops=true:=by kernel_rfl) (hf:Region.free md ops listed i=true:=by kernel_rfl) (hr:(Region.ready md ops listed).contains i=true:=by kernel_rfl) (hw:Qcg md ops st i=true:=by kernel_rfl) (hQ:∀c a w,Q (.panic c) (a.put oi.dst v) w→Q (.panic c) a w:=by exact fun _ _ _ h=>h) (hwant:Region.wanted oi (yielded ops a.tmps)=true:=by kernel_rfl) (hd:oi.dst=d:=by rfl):Qma P md ops Q S st (fuel+1) listed a w:=Qm i d v hi hs hf hr hw hQ hS hwant hd hrun h
theorem Yc {P:Program} {md:Region.Mode} {ops:Array Oper} {Q:Exit→Act→World→Prop} {S:World→Prop} {st:Nat} (i d:Nat) (cs:List Nat) {v:Value} {oi:Oper} {fuel:Nat} {listed:Array Bool} {a:Act} {w:World} (h:Qma P md ops Q S st fuel (listed.setIfInBounds i true) (a.put (some d) v) w) (hi:ops[i]? = some oi:=by rfl) (hS:S w:=by exact hS0) (hrun:∀w,S w→(execOp a.eval oi).run P w=.ok (.value v) w:=by intro w hS;(try simp only[and_assoc] at hS);repeat (obtain⟨_,hS⟩:_∧_:=hS);go_simp;rfl) (hs:Region.noSelect ops=true:=by kernel_rfl) (hf:Region.free md ops listed i=true:=by kernel_rfl) (hr:(Region.ready md ops listed).contains i=true:=by kernel_rfl) (hw:(QQe md ops st i cs&&cs.all fun c=>!listed.getD c true)=true:=by kernel_rfl) (hQ:∀c a w,Q (.panic c) (a.put oi.dst v) w→Q (.panic c) a w:=by exact fun _ _ _ h=>h) (hwant:Region.wanted oi (yielded ops a.tmps)=true:=by kernel_rfl) (hd:oi.dst=some d:=by rfl):Qma P md ops Q S st (fuel+1) listed a w:=Qk i (some d) cs v hi hs hf hr hw hQ hS hwant hd hrun h
theorem Yd {P:Program} {md:Region.Mode} {ops:Array Oper} {Q:Exit→Act→World→Prop} {S:World→Prop} {st:Nat} (i d:Nat) {v:Value} {oi:Oper} {fuel:Nat} {listed:Array Bool} {a:Act} {w:World} (h:Qma P md ops Q S st fuel (listed.setIfInBounds i true) (a.put (some d) v) w) (hi:ops[i]? = some oi:=by rfl) (hS:S w:=by exact hS0) (hrun:∀w,S w→(execOp a.eval oi).run P w=.ok (.value v) w:=by intro w hS;(try simp only[and_assoc] at hS);repeat (obtain⟨_,hS⟩:_∧_:=hS);go_simp;rfl) (hs:Region.noSelect ops=true:=by kernel_rfl) (hf:Region.free md ops listed i=true:=by kernel_rfl) (hr:(Region.ready md ops listed).contains i=true:=by kernel_rfl) (hw:Qcg md ops st i=true:=by kernel_rfl) (hQ:∀c a w,Q (.panic c) (a.put oi.dst v) w→Q (.panic c) a w:=by exact fun _ _ _ h=>h) (hwant:Region.wanted oi (yielded ops a.tmps)=true:=by kernel_rfl) (hd:oi.dst=some d:=by rfl):Qma P md ops Q S st (fuel+1) listed a w:=Qm i (some d) v hi hs hf hr hw hQ hS hwant hd hrun h
theorem Zs {P:Program} {md:Region.Mode} {ops:Array Oper} {Q:Exit→Act→World→Prop} {S:World→Prop} {st:Nat} (i:Nat) (d:Option Tmp) {oi:Oper} {fuel:Nat} {listed:Array Bool} {a:Act} {w:World} (hS:S w) (h:Qma P md ops Q S st fuel (listed.setIfInBounds i true) (a.put d undef) w) (hi:ops[i]? = some oi:=by rfl) (hs:Region.noSelect ops=true:=by kernel_rfl) (hf:Region.free md ops listed i=true:=by kernel_rfl) (hr:(Region.ready md ops listed).contains i=true:=by kernel_rfl) (hw:Qcg md ops st i=true:=by kernel_rfl) (hQ:∀c a w,Q (.panic c) (a.put oi.dst undef) w→Q (.panic c) a w:=by exact fun _ _ _ h=>h) (hwant:Region.wanted oi (yielded ops a.tmps)=false:=by kernel_rfl) (hd:oi.dst=d:=by rfl):Qma P md ops Q S st (fuel+1) listed a w:=Qfi i d hi hs hf hr hw hQ hS hwant hd h
end
section
open Go.RowKit
variable [Base]
theorem QZp (l:List Str):(l.map sv).all Value.oneCell'=true:=by
 rw[List.all_eq_true];intro x hx;obtain⟨y,_,rfl⟩:=List.mem_map.1 hx;rfl
theorem QCn {B:Nat}{w:World}(kw:KwIn B w)(hB:B≤w.heap.size)(s:QD)(u t:Value)(hu:Qea w u s.uses)(ht:Qea w t s.targets)(hf:(s.uses.length+s.targets.length+1)*16≤140737488355328):
  Calls Tryz.prog 189 #[.agg #[iv s.op,sv s.dfn,u,t]] w (Qia (stmtB s) w):=by
 obtain⟨ua,uc,rfl,-,-⟩:=hu.cell;obtain⟨ta,tc,rfl,-,-⟩:=ht.cell;rw[QYi];obtain⟨op,d,us,ts⟩:=s;simp only[] at hu ht hf ⊢;have HP:=Zh (show QHh ⟨op,d,us,ts⟩=(opK op&&((dfnB op||d.isEmpty)&&(decide ((us.length:Int)=useN op us.length)&&(decide (useN op us.length≤4)&&(decide ((ts.length:Int)=tgtN op)&&(us++ts++(if dfnB op then [d] else [])).all QV))))) from rfl);obtain⟨R,hR⟩:=Ze (QHh ⟨op,d,us,ts⟩);rw[hR] at HP ⊢;clear hR;obtain⟨n,hn⟩:=Ze us.length;obtain⟨m,hm⟩:=Ze ts.length;rw[hn] at hu hf HP ⊢;rw[hm] at ht hf HP ⊢;have HU:=Zh hu;have HT:=Zh ht;have HN:=Zh hn;have HM:=Zh hm;have KK:=Zh kw;have HF:=Zh hf;obtain⟨W,hW⟩:=Ze (w.alloc (.cells #[iv op,sv d,.slice ua n uc,.slice ta m tc] 94));have HB0:=Zh (show W.heap[w.heap.size]? = some (.cells #[iv op,sv d,.slice ua n uc,.slice ta m tc] 94 (0,0)) by rw[←hW];exact heap_alloc_new _ _);have B0:=Zh (show Below w.heap.size w W by rw[←hW];exact Zb);have HW:=Zh hW;obtain⟨x0,x1,x2,x3⟩:=Qt HB0.o;clear hu ht hn hm kw hf hW;go_enter Tryz.func189,Tryz.ntmps189;go_upto_region 1 with(fail)
 rw[show w.alloc (.cells #[iv op,sv d,.slice ua n uc,.slice ta m tc] 94)=W from HW.o];go_quiet (fail);go_upto_block 0 with fail
 obtain⟨W1,hW1⟩:=Ze (W.drewN nq);have HB1:=Zh (show W1.heap[w.heap.size]? = some (.cells #[iv op,sv d,.slice ua n uc,.slice ta m tc] 94 (0,0)) by rw[←hW1];exact HB0.o);have B1:=Zh (show Below w.heap.size w W1 by rw[←hW1];exact below_drewN B0.o nq);rw[hW1];clear hW1 x0 x1 x2 x3;obtain⟨x0,x1,x2,x3⟩:=Qt HB1.o;go_cut [3,4,5] from 10 to 36 (fun s3 s4 s5 wx=>s3=iv (if dfnB op then 1 else 0)∧s4=iv (useN op n)∧s5=iv (tgtN op)∧opK op=true∧W1=wx)
 case first=>
  have hc:op=1∨op=2∨op=3∨op=4∨op=5∨op=6∨op=7∨op=8∨op=9∨¬(1≤op∧op≤9):=by omega
  rcases hc with rfl|rfl|rfl|rfl|rfl|rfl|rfl|rfl|rfl|hc
  rotate_left 9
  ·have h1:op≠1:=by omega
   have h2:op≠2:=by omega
   have h3:op≠3:=by omega
   have h4:op≠4:=by omega
   have h5:op≠5:=by omega
   have h6:op≠6:=by omega
   have h7:op≠7:=by omega
   have h8:op≠8:=by omega
   have h9:op≠9:=by omega
   have HR:=Zh (show R=false by
    rw[HP.o,show opK op=false from by unfold opK;rw[Bool.eq_false_iff];simp;omega];rfl)
   clear hc;go_wp2;go_ret;exact⟨by rw[HR.o];rfl,B1.o⟩
  all_goals go_wp2
  all_goals
   go_meet
   case rel=>exact⟨rfl,by first|rfl|(unfold useN;simp;try omega),rfl,rfl,rfl⟩
 case rest=>
  obtain⟨rfl,rfl,rfl,hok,rfl⟩:=hcut;have HOK:=Zh hok;have hWz:w.heap.size<W1.heap.size:=Qb HB1.o;have HUW:=Zh (Qg.same HU.o (Qf.below B1.o));have HTW:=Zh (Qg.same HT.o (Qf.below B1.o));have CL:=Zh (fun k=>Qor (.slice ua n uc) n (us.map sv) (W1.drewN k) (Qg.same HUW.o Qf.drewN) (by have:=HN.o;rw[List.length_map];omega) (QZp us) (by have:=HF.o;omega));clear hok;obtain⟨D,hD⟩:=Ze (dfnB op);rw[hD] at HP ⊢;clear hD;obtain⟨q,hq⟩:∃q:Int,(if D=true then 1 else 0)=q:=⟨_,rfl⟩;have HQ:=Zh hq;rw[hq];clear hq;go_upto_region 24 with(fail)
  refine QK (S:=(fun w'=>w'.cell? ⟨w.heap.size,2,none⟩=some (.slice ua n uc)∧w'.cell? ⟨w.heap.size,3,none⟩=some (.slice ta m tc))) (st:=6) ZK ?_;refine Qr 0 ?z1 rfl ZK ZK ZK ZK (fun _ _ _ h=>h) ⟨x2,x3⟩ rfl ?rz1 ?sz1
  case rz1=>intro w hS;have hS1:=hS.1;have hS2:=hS.2;go_simp;rfl
  case sz1=>
  refine Qr 1 ?z2 rfl ZK ZK ZK ZK (fun _ _ _ h=>h) ⟨x2,x3⟩ rfl ?rz2 ?sz2
  case rz2=>intro w hS;have hS1:=hS.1;have hS2:=hS.2;go_simp;rfl
  case sz2=>
  refine Qr 3 ?z3 rfl ZK ZK ZK ZK (fun _ _ _ h=>h) ⟨x2,x3⟩ rfl ?rz3 ?sz3
  case rz3=>intro w hS;have hS1:=hS.1;have hS2:=hS.2;go_simp;rfl
  case sz3=>
  refine Qr 4 ?z4 rfl ZK ZK ZK ZK (fun _ _ _ h=>h) ⟨x2,x3⟩ rfl ?rz4 ?sz4
  case rz4=>intro w hS;have hS1:=hS.1;have hS2:=hS.2;go_simp;rfl
  case sz4=>
  refine Zt 2 ?_;refine Ql rfl ?_;go_wp2_with fail;refine(CL.o 1).mono ?_;rintro e w2 ⟨ga,gc,rfl,own2,b2⟩;have B2:Hid (Below W1.heap.size W1 w2):=⟨b2.os,b2.tape,b2.output,b2.size,b2.block⟩;have OW2:Hid (w2.ownsRow W1.heap.size 9 1 (.slice ga n gc) n (us.map sv)):=own2;have HB2:=Zh ((B2.o.block _ hWz).trans HB1.o);clear own2 b2 x0 x1 x2 x3 CL;obtain⟨x0,x1,x2,x3⟩:=Qt HB2.o;go_wp2;refine⟨fun _=>⟨x2,x3⟩,?_⟩;refine Zt 5 ?_;refine Ql rfl ?_;refine wpList_append_sl rfl _ _ 86 rfl W1.heap.size 9 _ 1 16 Tryz.underlying86 Qph rfl ZD _ _ _ OW2.o rfl _ m (ts.map sv) rfl (Qg.same HTW.o (Qf.below B2.o)) (by have:=HM.o;rw[List.length_map];omega) (QZp ts) (by have:=HF.o;unfold maxLen;omega) (by have:=HF.o;omega) (by have:=B2.o.size;omega) ?_;intro g d3 w3 own3 gr3;have OW3:Hid (w3.ownsRow W1.heap.size 9 1 (.slice g (n+m) d3) (n+m) (us.map sv++ts.map sv)):=own3;have B3:=Zh (Below.of_grown gr3 OW2.o (by have:=B2.o.size;omega));have HB3:=Zh ((B3.o.block _ hWz).trans HB2.o);clear own3 gr3 x0 x1 x2 x3;obtain⟨x0,x1,x2,x3⟩:=Qt HB3.o;go_wp2;refine⟨fun _=>⟨x2,x3⟩,?_⟩;refine Zt 6 ?_;refine Ql rfl ?_;go_wp2;refine⟨fun h=>absurd rfl h,?_⟩;refine Qu ZK ?_ _;have BW:=Zh (B1.o.trans ((B2.o.trans B3.o).mono (Nat.le_of_lt hWz)));have hz3:W1.heap.size≤w3.heap.size:=Nat.le_trans B2.o.size B3.o.size;have HSA:=Zh (show Qea w3 (.slice g (n+m) d3) (us++ts) from by have h2:=Qg.of_owns OW3.o;unfold Qea;rw[List.map_append];exact h2);obtain⟨un,hun⟩:=Ze (useN op n);obtain⟨tn,htn⟩:=Ze (tgtN op);rw[hun,htn,HOK.o] at HP;rw[hun,htn];clear hun htn;have hq:=HQ.o
  cases D with
 |false=>
   obtain rfl:(0:Int)=q:=hq;clear HQ;go_wp2_with fail
   ·have h0:d=[]:=by assumption
    have h1:(n:Int)=un:=by assumption
    have h2:un≤4:=by assumption
    have h3:(m:Int)=tn:=by assumption
    have HR:=Zh (show R=(us++ts).all QV by rw[HP.o,h0,decide_eq_true h1,decide_eq_true h2,decide_eq_true h3];simp);refine(Qhg (us++ts) _ _ HSA.o (KK.o.at_ (BW.o.mono hB))).mono ?_;rintro e w5 ⟨rfl,k5,rfl⟩;rw[←HR.o];clear h0 h1 h2 h3 HR
    cases R
    ·go_wp2;go_ret;exact⟨rfl,below_drewN BW.o k5⟩
    ·go_wp2;go_ret;exact⟨rfl,below_drewN BW.o k5⟩
   ·have BW4:=Zh BW.o;have h3:¬(m:Int)=tn:=by assumption
    have HR:=Zh (show R=false by rw[HP.o,decide_eq_false h3];simp);go_ret;exact⟨by rw[HR.o];rfl,BW4.o⟩
   ·have BW4:=Zh BW.o;have h3:4<un:=by assumption
    have HR:=Zh (show R=false by rw[HP.o,decide_eq_false (show ¬un≤4 by omega)];simp);go_ret;exact⟨by rw[HR.o];rfl,BW4.o⟩
   ·have BW4:=Zh BW.o;have h3:¬(n:Int)=un:=by assumption
    have HR:=Zh (show R=false by rw[HP.o,decide_eq_false h3];simp);go_ret;exact⟨by rw[HR.o];rfl,BW4.o⟩
   ·have BW4:=Zh BW.o;have h3:¬d=[]:=by assumption
    have HR:=Zh (show R=false by rw[HP.o,show d.isEmpty=false by cases d;exact absurd rfl h3;rfl];simp);go_ret;exact⟨by rw[HR.o];rfl,BW4.o⟩
 |true=>
   obtain rfl:(1:Int)=q:=hq;clear HQ;go_wp2_with (at_builtin;refine Qcb [sv d] rfl _ _ 86 rfl W1.heap.size 9 _ 1 16 Tryz.underlying86 Qph rfl ZD _ _ _ OW3.o rfl _ rfl ZS rfl rfl (by have:=HF.o;unfold maxLen;omega) (by have:=HF.o;omega) ZO ?_;intro g4 c4 w4 own4 g1 g2 g3;have OW4:=Zh own4;have B4:=Zh (Below.of_grown g1 OW3.o ZO);have HB4:=Zh ((B4.o.block _ hWz).trans HB3.o);clear own4 g1 g2 g3 x0 x1 x2 x3;obtain⟨x0,x1,x2,x3⟩:=Qt HB4.o)
   ·have BW4:=Zh (BW.o.trans (B4.o.mono (Nat.le_of_lt hWz)));have h1:(n:Int)=un:=by assumption
    have h2:un≤4:=by assumption
    have h3:(m:Int)=tn:=by assumption
    have HR:=Zh (show R=(us++ts++[d]).all QV by rw[HP.o,decide_eq_true h1,decide_eq_true h2,decide_eq_true h3];simp);refine(Qhg (us++ts++[d]) _ _ ?_ (KK.o.at_ (BW4.o.mono hB))).mono ?_
    ·have h2:=Qg.of_owns OW4.o;unfold Qea
     simpa using h2
    rintro e w5 ⟨rfl,k5,rfl⟩;rw[←HR.o];clear h1 h2 h3 HR
    cases R
    ·go_wp2;go_ret;exact⟨rfl,below_drewN BW4.o k5⟩
    ·go_wp2;go_ret;exact⟨rfl,below_drewN BW4.o k5⟩
   ·have BW4:=Zh (BW.o.trans (B4.o.mono (Nat.le_of_lt hWz)));have h3:¬(m:Int)=tn:=by assumption
    have HR:=Zh (show R=false by rw[HP.o,decide_eq_false h3];simp);go_ret;exact⟨by rw[HR.o];rfl,BW4.o⟩
   ·have BW4:=Zh (BW.o.trans (B4.o.mono (Nat.le_of_lt hWz)));have h3:4<un:=by assumption
    have HR:=Zh (show R=false by rw[HP.o,decide_eq_false (show ¬un≤4 by omega)];simp);go_ret;exact⟨by rw[HR.o];rfl,BW4.o⟩
   ·have BW4:=Zh (BW.o.trans (B4.o.mono (Nat.le_of_lt hWz)));have h3:¬(n:Int)=un:=by assumption
    have HR:=Zh (show R=false by rw[HP.o,decide_eq_false h3];simp);go_ret;exact⟨by rw[HR.o];rfl,BW4.o⟩
end
section
open Go.RowKit
variable [Base]
theorem QIx (s:QD)(u t:Value)(w:World)(hu:Qea w u s.uses)(ht:Qea w t s.targets):
  Calls Tryz.prog 176 #[.agg #[.int .i64 s.op,sv s.dfn,u,t]] w (QTj (stmtB s) w):=by
 obtain⟨op,dfn,uses,targets⟩:=s;obtain⟨ua,uc,hu1,hu2,_⟩:=Qea.cell hu;obtain⟨ta,tc,ht1,ht2,_⟩:=Qea.cell ht;simp only at hu1 hu2 ht1 ht2 hu ht;subst hu1 ht1;unfold maxLen at hu2 ht2;obtain⟨un,hun⟩:=Ze uses.length;obtain⟨tn,htn⟩:=Ze targets.length;rw[hun] at hu hu2;rw[htn] at ht ht2;obtain⟨d,hd⟩:=Ze (QV dfn);obtain⟨b1,hb1⟩:=Ze (Qjl uses 0 4);obtain⟨b2,hb2⟩:=Ze (Qjl targets 0 2);have hS:stmtB ⟨op,dfn,uses,targets⟩=(b1&&(b2&&opB op d dfn.isEmpty un tn)):=by unfold stmtB;rw[hb1,hb2,hd,hun,htn]
 rw[hS];simp only[hun,htn];have HU:=Zh hu;have HT:=Zh ht;have hR:=Zh (fun w=>hd▸Qsk ⟨dfn.toArray⟩ w);have hN1:=Zh (fun w h=>hb1▸QWw uses (.slice ua un uc) 0 4 w h);have hN2:=Zh (fun w h=>hb2▸QWw targets (.slice ta tn tc) 0 2 w h);clear hd hb1 hb2 hS hun htn hu ht;go_enter Tryz.func176,Tryz.ntmps176;go_wp2_with fail;refine(hR.o _).mono ?_;rintro e w1 ⟨rfl,hb1⟩;have k0:w1.cell? ⟨w.heap.size,0,none⟩=some (.int .i64 op):=(hb1.cell (p:=⟨w.heap.size,0,none⟩) ZS).trans (World.cell?_alloc_new _ _ _ _);have k1:w1.cell? ⟨w.heap.size,1,none⟩=some (sv dfn):=(hb1.cell (p:=⟨w.heap.size,1,none⟩) ZS).trans (World.cell?_alloc_new _ _ _ _);have k2:w1.cell? ⟨w.heap.size,2,none⟩=some (.slice ua un uc):=(hb1.cell (p:=⟨w.heap.size,2,none⟩) ZS).trans (World.cell?_alloc_new _ _ _ _);have k3:w1.cell? ⟨w.heap.size,3,none⟩=some (.slice ta tn tc):=(hb1.cell (p:=⟨w.heap.size,3,none⟩) ZS).trans (World.cell?_alloc_new _ _ _ _);have hz:=hb1.size;simp at hz;have B1:=Zh (((Below.refl w.heap.size w).alloc (Nat.le_refl _) _).trans (hb1.mono ZS));clear hb1;go_wp2;go_quiet (fail);have HU2:=Zh (Qg.same (Qg.same HU.o (Qf.below B1.o)) (Qf.drewN (n:=nq)));have HT2:=Zh (Qg.same (Qg.same HT.o (Qf.below B1.o)) (Qf.drewN (n:=nq)));clear HU HT;go_wp2_with fail;refine(hN1.o _ HU2.o).mono ?_;rintro e w2 ⟨rfl,hb2⟩;have j0:=(hb2.cell (p:=⟨w.heap.size,0,none⟩) hz).trans k0;have j1:=(hb2.cell (p:=⟨w.heap.size,1,none⟩) hz).trans k1;have j3:=(hb2.cell (p:=⟨w.heap.size,3,none⟩) hz).trans k3;have B2:=Zh ((show Below w.heap.size w (w1.drewN nq) from below_drewN B1.o nq).trans (hb2.mono (show w.heap.size≤(w1.drewN nq).heap.size by show _≤w1.heap.size;omega)));have HT3:=Zh (Qg.same HT2.o (Qf.below hb2));have hz2:=hb2.size;have hz3:w1.heap.size≤w2.heap.size:=hz2;clear k0 k1 k2 k3 HT2 HU2 hb2 hz2
 cases b1
 ·go_wp2;go_ret;exact⟨rfl,B2.o⟩
 go_wp2_with fail;refine(hN2.o _ HT3.o).mono ?_;rintro e w3 ⟨rfl,hb3⟩;have k0:=(hb3.cell (p:=⟨w.heap.size,0,none⟩) (by show w.heap.size<_;omega)).trans j0;have k1:=(hb3.cell (p:=⟨w.heap.size,1,none⟩) (by show w.heap.size<_;omega)).trans j1;have B3:=Zh (B2.o.trans (hb3.mono (show w.heap.size≤w2.heap.size by omega)));clear j0 j1 j3 HT3 hb3 hN1 hN2 hR
 cases b2
 ·go_wp2;go_ret;exact⟨rfl,B3.o⟩
 clear hz hz3 B1 B2;go_wp2
 all_goals
  go_ret;refine⟨Qgb ?_,B3.o⟩;go_light
  simp_all [opB]
  all_goals (first|done|omega|(rw[Bool.eq_iff_iff];simp;omega)|(rw[Bool.eq_iff_iff];simp))
end
end Go.Proofs.YtijekimobahgpaaGreatDoor
