/- A part of the proof. -/
import Derived.Test.YtijekimobahgpaaGreatDoorVa01
import Derived.Maps.RangeWalk
import Derived.Maps.OwnOps
import Derived.DeepKeys4
import Derived.Laws.BitsLemmas
import Derived.Laws.Bits64
import Derived.Laws.Shifts
import Derived.Laws.MakeOwn
set_option linter.unusedVariables false
set_option linter.unusedSimpArgs false
set_option linter.unusedSectionVars false
set_option maxRecDepth 100000
set_option maxHeartbeats 16000000
namespace Go.Proofs.YtijekimobahgpaaGreatDoor
section
open Go.RowKit
variable [Base]
theorem All2.each {α β:Type}{R:α→β→Prop}{p:α→Prop}(hp:∀a b,R a b→p a):∀{xs:List α} {ys:List β},All2 R xs ys→∀x∈xs,p x
|[],[],_=>by simp
|a::xs,b::ys,⟨h1,h2⟩=>by
  intro x hx
  rcases List.mem_cons.1 hx with rfl|hx
  ·exact hp _ _ h1
  ·exact All2.each hp h2 x hx
theorem All2.sat {α β:Type}{R:α→β→Prop}{xs:List α}{ys:List β}(h:All2 R xs ys){k:Nat}{b:β}(hb:ys[k]? = some b):∃a,xs[k]? = some a∧R a b:=by
 obtain⟨h1,rfl⟩:=List.getElem?_eq_some_iff.1 hb;have h2:k<xs.length:=by rw[h.length];exact h1
 exact⟨xs[k],by simp[h2],h.get k h2 h1⟩
theorem QKh {w:World}{T:TypeId}{sz:Nat}{v:Value}{xss:List (List Value)}(h:Qg w T sz v xss.flatten)(hl:∀x∈xss,x.length=sz)(hs:0<sz):
  ∃a c,v=.slice a xss.length c∧xss.length≤maxLen∧∀k x,xss[k]? = some x→∃b off,a=some ⟨b,off,none⟩∧b<w.heap.size∧∀j,j<sz→w.cell? ⟨b,off+k*sz+j,none⟩=x[j]?:=by
 obtain⟨a,n,c,rfl,h1,h2,h3,h4,h5⟩:=Qg.form h;rw[Qed sz xss hl] at h1;have hn:n=xss.length:=(Nat.eq_of_mul_eq_mul_right hs h1).symm;subst hn;refine⟨a,c,rfl,h2,fun k x hk=>?_⟩;obtain⟨hk2,rfl⟩:=List.getElem?_eq_some_iff.1 hk;obtain⟨b,off,rfl,hb,ht,hc⟩:=h5 ZO;refine⟨b,off,rfl,hb,fun j hj=>?_⟩;have hlt:k*sz+j<xss.flatten.length:=by
  rw[Qed sz xss hl];have:(k+1)*sz≤xss.length*sz:=Nat.mul_le_mul_right sz hk2;rw[Nat.succ_mul] at this;omega
 rw[Nat.add_assoc,hc _ hlt,QNe sz xss hl k j hk2 hj]
theorem QAa.cell {w:World}{v:Value}{l:List Qo}(h:QAa w v l):∃a c,v=.slice a l.length c∧l.length≤maxLen∧∀k f,l[k]? = some f→∃b off bv,a=some ⟨b,off,none⟩∧b<w.heap.size ∧
  w.cell? ⟨b,off+k*2,none⟩=some (sv f.name)∧w.cell? ⟨b,off+k*2+1,none⟩=some bv∧QOc w bv f.blocks:=by
 obtain⟨xss,h1,h2⟩:=h;obtain⟨a,c,e,hm,hc⟩:=QKh h1 (h2.each fun x f ⟨v,e,_⟩=>by rw[e];rfl) ZO;rw[h2.length] at e hm;refine⟨a,c,e,hm,fun k f hk=>?_⟩;obtain⟨x,hx,bv,rfl,hb⟩:=h2.sat hk;obtain⟨b,off,rfl,hlt,hc2⟩:=hc k _ hx;exact⟨b,off,bv,rfl,hlt,hc2 0 ZO,hc2 1 ZO,hb⟩
theorem QOc.cell {w:World}{v:Value}{l:List QI}(h:QOc w v l):∃a c,v=.slice a l.length c∧l.length≤maxLen∧∀k f,l[k]? = some f→∃b off bv,a=some ⟨b,off,none⟩∧b<w.heap.size ∧
  w.cell? ⟨b,off+k*2,none⟩=some (sv f.name)∧w.cell? ⟨b,off+k*2+1,none⟩=some bv∧QDd w bv f.stmts:=by
 obtain⟨xss,h1,h2⟩:=h;obtain⟨a,c,e,hm,hc⟩:=QKh h1 (h2.each fun x f ⟨v,e,_⟩=>by rw[e];rfl) ZO;rw[h2.length] at e hm;refine⟨a,c,e,hm,fun k f hk=>?_⟩;obtain⟨x,hx,bv,rfl,hb⟩:=h2.sat hk;obtain⟨b,off,rfl,hlt,hc2⟩:=hc k _ hx;exact⟨b,off,bv,rfl,hlt,hc2 0 ZO,hc2 1 ZO,hb⟩
theorem QDd.cell {w:World}{v:Value}{l:List QD}(h:QDd w v l):∃a c,v=.slice a l.length c∧l.length≤maxLen∧∀k s,l[k]? = some s→∃b off u t,a=some ⟨b,off,none⟩∧b<w.heap.size ∧
  w.cell? ⟨b,off+k*4,none⟩=some (.int .i64 s.op)∧w.cell? ⟨b,off+k*4+1,none⟩=some (sv s.dfn)∧w.cell? ⟨b,off+k*4+2,none⟩=some u∧w.cell? ⟨b,off+k*4+3,none⟩=some t∧Qea w u s.uses∧Qea w t s.targets:=by
 obtain⟨xss,h1,h2⟩:=h;obtain⟨a,c,e,hm,hc⟩:=QKh h1 (h2.each fun x f ⟨u,t,e,_⟩=>by rw[e];rfl) ZO;rw[h2.length] at e hm;refine⟨a,c,e,hm,fun k f hk=>?_⟩;obtain⟨x,hx,u,t,rfl,hu,ht⟩:=h2.sat hk;obtain⟨b,off,rfl,hlt,hc2⟩:=hc k _ hx;exact⟨b,off,u,t,rfl,hlt,hc2 0 ZO,hc2 1 ZO,hc2 2 ZO,hc2 3 ZO,hu,ht⟩
end
section
abbrev iv (z:Int):Value:=.int .i64 z
end
section
open Go.RowKit
variable [Base]
theorem Qz {b:Nat}{w:World}{o:Obj}(x:Obj)(hb:w.heap[b]? = some o):(w.alloc x).heap[b]? = some o:=(Below.heap_alloc w x b (Qb hb)).trans hb
theorem Qda {w:World}(a b:Obj):((w.alloc a).alloc b).heap[w.heap.size+1]? = some b:=by
 have h2:=heap_alloc_new (w.alloc a) b;rw[World.size_alloc] at h2;exact h2
theorem Qa {w:World}{b:Nat}{c:Array Value}{t:TypeId}(h:w.heap[b]? = some (.cells c t (0,0))):(∀o,w.cell? ⟨b,o,none⟩=c[o]?)∧∀o,w.frozen? ⟨b,o,none⟩=false:=
 ⟨fun o=>by simp[World.cell?,h],fun o=>by simp[World.frozen?,h]⟩
theorem Qc {B b:Nat}{w w':World}{o:Obj}(h:w.heap[b]? = some o)(hb:Below B w w')(hlt:b<B):w'.heap[b]? = some o:=(hb.block b hlt).trans h
theorem All2.eachR {α β:Type}{R:α→β→Prop}{p:α→Prop}(hp:∀a b,R a b→p a):∀{xs:List α} {ys:List β},All2 R xs ys→∀x∈xs,p x
|[],[],_=>by simp
|a::xs,b::ys,⟨h1,h2⟩=>by
  intro x hx
  rcases List.mem_cons.1 hx with rfl|hx
  ·exact hp _ _ h1
  ·exact All2.eachR hp h2 x hx
theorem All2.satR {α β:Type}{R:α→β→Prop}{xs:List α}{ys:List β}(h:All2 R xs ys){k:Nat}{b:β}(hb:ys[k]? = some b):∃a,xs[k]? = some a∧R a b:=by
 obtain⟨h1,rfl⟩:=List.getElem?_eq_some_iff.1 hb;have h2:k<xs.length:=by rw[h.length];exact h1
 exact⟨xs[k],by simp[h2],h.get k h2 h1⟩
theorem QYg {w:World}{T:TypeId}{sz:Nat}{v:Value}{xss:List (List Value)}(h:Qg w T sz v xss.flatten)(hl:∀x∈xss,x.length=sz)(hs:0<sz):
  ∃a c,v=.slice a xss.length c∧xss.length≤maxLen∧xss.length≤c∧c≤maxLen∧∀k x,xss[k]? = some x→∃b off,a=some ⟨b,off,none⟩∧b<w.heap.size∧True∧∀j,j<sz→w.cell? ⟨b,off+k*sz+j,none⟩=x[j]?:=by
 obtain⟨a,n,c,rfl,h1,h2,h3,h4,h5⟩:=Qg.form h;rw[Qed sz xss hl] at h1;have hn:n=xss.length:=(Nat.eq_of_mul_eq_mul_right hs h1).symm;subst hn;refine⟨a,c,rfl,h2,h3,h4,fun k x hk=>?_⟩;obtain⟨hk2,rfl⟩:=List.getElem?_eq_some_iff.1 hk;obtain⟨b,off,rfl,hb,ht,hc⟩:=h5 ZO;refine⟨b,off,rfl,hb,ht,fun j hj=>?_⟩;have hlt:k*sz+j<xss.flatten.length:=by
  rw[Qed sz xss hl];have:(k+1)*sz≤xss.length*sz:=Nat.mul_le_mul_right sz hk2;rw[Nat.succ_mul] at this;omega
 rw[Nat.add_assoc,hc _ hlt,QNe sz xss hl k j hk2 hj]
def Qia (b:Bool)(w:World)(e:Ending)(w':World):Prop:=e=.returned (.bool b)∧Below w.heap.size w w'
def IntQ (n:Int)(w:World)(e:Ending)(w':World):Prop:=e=.returned (.int .i64 n)∧Below w.heap.size w w'
theorem Qyb {a b:Bool}(h:a=b):Ending.returned (.bool a)=.returned (.bool b):=by rw[h]
theorem Qob {a b:Int}(h:a=b):Ending.returned (.int .i64 a)=.returned (.int .i64 b):=by rw[h]
theorem Qp {B:Nat}{w w':World}(h:Below B w w')(n:Nat):Below B w (w'.drewN n):=⟨h.os,h.tape,h.output,h.size,h.block⟩
end
section
open Go.RowKit
structure Enc (α:Type) where
 R:Value→Option (DataW Unit×List MemPlace)
 val:α→Value
 en:α→DataW Unit
 z0:α
 read:∀a,R (val a)=some (en a,[])
 inv:∀v y,R v=some y→∃a,v=val a∧y=(en a,[])
 inj:∀a b,en a=en b→a=b
structure KeyE (P:Program)(K:TypeId)(κ:Type) where
 enc:κ→Value
 ok:κ→Prop
 keyed:Maps.Keyed P K
 of:∀k,ok k→∃l,keyOf P K (enc k)=some l
 inj:∀a b,enc a=enc b→a=b
section
variable {α κ:Type} [DecidableEq κ] {P:Program} {K:TypeId}
def MapG (Ky:KeyE P K κ)(E:Enc α)(w:World)(b n:Nat)(f:κ→α)(there:κ→Bool):Prop:=
 ∃D,w.ownsMap P K E.R b n D∧∀k,Ky.ok k→∀l,keyOf P K (Ky.enc k)=some l→D.atKey l (E.en E.z0)=E.en (f k)∧Maps.has D l=there k
variable {Ky:KeyE P K κ}
theorem MapG.lt {E:Enc α}{w:World}{b n:Nat}{f:κ→α}{th:κ→Bool}(h:MapG Ky E w b n f th):b<w.heap.size:=by
 obtain⟨D,h1,_⟩:=h;exact h1.lt
theorem MapG.isMap {E:Enc α}{w:World}{b n:Nat}{f:κ→α}{th:κ→Bool}(h:MapG Ky E w b n f th):∃es c,w.heap[b]? = some (.map es c):=by
 obtain⟨D,⟨es,c,h1,_⟩,_⟩:=h;exact⟨es,c,h1⟩
theorem MapG.block {E:Enc α}{w w':World}{b n:Nat}{f:κ→α}{th:κ→Bool}(h:MapG Ky E w b n f th)(hb:w'.heap[b]? = w.heap[b]?):MapG Ky E w' b n f th:=by
 obtain⟨D,⟨es,clock,h1,h2⟩,h3⟩:=h;exact⟨D,⟨es,clock,hb.trans h1,h2⟩,h3⟩
theorem MapG.below {E:Enc α}{w w':World}{b n:Nat}{f:κ→α}{th:κ→Bool}(h:MapG Ky E w b n f th)(hb:Below w.heap.size w w'):MapG Ky E w' b n f th:=h.block (hb.block b h.lt)
theorem MapG.made (Ky:KeyE P K κ)(E:Enc α)(w:World):MapG Ky E (w.alloc (.map #[] 0)) w.heap.size 0 (fun _=>E.z0) (fun _=>false):=
 ⟨.map [],World.ownsMap_made w P K E.R,fun k _ l _=>⟨rfl,rfl⟩⟩
theorem MapG.congr {E:Enc α}{w:World}{b n:Nat}{f g:κ→α}{th th':κ→Bool}(h:MapG Ky E w b n f th)(hf:∀k,f k=g k)(ht:∀k,th k=th' k):MapG Ky E w b n g th':=by
 rw[←funext hf,←funext ht];exact h
theorem MapG.look {E:Enc α}{w:World}{b n:Nat}{f:κ→α}{th:κ→Bool}{t e:TypeId}(h:MapG Ky E w b n f th)(ht:P.underlying t=some (.map K e))(hz:(zeroValue e).run P w=.ok (E.val E.z0) w){k:κ}(wk:Ky.ok k):(Instr.lookup t (.map (some b)) (Ky.enc k) false).run P w=.ok (E.val (f k)) w:=by
 obtain⟨D,h1,h2⟩:=h;obtain⟨l,hl⟩:=Ky.of k wk;obtain⟨v,ps,hr,hv⟩:=h1.lookup Ky.keyed ht hz (E.read E.z0) hl;obtain⟨a,rfl,ha⟩:=E.inv _ _ hv;rw[(h2 k wk l hl).1,Prod.mk.injEq] at ha;rw[E.inj _ _ ha.1];exact hr
theorem MapG.store {E:Enc α}{w:World}{b n:Nat}{f:κ→α}{th:κ→Bool}{t e:TypeId}(h:MapG Ky E w b n f th)(ht:P.underlying t=some (.map K e))(hn:n<maxLen){k:κ}(wk:Ky.ok k)(x:α):∃w',(Instr.mapUpdate t (.map (some b)) (Ky.enc k) (E.val x)).run P w=.ok () w'∧MapG Ky E w' b (n+1) (fun q=>if q=k then x else f q) (fun q=>decide (q=k)||th q)∧w.grownBy w' (some b):=by
 obtain⟨D,h1,h2⟩:=h;obtain⟨l,hl⟩:=Ky.of k wk;obtain⟨w',hr,h4,h5⟩:=h1.update Ky.keyed ht hn hl (E.read x);have hkey:WideAt.IsKeyLit l:=Ky.keyed.key hl;refine⟨w',hr,⟨_,h4,fun q wq m hm=>?_⟩,h5⟩;by_cases e:q=k
 ·subst e;rw[hl] at hm;injection hm with hm
  subst hm;refine⟨?_,?_⟩
  ·show _=E.en (if q=q then x else f q);rw[if_pos rfl];exact Maps.atKey_put_same h1.isMap hkey _ _
  ·simp only[decide_true,Bool.true_or];exact Maps.has_put_same h1.isMap hkey _
 ·have hne:m≠l:=fun he=>e (Ky.inj _ _ (Ky.keyed.inj (he▸hm) hl))
  refine⟨?_,?_⟩
  ·show _=E.en (if q=k then x else f q);rw[if_neg e,←(h2 q wq m hm).1];exact Maps.atKey_put_other hne _ _
  ·show _=(decide (q=k)||th q);rw[←(h2 q wq m hm).2,decide_eq_false e,Bool.false_or];exact Maps.has_put_other hne _
end
def QSs (v:Value):Option (DataW Unit×List MemPlace):=match v with|.bool b=>some (.lit (.bool b),[])|_=>none
def intR (v:Value):Option (DataW Unit×List MemPlace):=match v with|.int .i64 b=>some (.lit (.int .i64 b),[])|_=>none
theorem Qsr (v:Value)(y:DataW Unit×List MemPlace)(h:QSs v=some y):∃a,v=.bool a∧y=(.lit (.bool a),[]):=by
 unfold QSs at h
 split at h
 ·cases h;exact⟨_,rfl,rfl⟩
 ·cases h
theorem Qrs (v:Value)(y:DataW Unit×List MemPlace)(h:intR v=some y):∃a,v=.int .i64 a∧y=(.lit (.int .i64 a),[]):=by
 unfold intR at h
 split at h
 ·cases h;exact⟨_,rfl,rfl⟩
 ·cases h
def Qbc:Enc Bool:=⟨QSs,.bool,fun b=>.lit (.bool b),false,fun _=>rfl,Qsr,fun a b h=>by cases h;rfl⟩
def Qwo:Enc Int:=⟨intR,.int .i64,fun b=>.lit (.int .i64 b),0,fun _=>rfl,Qrs,fun a b h=>by cases h;rfl⟩
def Qgu {P:Program}{K:TypeId}(hk:P.underlying K=some .string):KeyE P K (List UInt8) where
 enc:=fun s=>.string ⟨s.toArray⟩
 ok:=fun s=>s.length≤maxLen
 keyed:=Maps.string_keyed hk
 of:=fun s hs=>⟨_,WideMaps.keyOf_string_mk hk (s:=⟨s.toArray⟩) (by simpa [ByteArray.size] using hs)⟩
 inj:=fun a b h=>by injection h with h;injection h with h;simpa using congrArg Array.toList h
section
variable {α κ:Type} [DecidableEq κ] {P:Program} {w:World} {ops:Array Oper} {rest:List Oper} {o:Oper} {a:Act} {Q:Exit→Act→World→Prop} {K:TypeId} {Ky:KeyE P K κ}
theorem QHb (E:Enc α)(hg:o.guard=none)(m x v:Operand)(t:TypeId)(hop:o.op=Op.mapUpdate t m x v){e:TypeId}(ht:P.underlying t=some (.map K e)){b n:Nat}{f:κ→α}{th:κ→Bool}(hm:a.eval m=.map (some b))(h:MapG Ky E w b n f th)(hn:n<maxLen){k:κ}(hx:a.eval x=Ky.enc k)(wk:Ky.ok k)(y:α)(hv:a.eval v=E.val y)(hK:∀w',MapG Ky E w' b (n+1) (fun q=>if q=k then y else f q) (fun q=>decide (q=k)||th q)→w.grownBy w' (some b)→wpList P ops Q rest (a.put o.dst undef) w'):wpList P ops Q (o::rest) a w:=by
 refine wpList_plain hg fun K' hK'=>?_
 obtain⟨w',hr,h1,h2⟩:=h.store ht hn wk y;unfold Oper.wp;simp[execOp,hop,hm,hx,hv,hr,Result.andThen];exact hK' _ _ (hK w' h1 h2)
end
end
section
structure QSet where
 width:Int
 words:List Nat
deriving DecidableEq
def QLa (l:List Nat):Prop:=∀x∈l,x<18446744073709551616
def Qli (s:QSet):Bool:=decide (s.width % 64=0)||decide ((s.words.getLastD 0) / 2 ^ (s.width % 64).toNat=0)
def QEa (w:Int):Bool:=decide (0≤w)&&decide (w≤256)
def QId (s:QSet):Bool:=decide ((s.words.length:Int)=(s.width+63) / 64)
def setB (s:QSet):Bool:=QEa s.width&&(QId s&&Qli s)
def QE (l:List Nat)(b:Nat):Bool:=(l.getD (b / 64) 0).testBit (b % 64)
theorem QNg (n:Int)(h₀:0≤n)(h₁:n<2 ^ 64):IntKind.u64.wrap n=n:=by rw[IntKind.wrap_u64];omega
theorem QBl (a b:Nat)(ha:a<18446744073709551616)(hb:b<18446744073709551616):bits .and .u64 (a:Int) (b:Int)=((a &&& b:Nat):Int):=(bits_nat .u64 64 ZD QNg a b ha hb).1
theorem Qhl (a b:Nat)(ha:a<18446744073709551616)(hb:b<18446744073709551616):bits .or .u64 (a:Int) (b:Int)=((a ||| b:Nat):Int):=(bits_nat .u64 64 ZD QNg a b ha hb).2
theorem Qbj (a k:Nat)(ha:a<18446744073709551616):bits .and .u64 ((a:Int) / 2 ^ k) 1=if a.testBit k then 1 else 0:=by
 have h1:((a:Int) / 2 ^ k)=((a / 2 ^ k:Nat):Int):=by simp
 have h2:a / 2 ^ k<18446744073709551616:=Nat.lt_of_le_of_lt (Nat.div_le_self _ _) ha;have h3:=QBl (a / 2 ^ k) 1 h2 ZO;rw[h1];have h4:((1:Nat):Int)=1:=rfl;rw[h4] at h3;rw[h3,Nat.and_one_is_mod];have h5:a.testBit k=decide (a / 2 ^ k % 2=1):=by rw[Nat.testBit_eq_decide_div_mod_eq]
 rw[h5];by_cases h:a / 2 ^ k % 2=1
 ·rw[h];rfl
 ·rw[show a / 2 ^ k % 2=0 by omega];rfl
theorem QHr (r:Nat)(hr:r<64):IntKind.u64.wrap (18446744073709551615*2 ^ r)=((18446744073709551616-2 ^ r:Nat):Int):=by
 rw[IntKind.wrap_u64];have h1:2 ^ r<2 ^ 64:=Nat.pow_lt_pow_right ZD hr;have h2:0<2 ^ r:=Nat.two_pow_pos r;have h3:((2:Int) ^ r)=((2 ^ r:Nat):Int):=by simp
 rw[h3];generalize 2 ^ r=p at *;omega
theorem Qlk (r:Nat)(hr:r≤64)(k:Nat):(18446744073709551616-2 ^ r:Nat).testBit k=(decide (r≤k)&&decide (k<64)):=by
 have e:(18446744073709551616-2 ^ r:Nat)=(2 ^ (64-r)-1) <<< r:=by
  rw[Nat.shiftLeft_eq,Nat.sub_mul,←Nat.pow_add,show 64-r+r=64 from by omega];simp
 rw[e,Nat.testBit_shiftLeft,Nat.testBit_two_pow_sub_one];by_cases h:r≤k
 ·simp[h];omega
 ·simp[h]
theorem Qxr (a r:Nat)(ha:a<18446744073709551616)(hr:r≤64):(a &&& (18446744073709551616-2 ^ r)=0)↔a / 2 ^ r=0:=by
 constructor
 ·intro h;rw[Nat.div_eq_zero_iff_lt (Nat.two_pow_pos r)];refine Nat.lt_pow_two_of_testBit a fun i hi=>?_
  have h2:=congrArg (fun x=>Nat.testBit x i) h;simp only[Nat.testBit_and,Qlk r hr,Nat.zero_testBit] at h2;by_cases h64:i<64
  ·simpa [hi,h64] using h2
  ·exact Nat.testBit_lt_two_pow (Nat.lt_of_lt_of_le ha (Nat.pow_le_pow_right (n:=2) ZD (show 64≤i by omega)))
 ·intro h;rw[Nat.div_eq_zero_iff_lt (Nat.two_pow_pos r)] at h;refine Nat.eq_of_testBit_eq fun i=>?_
  rw[Nat.testBit_and,Qlk r hr,Nat.zero_testBit];by_cases hi:r≤i
  ·rw[Nat.testBit_lt_two_pow (Nat.lt_of_lt_of_le h (Nat.pow_le_pow_right ZD hi))];rfl
  ·simp[hi]
theorem QFh {s:QSet}(hw:QLa s.words)(h0:0≤s.width)(hl:QId s=true):Qli s=true↔∀b:Nat,s.width≤b→b<64*s.words.length→QE s.words b=false:=by
 obtain⟨w,ws⟩:=s;obtain⟨n,rfl⟩:=Int.eq_ofNat_of_zero_le h0;simp only[QId,decide_eq_true_eq] at hl;have hl2:ws.length=(n+63) / 64:=by omega
 have hr:((n:Int) % 64).toNat=n % 64:=by omega
 simp only[Qli,Bool.or_eq_true,decide_eq_true_eq,hr];by_cases h64:n % 64=0
 ·constructor
  ·intro _ b h1 h2
   try simp only at h1 h2
   omega
  ·intro _;left;omega
 ·have hlast:ws.getLastD 0=ws.getD (n / 64) 0:=by
   rw[List.getLastD_eq_getLast?,List.getLast?_eq_getElem?,List.getD_eq_getElem?_getD]
   congr 2
   omega
  have hlt:ws.getD (n / 64) 0<18446744073709551616:=by
   rw[List.getD_eq_getElem?_getD,List.getElem?_eq_getElem ZO];exact hw _ (List.getElem_mem _)
  rw[hlast];constructor
  ·intro h b h1 h2
   try simp only at h1 h2
   have h3:ws.getD (n / 64) 0 / 2 ^ (n % 64)=0:=by
    rcases h with h|h
    ·omega
    ·exact h
   rw[Nat.div_eq_zero_iff_lt (Nat.two_pow_pos _)] at h3;have hb:b / 64=n / 64:=by omega
   unfold QE;rw[hb];exact Nat.testBit_lt_two_pow (Nat.lt_of_lt_of_le h3 (Nat.pow_le_pow_right ZD ZO))
  ·intro h;right;rw[Nat.div_eq_zero_iff_lt (Nat.two_pow_pos _)];refine Nat.lt_pow_two_of_testBit _ fun i hi=>?_
   by_cases hi64:i<64
   ·have h2:=h (n / 64*64+i) ZO ZO;unfold QE at h2;rw[show(n / 64*64+i) / 64=n / 64 by omega,show(n / 64*64+i) % 64=i by omega] at h2;exact h2
   ·exact Nat.testBit_lt_two_pow (Nat.lt_of_lt_of_le hlt (Nat.pow_le_pow_right (n:=2) ZD (show 64≤i by omega)))
end
section
open Go.RowKit
variable [Base]
abbrev uv (n:Nat):Value:=.int .u64 (n:Int)
def Qi (w:World)(v:Value)(l:List Nat):Prop:=Qg w 139 1 v (l.map uv)∧QLa l
theorem Qi.keep {w w':World}{v:Value}{l:List Nat}(h:Qi w v l)(hs:Qf 139 w w'):Qi w' v l:=⟨h.1.same hs,h.2⟩
theorem Qi.below {w w':World}{v:Value}{l:List Nat}(h:Qi w v l)(hb:Below w.heap.size w w'):Qi w' v l:=h.keep (Qf.below hb)
theorem Qi.nil {w:World}:Qi w (.slice none 0 0) []:=⟨Qg.nil,by intro x h;cases h⟩
theorem Qi.cell {w:World}{v:Value}{l:List Nat}(h:Qi w v l):∃a c,v=.slice a l.length c∧l.length≤maxLen∧l.length≤c∧c≤maxLen∧∀k x,l[k]? = some x→∃b off,a=some ⟨b,off,none⟩∧b<w.heap.size∧True∧w.cell? ⟨b,off+k,none⟩=some (uv x):=by
 obtain⟨a,n,c,rfl,h1,h2,h3,h4,h5⟩:=Qg.form h.1;simp at h1;subst h1;refine⟨a,c,rfl,h2,h3,h4,fun k x hk=>?_⟩;obtain⟨hk2,rfl⟩:=List.getElem?_eq_some_iff.1 hk;obtain⟨b,off,rfl,hb,ht,hc⟩:=h5 ZO;refine⟨b,off,rfl,hb,ht,?_⟩;rw[hc _ (by simpa using hk2)];simp[hk2]
theorem QS {w:World}{b o:Nat}{x:Value}(c:Nat):tyAt (w.setCell ⟨b,o,none⟩ x) c=tyAt w c:=by
 unfold tyAt World.setCell;simp only[Array.getElem?_modify];by_cases h:b=c
 ·subst h;simp only[if_true]
  cases w.heap[b]? with
 |none=>rfl
 |some o=>cases o <;> rfl
 ·simp only[if_neg h]
theorem Qqa {w:World}{b g o j:Nat}{u:Value}{x:Option Value}(h:b≠g)(hc:w.cell? ⟨b,o,none⟩=x):(w.setCell ⟨g,j,none⟩ u).cell? ⟨b,o,none⟩=x:=
 (World.cell?_of_block (Below.heap_setCell _ _ _ _ h)).trans hc
end
section
open Go.RowKit
variable [Base]
abbrev setV (s:QSet)(u:Value):Value:=.agg #[.int .i64 s.width,u]
theorem QYn (n:Int)(w:World):Calls Tryz.prog 116 #[.int .i64 n] w fun e w'=>e=.returned (.bool (QEa n))∧w'=w:=by
 by_cases h1:0≤n
 ·by_cases h2:n≤256
  all_goals
   go_enter Tryz.func116,Tryz.ntmps116;go_wp2;go_ret;exact⟨by simp[QEa, *],rfl⟩
 ·go_enter Tryz.func116,Tryz.ntmps116;go_wp2;go_ret;exact⟨by simp[QEa];omega,rfl⟩
theorem QLf (n:Int)(h0:0≤n)(h1:n≤256)(w:World):Calls Tryz.prog 117 #[.int .i64 n] w fun e w'=>e=.returned (.int .i64 ((n+63) / 64))∧w'=w:=by
 go_enter Tryz.func117,Tryz.ntmps117;go_wp2;go_ret;exact⟨Qob ZO,rfl⟩
theorem Qoq (n:Int)(h0:0≤n)(h1:n≤256)(w:World):Calls Tryz.prog 150 #[.int .i64 n] w fun e w'=>e=.returned (.int .u64 ((18446744073709551616-2 ^ (n % 64).toNat:Nat):Int))∧w'=w:=by
 have hs:=QHr (n % 64).toNat ZO;have hw:IntKind.u64.wrap n=n:=by rw[IntKind.wrap_u64];omega
 have hn:0≤n % 64:=by omega
 have hl:n % 64<64:=by omega
 have ht:n.tmod 64=n % 64:=Int.tmod_eq_emod_of_nonneg h0;have HS:=Zh hs;clear hs;go_enter Tryz.func150,Tryz.ntmps150;go_wp2;go_ret;refine⟨?_,rfl⟩;rw[←HS.o];rfl
end
section
open Go.RowKit
variable [Base]
def Qj (m:Nat):Nat:=(m+63) / 64
def Qy (m:Nat):QSet:=⟨m,List.replicate (Qj m) 0⟩
def putS (s:QSet)(b:Nat):QSet:=⟨s.width,s.words.set (b / 64) (s.words.getD (b / 64) 0 ||| 2 ^ (b % 64))⟩
def QUb (s:QSet):Prop:=QEa s.width=true∧QId s=true∧QLa s.words
theorem QZb {m:Nat}(h:m≤256):QUb (Qy m):=by
 refine⟨by unfold QEa Qy;simp;omega,?_,?_⟩
 ·unfold QId Qy Qj;simp only[List.length_replicate,decide_eq_true_eq];omega
 ·intro x hx;have:=(List.mem_replicate.1 hx).2;omega
theorem Qka {s:QSet}(h:QUb s):∃m:Nat,s.width=m∧m≤256∧s.words.length=Qj m:=by
 obtain⟨h1,h2,_⟩:=h;unfold QEa at h1;unfold QId at h2;simp only[Bool.and_eq_true,decide_eq_true_eq] at h1 h2;obtain⟨m,hm⟩:=Int.eq_ofNat_of_zero_le h1.1;refine⟨m,hm,by omega,?_⟩;unfold Qj;omega
theorem Qxm {a b:Nat}(ha:a<18446744073709551616)(hb:b<18446744073709551616):a ||| b<18446744073709551616:=
 Nat.or_lt_two_pow (n:=64) ha hb
theorem Qjd (b:Nat):2 ^ (b % 64)<18446744073709551616:=by
 have:2 ^ (b % 64)<2 ^ 64:=Nat.pow_lt_pow_right ZD ZO;omega
theorem Qnd {s:QSet}(h:QUb s)(b:Nat):QUb (putS s b):=by
 obtain⟨h1,h2,h3⟩:=h;refine⟨h1,by unfold QId putS at *;simpa using h2,?_⟩;intro x hx;rcases List.mem_or_eq_of_mem_set hx with hx|rfl
 ·exact h3 x hx
 ·refine Qxm ?_ (Qjd b);rw[List.getD_eq_getElem?_getD];rcases Nat.lt_or_ge (b / 64) s.words.length with hb|hb
  ·rw[List.getElem?_eq_getElem hb];exact h3 _ (List.getElem_mem _)
  ·rw[List.getElem?_eq_none hb];decide
def OwnS (B:Nat)(w:World)(u:Value)(s:QSet):Prop:=
 ∃g,u=.slice (some ⟨g,0,none⟩) s.words.length s.words.length∧B≤g∧w.heap[g]? = some (.cells (s.words.map uv).toArray 139 (0,0))∧QUb s
def Qht (s:QSet)(w:World)(e:Ending)(w':World):Prop:=∃u,e=.returned (setV s u)∧OwnS w.heap.size w' u s∧Below w.heap.size w w'
theorem OwnS.words {B:Nat}{w:World}{u:Value}{s:QSet}(h:OwnS B w u s):Qi w u s.words:=by
 obtain⟨g,rfl,_,hg,hf⟩:=h;refine⟨⟨s.words.length,s.words.length,by simp,Nat.le_refl _,?_,.inr ⟨g,0,_,_,rfl,.of hg,fun i hi=>by simp⟩⟩,hf.2.2⟩;obtain⟨m,_,h1,h2⟩:=Qka hf;rw[h2];unfold Qj maxLen;omega
theorem OwnS.mono {B C:Nat}{w:World}{u:Value}{s:QSet}(h:OwnS B w u s)(hb:C≤B):OwnS C w u s:=by
 obtain⟨g,rfl,h1,hg,hf⟩:=h;exact⟨g,rfl,Nat.le_trans hb h1,hg,hf⟩
def zc (k:Nat):Array Value:=(List.replicate k (uv 0)).toArray
theorem QZq:(Tryz.prog.info? 139).map (fun i=>(i.zero,i.size,i.bytes))=some (some (Value.int .u64 0),1,8):=by kernel_rfl
theorem QTd (k:Nat)(hk:k≤1000)(q:Int)(hq:q=k)(w:World):
  (Instr.makeSlice 50 (.int .i64 q) (.int .i64 q)).run Tryz.prog w=.ok (.slice (some ⟨w.heap.size,0,none⟩) k k) (w.alloc (.cells (zc k) 139)):=by
 subst hq;obtain⟨i,hi,hz,hs1,hs2⟩:=info_parts QZq;have h:=run_makeSlice (P:=Tryz.prog) w 50 139 i _ Tryz.underlying50 hi hz .i64 .i64 (k:Int) (k:Int) ZO (Int.le_refl _) (by rw[hs1];omega) (by rw[hs2];omega) ZO;rw[h,hs1];simp only[Int.toNat_natCast,Nat.mul_one]
 congr 3
 unfold zc madeCells;apply Array.ext
 ·simp[Value.cells]
 ·intro j h1 h2;simp[Value.cells,Nat.mod_one]
end
section
def pop:Nat→Nat→Nat
|0,_=>0
|n+1,x=>x % 2+pop n (x / 2)
def repB:Nat→Nat→Nat
|0,_=>0
|n+1,c=>c+256*repB n c
theorem QMh (n c:Nat):repB (n+1) c=c+256*repB n c:=rfl
theorem QXe (n x:Nat):pop (n+1) x=x % 2+pop n (x / 2):=rfl
theorem Qaj (x:Nat):x=x % 256+256*(x / 256):=by omega
theorem Qgf (a c0 c1:Nat)(h:c0<256):a &&& (c0+256*c1)=(a % 256 &&& c0)+256*(a / 256 &&& c1):=by
 have h1:=Qaj (a &&& (c0+256*c1));have h2:(a &&& (c0+256*c1)) % 256=(a % 256 &&& c0):=by
  have:=@Nat.and_mod_two_pow a (c0+256*c1) 8;rw[show 2 ^ 8=256 from rfl] at this;rw[this,show(c0+256*c1) % 256=c0 by omega]
 have h3:(a &&& (c0+256*c1)) / 256=(a / 256 &&& c1):=by
  have:=@Nat.and_div_two_pow a (c0+256*c1) 8;rw[show 2 ^ 8=256 from rfl] at this;rw[this,show(c0+256*c1) / 256=c1 by omega]
 rw[h2,h3] at h1;exact h1
def s1 (b:Nat):Nat:=(b / 2 &&& 85)+(b &&& 85)
def s2 (b:Nat):Nat:=(b / 4 &&& 51)+(b &&& 51)
def A1 (n x:Nat):Nat:=(x / 2 &&& repB n 85)+(x &&& repB n 85)
def A2 (n x:Nat):Nat:=(x / 4 &&& repB n 51)+(x &&& repB n 51)
def A3 (n x:Nat):Nat:=(x / 16+x) &&& repB n 15
theorem and85:∀b<128,∀e<2,(b+128*e) &&& 85=b &&& 85:=by decide
theorem and51:∀b<64,∀e<4,(b+64*e) &&& 51=b &&& 51:=by decide +kernel
theorem Qcq (n b y:Nat)(hb:b<256):A1 (n+1) (b+256*y)=s1 b+256*A1 n y:=by
 unfold A1 s1;rw[QMh];rw[Qgf _ _ _ ZD,Qgf _ _ _ ZD];have e1:(b+256*y) / 2 % 256=b / 2+128*(y % 2):=by omega
 have e2:(b+256*y) / 2 / 256=y / 2:=by omega
 have e3:(b+256*y) % 256=b:=by omega
 have e4:(b+256*y) / 256=y:=by omega
 rw[e1,e2,e3,e4,and85 _ ZO _ ZO,Nat.mul_add];omega
theorem Qbq (n b y:Nat)(hb:b<256):A2 (n+1) (b+256*y)=s2 b+256*A2 n y:=by
 unfold A2 s2;rw[QMh];rw[Qgf _ _ _ ZD,Qgf _ _ _ ZD];have e1:(b+256*y) / 4 % 256=b / 4+64*(y % 4):=by omega
 have e2:(b+256*y) / 4 / 256=y / 4:=by omega
 have e3:(b+256*y) % 256=b:=by omega
 have e4:(b+256*y) / 256=y:=by omega
 rw[e1,e2,e3,e4,and51 _ ZO _ ZO,Nat.mul_add];omega
theorem QTt (n b y:Nat)(h1:b % 16≤4)(h2:b / 16≤4)(h3:y % 16≤4):A3 (n+1) (b+256*y)=(b / 16+b % 16)+256*A3 n y:=by
 unfold A3;rw[QMh];rw[Qgf _ _ _ ZD];have e1:((b+256*y) / 16+(b+256*y)) % 256=b / 16+b+16*(y % 16):=by omega
 have e2:((b+256*y) / 16+(b+256*y)) / 256=y / 16+y:=by omega
 rw[e1,e2];have e3:(b / 16+b+16*(y % 16)) &&& 15=b / 16+b % 16:=by
  have:=Nat.and_two_pow_sub_one_eq_mod (b / 16+b+16*(y % 16)) 4;rw[show 2 ^ 4-1=15 from rfl,show 2 ^ 4=16 from rfl] at this;rw[this];omega
 rw[e3]
theorem QVp:∀b<256,s1 b<256∧s2 (s1 b)<256∧s2 (s1 b) % 16≤4∧s2 (s1 b) / 16≤4∧s2 (s1 b) / 16+s2 (s1 b) % 16=pop 8 b:=by decide +kernel
def sums:Nat→Nat→Nat
|0,_=>0
|n+1,x=>pop 8 (x % 256)+256*sums n (x / 256)
theorem QIu (n x:Nat)(hx:x<256 ^ n):A2 n (A1 n x) % 16≤4:=by
 cases n with
|zero=>
  obtain rfl:x=0:=by simpa using hx
  decide
|succ n=>
  have h:=QVp (x % 256) (Nat.mod_lt _ ZD);rw[Qaj x,Qcq n _ _ (Nat.mod_lt _ ZD),Qbq n _ _ h.1];have:=h.2.2.1;omega
theorem QZt:∀(n x:Nat),x<256 ^ n→A3 n (A2 n (A1 n x))=sums n x
|0,x,h=>by
  obtain rfl:x=0:=by simpa using h
  decide
|n+1,x,h=>by
  have hb:=QVp (x % 256) (Nat.mod_lt _ ZD)
  have hx:x / 256<256 ^ n:=by rw[Nat.div_lt_iff_lt_mul ZD];rw[Nat.pow_succ] at h;exact h
  have hm:=QIu n (x / 256) hx
  conv=>lhs;rw[Qaj x]
  rw[Qcq n _ _ (Nat.mod_lt _ ZD),Qbq n _ _ hb.1,QTt n _ _ hb.2.2.1 hb.2.2.2.1 hm,hb.2.2.2.2,QZt n _ hx]
  rfl
theorem Qqf:∀n x,pop n x≤n
|0,_=>Nat.le_refl _
|n+1,x=>by have:=Qqf n (x / 2);rw[QXe];omega
theorem Qyp:∀(n m x:Nat),pop (n+m) x=pop n x+pop m (x / 2 ^ n)
|0,m,x=>by simp[pop]
|n+1,m,x=>by
  rw[show n+1+m=(n+m)+1 by omega,QXe,QXe,Qyp n m (x / 2),Nat.div_div_eq_div_mul,show 2*2 ^ n=2 ^ (n+1) by rw[Nat.pow_succ];omega]
  omega
theorem Qwp:∀(n x:Nat),pop n (x % 2 ^ n)=pop n x
|0,x=>rfl
|n+1,x=>by
  rw[QXe,QXe]
  have h1:x % 2 ^ (n+1) % 2=x % 2:=by
   rw[Nat.pow_succ,Nat.mul_comm];exact Nat.mod_mul_right_mod x 2 (2 ^ n)
  have h2:x % 2 ^ (n+1) / 2=x / 2 % 2 ^ n:=by
   rw[Nat.pow_succ,Nat.mul_comm];exact Nat.mod_mul_right_div_self x 2 (2 ^ n)
  rw[h1,h2,Qwp n (x / 2)]
def QFk (x:Nat):Nat:=
 let a:=x+x / 256
 let b:=a+a / 65536
 let c:=b+b / 4294967296
 c % 128
theorem QNo (p0 p1 p2 p3 p4 p5 p6 p7:Nat)(l0:p0≤8)(l1:p1≤8)(l2:p2≤8)(l3:p3≤8)(l4:p4≤8)(l5:p5≤8)(l6:p6≤8)(l7:p7≤8):
  QFk (p0+256*(p1+256*(p2+256*(p3+256*(p4+256*(p5+256*(p6+256*p7)))))))=p0+p1+p2+p3+p4+p5+p6+p7:=by
 have dv:∀v R:Nat,v<256→(v+256*R) / 256=R:=fun v R h=>by omega
 have u0:p0<256:=by omega
 have u1:p0+p1<256:=by omega
 have u2:p1+p2<256:=by omega
 have u3:p0+p1+p2+p3<256:=by omega
 have u4:p1+p2+p3+p4<256:=by omega
 have u5:p2+p3+p4+p5<256:=by omega
 have u6:p3+p4+p5+p6<256:=by omega
 have u7:p0+p1+p2+p3+p4+p5+p6+p7<128:=by omega
 clear l0 l1 l2 l3 l4 l5 l6 l7;obtain⟨X,hX⟩:=Ze (p0+256*(p1+256*(p2+256*(p3+256*(p4+256*(p5+256*(p6+256*p7)))))));have x1:X / 256=p1+256*(p2+256*(p3+256*(p4+256*(p5+256*(p6+256*p7))))):=by rw[←hX];exact dv _ _ u0
 have ha:X+X / 256=(p0+p1)+256*((p1+p2)+256*((p2+p3)+256*((p3+p4)+256*((p4+p5)+256*((p5+p6)+256*((p6+p7)+256*p7)))))):=by rw[x1,←hX];clear hX x1 dv u0 u1 u2 u3 u4 u5 u6 u7;omega
 obtain⟨Y,hY⟩:=Ze (X+X / 256);rw[hY] at ha;have h2:Y / 65536=(p2+p3)+256*((p3+p4)+256*((p4+p5)+256*((p5+p6)+256*((p6+p7)+256*p7)))):=by
  have e:Y / 65536=Y / 256 / 256:=by simp only[Nat.div_div_eq_div_mul,Nat.reduceMul]
  have d1:=dv (p0+p1) ((p1+p2)+256*((p2+p3)+256*((p3+p4)+256*((p4+p5)+256*((p5+p6)+256*((p6+p7)+256*p7)))))) u1;have d2:=dv (p1+p2) ((p2+p3)+256*((p3+p4)+256*((p4+p5)+256*((p5+p6)+256*((p6+p7)+256*p7))))) u2;rw[e,ha,d1,d2]
 have hb:Y+Y / 65536=(p0+p1+p2+p3)+256*((p1+p2+p3+p4)+256*((p2+p3+p4+p5)+256*((p3+p4+p5+p6)+256*((p4+p5+p6+p7)+256*((p5+p6+p7)+256*((p6+p7)+256*p7)))))):=by rw[h2,ha];clear h2 ha hX hY x1 dv u0 u1 u2 u3 u4 u5 u6 u7;omega
 obtain⟨Z,hZ⟩:=Ze (Y+Y / 65536);rw[hZ] at hb;have h4:Z / 4294967296=(p4+p5+p6+p7)+256*((p5+p6+p7)+256*((p6+p7)+256*p7)):=by
  have e:Z / 4294967296=Z / 256 / 256 / 256 / 256:=by simp only[Nat.div_div_eq_div_mul,Nat.reduceMul]
  have d1:=dv (p0+p1+p2+p3) ((p1+p2+p3+p4)+256*((p2+p3+p4+p5)+256*((p3+p4+p5+p6)+256*((p4+p5+p6+p7)+256*((p5+p6+p7)+256*((p6+p7)+256*p7)))))) u3;have d2:=dv (p1+p2+p3+p4) ((p2+p3+p4+p5)+256*((p3+p4+p5+p6)+256*((p4+p5+p6+p7)+256*((p5+p6+p7)+256*((p6+p7)+256*p7))))) u4;have d3:=dv (p2+p3+p4+p5) ((p3+p4+p5+p6)+256*((p4+p5+p6+p7)+256*((p5+p6+p7)+256*((p6+p7)+256*p7)))) u5;have d4:=dv (p3+p4+p5+p6) ((p4+p5+p6+p7)+256*((p5+p6+p7)+256*((p6+p7)+256*p7))) u6;rw[e,hb,d1,d2,d3,d4]
 have hc:(Z+Z / 4294967296) % 128=p0+p1+p2+p3+p4+p5+p6+p7:=by
  rw[h4,hb];clear hX hY hZ ha hb h2 h4 x1 dv u0 u1 u2 u3 u4 u5 u6;omega
 unfold QFk;dsimp only;rw[hX,hY,hZ];exact hc
theorem pop64 (x:Nat):pop 64 x=pop 8 x+(pop 8 (x / 256)+(pop 8 (x / 256 / 256)+(pop 8 (x / 256 / 256 / 256)+(pop 8 (x / 256 / 256 / 256 / 256)+(pop 8 (x / 256 / 256 / 256 / 256 / 256)+(pop 8 (x / 256 / 256 / 256 / 256 / 256 / 256)+pop 8 (x / 256 / 256 / 256 / 256 / 256 / 256 / 256))))))):=by
 have h:∀m y,pop (8+m) y=pop 8 y+pop m (y / 256):=fun m y=>Qyp 8 m y
 rw[show 64=8+56 from rfl,h,show 56=8+48 from rfl,h,show 48=8+40 from rfl,h,show 40=8+32 from rfl,h,show 32=8+24 from rfl,h,show 24=8+16 from rfl,h,show 16=8+8 from rfl,h]
theorem QSr (x:Nat):pop 8 (x % 256)=pop 8 x:=Qwp 8 x
theorem QVc (n x:Nat):sums (n+1) x=pop 8 (x % 256)+256*sums n (x / 256):=rfl
theorem Qfr (x:Nat):QFk (sums 8 x)=pop 64 x:=by
 rw[QVc,QVc,QVc,QVc,QVc,QVc,QVc,QVc,show ∀y,sums 0 y=0 from fun _=>rfl,Nat.mul_zero,Nat.add_zero];simp only[QSr];rw[QNo _ _ _ _ _ _ _ _ (Qqf 8 _) (Qqf 8 _) (Qqf 8 _) (Qqf 8 _) (Qqf 8 _) (Qqf 8 _) (Qqf 8 _) (Qqf 8 _),pop64];omega
theorem Qyt (x:Nat)(hx:x<18446744073709551616):QFk (A3 8 (A2 8 (A1 8 x)))=pop 64 x:=by
 rw[QZt 8 x (by simpa using hx),Qfr]
end
section
variable [Base]
theorem QPt {l m:List Nat}(hl:l.length=m.length)(h1:QLa l)(h2:QLa m)(h:∀b,b<64*l.length→QE l b=QE m b):l=m:=by
 refine List.ext_getElem hl fun i hi hj=>?_
 refine Nat.eq_of_testBit_eq fun k=>?_
 by_cases hk:k<64
 ·have h3:=h (64*i+k) ZO;unfold QE at h3;rw[show(64*i+k) / 64=i by omega,show(64*i+k) % 64=k by omega] at h3
  simpa [List.getD_eq_getElem?_getD,hi,hj] using h3
 ·have e:∀x,x<18446744073709551616→x.testBit k=false:=fun x hx=>Nat.testBit_lt_two_pow (Nat.lt_of_lt_of_le hx (Nat.pow_le_pow_right (n:=2) ZD (show 64≤k by omega)))
  rw[e _ (h1 _ (List.getElem_mem _)),e _ (h2 _ (List.getElem_mem _))]
theorem QOt {l:List Nat}{b:Nat}(h:64*l.length≤b):QE l b=false:=by
 unfold QE;rw[List.getD_eq_getElem?_getD,List.getElem?_eq_none ZO];simp
theorem QVs (k b:Nat):QE (List.replicate k 0) b=false:=by
 unfold QE;rw[List.getD_eq_getElem?_getD,List.getElem?_replicate]
 split <;> simp
theorem QNt {l:List Nat}{k b:Nat}(hk:k / 64<l.length):QE (l.set (k / 64) (l.getD (k / 64) 0 ||| 2 ^ (k % 64))) b=(QE l b||decide (b=k)):=by
 unfold QE;rw[List.getD_eq_getElem?_getD,List.getD_eq_getElem?_getD,List.getElem?_set];by_cases h:k / 64=b / 64
 ·rw[if_pos h,if_pos ZO];simp only[Option.getD_some];rw[Nat.testBit_or,Nat.testBit_two_pow,←h,List.getD_eq_getElem?_getD]
  congr 1
  rw[Bool.eq_iff_iff];simp only[decide_eq_true_eq];omega
 ·rw[if_neg h];have:¬b=k:=by intro e;subst e;exact h rfl
  simp[this,List.getD_eq_getElem?_getD]
theorem QBa {s:QSet}(h:setB s=true)(hw:QLa s.words):QUb s:=by
 unfold setB at h;simp only[Bool.and_eq_true] at h;exact⟨h.1,h.2.1,hw⟩
theorem Qge {s:QSet}(h:setB s=true)(hw:QLa s.words){b:Nat}(hb:s.width≤b):QE s.words b=false:=by
 have h':=h;unfold setB at h;simp only[Bool.and_eq_true] at h;have h0:0≤s.width:=by
  have:=h.1;unfold QEa at this;simp only[Bool.and_eq_true,decide_eq_true_eq] at this;exact this.1
 rcases Nat.lt_or_ge b (64*s.words.length) with hl|hl
 ·exact(QFh hw h0 h.2.1).1 h.2.2 b hb hl
 ·exact QOt hl
theorem QQg {s:QSet}(h:QUb s)(ht:∀b:Nat,s.width≤b→QE s.words b=false):setB s=true:=by
 unfold setB;obtain⟨h1,h2,h3⟩:=h;have h0:0≤s.width:=by
  unfold QEa at h1;simp only[Bool.and_eq_true,decide_eq_true_eq] at h1;exact h1.1
 rw[h1,h2,(QFh h3 h0 h2).2 fun b hb _=>ht b hb];rfl
theorem Qrp {s t:QSet}(hw:s.width=t.width)(hs:QUb s)(ht:QUb t)(h:∀b:Nat,QE s.words b=QE t.words b):s=t:=by
 obtain⟨m,e1,_,e2⟩:=Qka hs;obtain⟨n,e3,_,e4⟩:=Qka ht;have hmn:m=n:=by omega
 cases s
 cases t
 simp only[QSet.mk.injEq] at *;exact⟨hw,QPt (by rw[e2,e4,hmn]) hs.2.2 ht.2.2 fun b _=>h b⟩
theorem Qah {s:QSet}(hf:QUb s){k:Nat}(hk:(k:Int)<s.width)(b:Nat):QE (putS s k).words b=(QE s.words b||decide (b=k)):=by
 obtain⟨m,e1,_,e2⟩:=Qka hf;exact QNt (by rw[e2];unfold Qj;omega)
theorem QNb (m b:Nat):QE (Qy m).words b=false:=QVs _ _
theorem QUm {m:Nat}(h:m≤256):setB (Qy m)=true:=QQg (QZb h) fun b _=>QNb m b
theorem QPr {s:QSet}(h:setB s=true)(hw:QLa s.words){k:Nat}(hk:(k:Int)<s.width):setB (putS s k)=true:=by
 refine QQg (Qnd (QBa h hw) k) fun b hb=>?_
 rw[Qah (QBa h hw) hk,Qge h hw hb];have:¬b=k:=by
  have hb':s.width≤(b:Int):=hb;omega
 simp[this]
def QMb (m i:Nat):QSet:=(List.range i).foldl putS (Qy m)
theorem QFf (m i:Nat):QMb m (i+1)=putS (QMb m i) i:=by unfold QMb;rw[List.range_succ,List.foldl_append];rfl
theorem QMe {m:Nat}(h:m≤256):∀i,QUb (QMb m i)∧(QMb m i).width=m
|0=>⟨QZb h,rfl⟩
|i+1=>by
  rw[QFf]
  exact⟨Qnd (QMe h i).1 i,(QMe h i).2⟩
theorem QFj {m:Nat}(h:m≤256):∀i,i≤m→∀b,QE (QMb m i).words b=decide (b<i)
|0,_,b=>by rw[show QMb m 0=Qy m from rfl,QNb];simp
|i+1,hi,b=>by
  have hf:=QMe h i
  rw[QFf,Qah hf.1 (by rw[hf.2];omega),QFj h i ZO b]
  rw[Bool.eq_iff_iff]
  simp
  omega
def ofGo (m:Nat):List Int→QSet→QSet×Int
|[],s=>(s,0)
|b::l,s=>if b<0∨(m:Int)≤b then (⟨0,[]⟩,3) else ofGo m l (putS s b.toNat)
def ofS (w:Int)(l:List Int):QSet×Int:=if 0≤w∧w≤256 then ofGo w.toNat l (Qy w.toNat) else (⟨0,[]⟩,3)
def zipS (f:Nat→Nat→Nat)(s t:QSet):QSet:=⟨s.width,List.zipWith f s.words t.words⟩
theorem QXk {f:Nat→Nat→Nat}{g:Bool→Bool→Bool}(hfg:∀a b k,(f a b).testBit k=g (a.testBit k) (b.testBit k)){l m:List Nat}(hl:l.length=m.length)(h0:g false false=false)(b:Nat):QE (List.zipWith f l m) b=g (QE l b) (QE m b):=by
 unfold QE;simp only[List.getD_eq_getElem?_getD,List.getElem?_zipWith];rcases Nat.lt_or_ge (b / 64) l.length with h|h
 ·rw[List.getElem?_eq_getElem h,List.getElem?_eq_getElem ZO];exact hfg _ _ _
 ·rw[List.getElem?_eq_none h,List.getElem?_eq_none ZO];simp[h0]
def clr (a b:Nat):Nat:=a ^^^ (a &&& b)
theorem QAl (a b k:Nat):(clr a b).testBit k=(a.testBit k&&!b.testBit k):=by
 unfold clr;rw[Nat.testBit_xor,Nat.testBit_and]
 cases a.testBit k <;> cases b.testBit k <;> rfl
theorem Qvl {a b:Nat}(ha:a<18446744073709551616):clr a b<18446744073709551616:=by
 unfold clr;exact Nat.xor_lt_two_pow (n:=64) ha (Nat.lt_of_le_of_lt Nat.and_le_left ha)
theorem Qee {f:Nat→Nat→Nat}(hf:∀a b,a<18446744073709551616→b<18446744073709551616→f a b<18446744073709551616){s t:QSet}(hs:QUb s)(ht:QUb t)(hw:s.width=t.width):QUb (zipS f s t)∧s.words.length=t.words.length:=by
 obtain⟨m,e1,_,e2⟩:=Qka hs;obtain⟨n,e3,_,e4⟩:=Qka ht;have hmn:m=n:=by omega
 have hl:s.words.length=t.words.length:=by rw[e2,e4,hmn]
 refine⟨⟨hs.1,?_,?_⟩,hl⟩
 ·have:=hs.2.1;unfold QId zipS at *;simp only[List.length_zipWith,←hl,Nat.min_self];exact this
 ·intro x hx;obtain⟨i,hi⟩:=List.mem_iff_getElem?.1 hx;rw[zipS,List.getElem?_zipWith] at hi
  cases h1:s.words[i]? with
 |none=>simp[h1] at hi
 |some a=>
   cases h2:t.words[i]? with
  |none=>simp[h1,h2] at hi
  |some b=>
    simp[h1,h2] at hi;rw[←hi];exact hf a b (hs.2.2 a (List.mem_of_getElem? h1)) (ht.2.2 b (List.mem_of_getElem? h2))
theorem Qzr {f:Nat→Nat→Nat}{g:Bool→Bool→Bool}(hfg:∀a b k,(f a b).testBit k=g (a.testBit k) (b.testBit k))(hlt:∀a b,a<18446744073709551616→b<18446744073709551616→f a b<18446744073709551616)(h0:g false false=false){s t:QSet}(hs:setB s=true)(ht:setB t=true)(ws:QLa s.words)(wt:QLa t.words)(hw:s.width=t.width):setB (zipS f s t)=true:=by
 have fs:=QBa hs ws;have ft:=QBa ht wt;have hz:=Qee hlt fs ft hw;refine QQg hz.1 fun b hb=>?_
 rw[show(zipS f s t).words=List.zipWith f s.words t.words from rfl,QXk hfg hz.2 h0,Qge hs ws (b:=b) hb,Qge ht wt (b:=b) (by rw[←hw];exact hb),h0]
end
section
variable [Base]
structure Ok (m:Nat)(s:QSet):Prop where
 form:QUb s
 ok:setB s=true
 width:s.width=(m:Int)
theorem Ok.le {m:Nat}{s:QSet}(h:Ok m s):m≤256:=by
 obtain⟨k,h1,h2,-⟩:=Qka h.form;have:=h.width;omega
theorem Ok.words {m:Nat}{s:QSet}(h:Ok m s):QLa s.words:=h.form.2.2
theorem Ok.ext {m:Nat}{s t:QSet}(h:Ok m s)(k:Ok m t)(hb:∀b:Nat,QE s.words b=QE t.words b):s=t:=Qrp (h.width.trans k.width.symm) h.form k.form hb
theorem QOp {m:Nat}(h:m≤256):Ok m (QMb m m)∧∀b:Nat,QE (QMb m m).words b=decide (b<m):=by
 have hf:=QMe h m;have hb:=QFj h m (Nat.le_refl _);refine⟨⟨hf.1,QQg hf.1 fun b hb2=>?_,hf.2⟩,hb⟩;rw[hb];rw[hf.2] at hb2;simp;omega
theorem Ok.tail {m:Nat}{s:QSet}(h:Ok m s){b:Nat}(hb:m≤b):QE s.words b=false:=Qge h.ok h.words (by rw[h.width];omega)
theorem QOb {m:Nat}(h:m≤256):Ok m (Qy m):=⟨QZb h,QUm h,rfl⟩
theorem Ok.put {m:Nat}{s:QSet}(h:Ok m s){k:Nat}(hk:k<m):Ok m (putS s k)∧∀b,QE (putS s k).words b=(QE s.words b||decide (b=k)):=
 ⟨⟨Qnd h.form k,QPr h.ok h.words (by rw[h.width];omega),h.width⟩,fun b=>Qah h.form (by rw[h.width];omega) b⟩
def mkTo (m:Nat)(f:Nat→Bool)(i:Nat):QSet:=(List.range i).foldl (fun a k=>if f k=true then putS a k else a) (Qy m)
def mkS (m:Nat)(f:Nat→Bool):QSet:=mkTo m f m
theorem QPq (m:Nat)(f:Nat→Bool)(i:Nat):mkTo m f (i+1)=if f i=true then putS (mkTo m f i) i else mkTo m f i:=by
 unfold mkTo;rw[List.range_succ,List.foldl_append];rfl
theorem Qkl {m:Nat}{f:Nat→Bool}(h:m≤256):∀i,i≤m→Ok m (mkTo m f i)∧∀b,QE (mkTo m f i).words b=(decide (b<i)&&f b)
|0,_=>⟨QOb h,fun b=>by rw[show mkTo m f 0=Qy m from rfl,QNb];simp⟩
|i+1,hi=>by
  obtain⟨h1,h2⟩:=Qkl (f:=f) h i ZO
  rw[QPq]
  split
  ·rename_i hf
   obtain⟨h3,h4⟩:=h1.put (k:=i) ZO
   refine⟨h3,fun b=>?_⟩
   rw[h4,h2]
   by_cases hb:b=i
   ·subst hb;simp[hf]
   ·have e:decide (b<i+1)=decide (b<i):=by rw[Bool.eq_iff_iff];simp;omega
    simp[hb,e]
  ·rename_i hf
   refine⟨h1,fun b=>?_⟩
   rw[h2]
   by_cases hb:b=i
   ·subst hb;simp[hf]
   ·have e:decide (b<i+1)=decide (b<i):=by rw[Bool.eq_iff_iff];simp;omega
    rw[e]
theorem QIb {m:Nat}(f:Nat→Bool)(h:m≤256):Ok m (mkS m f):=(Qkl h m (Nat.le_refl _)).1
theorem Qpb {m:Nat}(f:Nat→Bool)(h:m≤256)(b:Nat):QE (mkS m f).words b=(decide (b<m)&&f b):=(Qkl h m (Nat.le_refl _)).2 b
theorem Qad {m:Nat}{f g:Nat→Bool}(h:m≤256)(e:∀b,b<m→f b=g b):mkS m f=mkS m g:=
 (QIb f h).ext (QIb g h) fun b=>by
  rw[Qpb f h,Qpb g h]
  by_cases hb:b<m
  ·rw[e b hb]
  ·simp[hb]
theorem Qcj {s:QSet}(h:setB s=true)(hw:QLa s.words):∃m:Nat,s.width=m∧Ok m s:=by
 obtain⟨m,h1,-,-⟩:=Qka (QBa h hw);exact⟨m,h1,QBa h hw,h,h1⟩
end
end Go.Proofs.YtijekimobahgpaaGreatDoor
