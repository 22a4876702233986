/- A part of the proof. -/
import Derived.Test.YtijekimobahgpaaGreatDoorMq02
import Derived.Deep.DeepMust
import Derived.Maps.RangeWalk
import Derived.Maps.OwnOps
import Derived.DeepKeys4
import Derived.Deep.Quiet
set_option linter.unusedVariables false
set_option linter.unusedSimpArgs false
set_option linter.unusedSectionVars false
set_option maxRecDepth 100000
set_option maxHeartbeats 16000000
namespace Go.Proofs.YtijekimobahgpaaGreatDoor
section
open Go.RowKit
variable [Base]
theorem QGm:(Tryz.prog.info? 94).map (fun i=>(i.zero,i.size,i.bytes))=some (some (.agg #[.int .i64 0,.string ⟨#[]⟩,.slice none 0 0,.slice none 0 0]),4,72):=by kernel_rfl
theorem QEk:(Tryz.prog.info? 92).map (fun i=>(i.zero,i.size,i.bytes))=some (some (.agg #[.string ⟨#[]⟩,.slice none 0 0]),2,40):=by kernel_rfl
theorem Qvs:(Tryz.prog.info? 89).map (fun i=>(i.zero,i.size,i.bytes))=some (some (.agg #[.string ⟨#[]⟩,.slice none 0 0]),2,40):=by kernel_rfl
def QDd (w:World) (v:Value) (l:List QD):Prop:=∃xss,Qg w 94 4 v xss.flatten∧All2 (QZa w) xss l
def QKa (w:World) (cs:List Value) (b:QI):Prop:=∃v,cs=[sv b.name,v]∧QDd w v b.stmts
def QOc (w:World) (v:Value) (l:List QI):Prop:=∃xss,Qg w 92 2 v xss.flatten∧All2 (QKa w) xss l
def Qab (w:World) (cs:List Value) (f:Qo):Prop:=∃v,cs=[sv f.name,v]∧QOc w v f.blocks
def QAa (w:World) (v:Value) (l:List Qo):Prop:=∃xss,Qg w 89 2 v xss.flatten∧All2 (Qab w) xss l
theorem QZa.keep {w w':World} (h9:Qf 9 w w') {cs:List Value} {s:QD} (h:QZa w cs s):QZa w' cs s:=by
 obtain⟨u,t,e,h1,h2⟩:=h;exact⟨u,t,e,h1.same h9,h2.same h9⟩
theorem QDd.keep {w w':World} (h9:Qf 9 w w') (h64:Qf 94 w w') {v:Value} {l:List QD} (h:QDd w v l):QDd w' v l:=by
 obtain⟨xss,h1,h2⟩:=h;exact⟨xss,h1.same h64,h2.mono fun _ _=>QZa.keep h9⟩
theorem QKa.keep {w w':World} (h9:Qf 9 w w') (h64:Qf 94 w w') {cs:List Value} {b:QI} (h:QKa w cs b):QKa w' cs b:=by
 obtain⟨v,e,h1⟩:=h;exact⟨v,e,h1.keep h9 h64⟩
theorem QOc.keep {w w':World} (h9:Qf 9 w w') (h64:Qf 94 w w') (h62:Qf 92 w w') {v:Value} {l:List QI} (h:QOc w v l):QOc w' v l:=by
 obtain⟨xss,h1,h2⟩:=h;exact⟨xss,h1.same h62,h2.mono fun _ _=>QKa.keep h9 h64⟩
theorem Qab.keep {w w':World} (h9:Qf 9 w w') (h64:Qf 94 w w') (h62:Qf 92 w w') {cs:List Value} {f:Qo} (h:Qab w cs f):Qab w' cs f:=by
 obtain⟨v,e,h1⟩:=h;exact⟨v,e,h1.keep h9 h64 h62⟩
theorem QAa.keep {w w':World} (h9:Qf 9 w w') (h64:Qf 94 w w') (h62:Qf 92 w w') (h59:Qf 89 w w') {v:Value} {l:List Qo} (h:QAa w v l):QAa w' v l:=by
 obtain⟨xss,h1,h2⟩:=h;exact⟨xss,h1.same h59,h2.mono fun _ _=>Qab.keep h9 h64 h62⟩
theorem But.belowB {bt B:Nat} {a w w':World} (h:But bt a w) (k:Below B w w') (hB:a.heap.size≤B):But bt a w':=
 ⟨k.os.trans h.os,k.tape.trans h.tape,k.output.trans h.output,Nat.le_trans h.size k.size,fun i hi hn=>(k.block i (by omega)).trans (h.block i hi hn)⟩
theorem But.undrew {bt n:Nat} {w w':World} (hb:But bt (w.drewN n) w'):But bt w w':=⟨hb.os,hb.tape,hb.output,hb.size,hb.block⟩
theorem Qvc {bt base sz n:Nat} {e:TypeId} {v:Value} {xs:List Value} {w w':World} (h:w.ownsRow base e sz v n xs) (hb:But bt w w') (hlt:bt<base):w'.ownsRow base e sz v n xs:=by
 refine⟨h.1,?_⟩;rcases h.2 with hn|⟨g,cap,cur,rfl,hg,hh,rest⟩
 ·exact .inl hn
 ·exact .inr ⟨g,cap,cur,rfl,hg,hb.blk hh (by omega),rest⟩
end
section
open Go.RowKit
variable [Base]
theorem Qea.cell {w:World} {v:Value} {l:List Str} (h:Qea w v l):∃a c,v=.slice a l.length c∧l.length≤maxLen∧∀k s,l[k]? = some s→∃b off,a=some ⟨b,off,none⟩∧b<w.heap.size∧w.cell? ⟨b,off+k,none⟩=some (sv s):=by
 obtain⟨a,n,c,rfl,h1,h2,h3,h4,h5⟩:=Qg.form h;simp at h1;subst h1;refine⟨a,c,rfl,h2,fun k s hk=>?_⟩;obtain⟨hk2,rfl⟩:=List.getElem?_eq_some_iff.1 hk;obtain⟨b,off,rfl,hb,ht,hc⟩:=h5 (by omega);refine⟨b,off,rfl,hb,?_⟩;rw [hc _ (by simpa using hk2)];simp [hk2]
theorem Qzd {α:Type} (l:List α) (k:Nat) (c:α) (h:l[k]? = some c) (p:α→Bool):(l.drop k).all p=(p c&&(l.drop (k+1)).all p):=by
 obtain⟨h1,rfl⟩:=List.getElem?_eq_some_iff.1 h;rw [List.drop_eq_getElem_cons h1,List.all_cons]
def QTj (b:Bool) (w:World) (e:Ending) (w':World):Prop:=e=.returned (.bool b)∧Below w.heap.size w w'
end
section
open Go.RowKit
variable [Base]
theorem All2.each {α β:Type} {R:α→β→Prop} {p:α→Prop} (hp:∀a b,R a b→p a):∀{xs:List α} {ys:List β},All2 R xs ys→∀x∈xs,p x
|[],[],_=>by simp
|a::xs,b::ys,⟨h1,h2⟩=>by
  intro x hx
  rcases List.mem_cons.1 hx with rfl|hx
  ·exact hp _ _ h1
  ·exact All2.each hp h2 x hx
theorem All2.sat {α β:Type} {R:α→β→Prop} {xs:List α} {ys:List β} (h:All2 R xs ys) {k:Nat} {b:β} (hb:ys[k]? = some b):∃a,xs[k]? = some a∧R a b:=by
 obtain⟨h1,rfl⟩:=List.getElem?_eq_some_iff.1 hb;have h2:k<xs.length:=by rw [h.length];exact h1
 exact⟨xs[k],by simp [h2],h.get k h2 h1⟩
theorem QKh {w:World} {T:TypeId} {sz:Nat} {v:Value} {xss:List (List Value)} (h:Qg w T sz v xss.flatten) (hl:∀x∈xss,x.length=sz) (hs:0<sz):
  ∃a c,v=.slice a xss.length c∧xss.length≤maxLen∧∀k x,xss[k]? = some x→∃b off,a=some ⟨b,off,none⟩∧b<w.heap.size∧∀j,j<sz→w.cell? ⟨b,off+k*sz+j,none⟩=x[j]?:=by
 obtain⟨a,n,c,rfl,h1,h2,h3,h4,h5⟩:=Qg.form h;rw [Qed sz xss hl] at h1;have hn:n=xss.length:=(Nat.eq_of_mul_eq_mul_right hs h1).symm;subst hn;refine⟨a,c,rfl,h2,fun k x hk=>?_⟩;obtain⟨hk2,rfl⟩:=List.getElem?_eq_some_iff.1 hk;obtain⟨b,off,rfl,hb,ht,hc⟩:=h5 (by omega);refine⟨b,off,rfl,hb,fun j hj=>?_⟩;have hlt:k*sz+j<xss.flatten.length:=by
  rw [Qed sz xss hl];have:(k+1)*sz≤xss.length*sz:=Nat.mul_le_mul_right sz hk2;rw [Nat.succ_mul] at this;omega
 rw [Nat.add_assoc,hc _ hlt,QNe sz xss hl k j hk2 hj]
theorem QAa.cell {w:World} {v:Value} {l:List Qo} (h:QAa w v l):∃a c,v=.slice a l.length c∧l.length≤maxLen∧∀k f,l[k]? = some f→∃b off bv,a=some ⟨b,off,none⟩∧b<w.heap.size ∧
  w.cell? ⟨b,off+k*2,none⟩=some (sv f.name)∧w.cell? ⟨b,off+k*2+1,none⟩=some bv∧QOc w bv f.blocks:=by
 obtain⟨xss,h1,h2⟩:=h;obtain⟨a,c,e,hm,hc⟩:=QKh h1 (h2.each fun x f ⟨v,e,_⟩=>by rw [e];rfl) (by omega);rw [h2.length] at e hm;refine⟨a,c,e,hm,fun k f hk=>?_⟩;obtain⟨x,hx,bv,rfl,hb⟩:=h2.sat hk;obtain⟨b,off,rfl,hlt,hc2⟩:=hc k _ hx;exact⟨b,off,bv,rfl,hlt,hc2 0 (by omega),hc2 1 (by omega),hb⟩
theorem QOc.cell {w:World} {v:Value} {l:List QI} (h:QOc w v l):∃a c,v=.slice a l.length c∧l.length≤maxLen∧∀k f,l[k]? = some f→∃b off bv,a=some ⟨b,off,none⟩∧b<w.heap.size ∧
  w.cell? ⟨b,off+k*2,none⟩=some (sv f.name)∧w.cell? ⟨b,off+k*2+1,none⟩=some bv∧QDd w bv f.stmts:=by
 obtain⟨xss,h1,h2⟩:=h;obtain⟨a,c,e,hm,hc⟩:=QKh h1 (h2.each fun x f ⟨v,e,_⟩=>by rw [e];rfl) (by omega);rw [h2.length] at e hm;refine⟨a,c,e,hm,fun k f hk=>?_⟩;obtain⟨x,hx,bv,rfl,hb⟩:=h2.sat hk;obtain⟨b,off,rfl,hlt,hc2⟩:=hc k _ hx;exact⟨b,off,bv,rfl,hlt,hc2 0 (by omega),hc2 1 (by omega),hb⟩
theorem QDd.cell {w:World} {v:Value} {l:List QD} (h:QDd w v l):∃a c,v=.slice a l.length c∧l.length≤maxLen∧∀k s,l[k]? = some s→∃b off u t,a=some ⟨b,off,none⟩∧b<w.heap.size ∧
  w.cell? ⟨b,off+k*4,none⟩=some (.int .i64 s.op)∧w.cell? ⟨b,off+k*4+1,none⟩=some (sv s.dfn)∧w.cell? ⟨b,off+k*4+2,none⟩=some u∧w.cell? ⟨b,off+k*4+3,none⟩=some t∧Qea w u s.uses∧Qea w t s.targets:=by
 obtain⟨xss,h1,h2⟩:=h;obtain⟨a,c,e,hm,hc⟩:=QKh h1 (h2.each fun x f ⟨u,t,e,_⟩=>by rw [e];rfl) (by omega);rw [h2.length] at e hm;refine⟨a,c,e,hm,fun k f hk=>?_⟩;obtain⟨x,hx,u,t,rfl,hu,ht⟩:=h2.sat hk;obtain⟨b,off,rfl,hlt,hc2⟩:=hc k _ hx;exact⟨b,off,u,t,rfl,hlt,hc2 0 (by omega),hc2 1 (by omega),hc2 2 (by omega),hc2 3 (by omega),hu,ht⟩
end
section
open Go.RowKit
structure Enc (α:Type) where
 R:Value→Option (DataW Unit×List MemPlace)
 val:α→Value
 en:α→DataW Unit
 z0:α
 read:∀a,R (val a)=some (en a,[])
 inv:∀v y,R v=some y→∃a,v=val a∧y=(en a,[])
 inj:∀a b,en a=en b→a=b
structure KeyE (P:Program) (K:TypeId) (κ:Type) where
 enc:κ→Value
 ok:κ→Prop
 keyed:Maps.Keyed P K
 of:∀k,ok k→∃l,keyOf P K (enc k)=some l
 inj:∀a b,enc a=enc b→a=b
section
variable {α κ:Type} [DecidableEq κ] {P:Program} {K:TypeId}
def MapG (Ky:KeyE P K κ) (E:Enc α) (w:World) (b n:Nat) (f:κ→α) (there:κ→Bool):Prop:=
 ∃D,w.ownsMap P K E.R b n D∧∀k,Ky.ok k→∀l,keyOf P K (Ky.enc k)=some l→D.atKey l (E.en E.z0)=E.en (f k)∧Maps.has D l=there k
variable {Ky:KeyE P K κ}
theorem MapG.lt {E:Enc α} {w:World} {b n:Nat} {f:κ→α} {th:κ→Bool} (h:MapG Ky E w b n f th):b<w.heap.size:=by
 obtain⟨D,h1,_⟩:=h;exact h1.lt
theorem MapG.isMap {E:Enc α} {w:World} {b n:Nat} {f:κ→α} {th:κ→Bool} (h:MapG Ky E w b n f th):∃es c,w.heap[b]? = some (.map es c):=by
 obtain⟨D,⟨es,c,h1,_⟩,_⟩:=h;exact⟨es,c,h1⟩
theorem MapG.block {E:Enc α} {w w':World} {b n:Nat} {f:κ→α} {th:κ→Bool} (h:MapG Ky E w b n f th) (hb:w'.heap[b]? = w.heap[b]?):MapG Ky E w' b n f th:=by
 obtain⟨D,⟨es,clock,h1,h2⟩,h3⟩:=h;exact⟨D,⟨es,clock,hb.trans h1,h2⟩,h3⟩
theorem MapG.below {E:Enc α} {w w':World} {b n:Nat} {f:κ→α} {th:κ→Bool} (h:MapG Ky E w b n f th) (hb:Below w.heap.size w w'):MapG Ky E w' b n f th:=h.block (hb.block b h.lt)
theorem MapG.made (Ky:KeyE P K κ) (E:Enc α) (w:World):MapG Ky E (w.alloc (.map #[] 0)) w.heap.size 0 (fun _=>E.z0) (fun _=>false):=
 ⟨.map [],World.ownsMap_made w P K E.R,fun k _ l _=>⟨rfl,rfl⟩⟩
theorem MapG.congr {E:Enc α} {w:World} {b n:Nat} {f g:κ→α} {th th':κ→Bool} (h:MapG Ky E w b n f th) (hf:∀k,f k=g k) (ht:∀k,th k=th' k):MapG Ky E w b n g th':=by
 rw [←funext hf,←funext ht];exact h
theorem MapG.look {E:Enc α} {w:World} {b n:Nat} {f:κ→α} {th:κ→Bool} {t e:TypeId} (h:MapG Ky E w b n f th) (ht:P.underlying t=some (.map K e)) (hz:(zeroValue e).run P w=.ok (E.val E.z0) w)
  {k:κ} (wk:Ky.ok k):(Instr.lookup t (.map (some b)) (Ky.enc k) false).run P w=.ok (E.val (f k)) w:=by
 obtain⟨D,h1,h2⟩:=h;obtain⟨l,hl⟩:=Ky.of k wk;obtain⟨v,ps,hr,hv⟩:=h1.lookup Ky.keyed ht hz (E.read E.z0) hl;obtain⟨a,rfl,ha⟩:=E.inv _ _ hv;rw [(h2 k wk l hl).1,Prod.mk.injEq] at ha;rw [E.inj _ _ ha.1];exact hr
theorem MapG.store {E:Enc α} {w:World} {b n:Nat} {f:κ→α} {th:κ→Bool} {t e:TypeId} (h:MapG Ky E w b n f th) (ht:P.underlying t=some (.map K e)) (hn:n<maxLen)
  {k:κ} (wk:Ky.ok k) (x:α):∃w',(Instr.mapUpdate t (.map (some b)) (Ky.enc k) (E.val x)).run P w=.ok () w'∧MapG Ky E w' b (n+1) (fun q=>if q=k then x else f q) (fun q=>decide (q=k)||th q)∧w.grownBy w' (some b):=by
 obtain⟨D,h1,h2⟩:=h;obtain⟨l,hl⟩:=Ky.of k wk;obtain⟨w',hr,h4,h5⟩:=h1.update Ky.keyed ht hn hl (E.read x);have hkey:WideAt.IsKeyLit l:=Ky.keyed.key hl;refine⟨w',hr,⟨_,h4,fun q wq m hm=>?_⟩,h5⟩;by_cases e:q=k
 ·subst e;rw [hl] at hm;injection hm with hm
  subst hm;refine⟨?_,?_⟩
  ·show _=E.en (if q=q then x else f q);rw [if_pos rfl];exact Maps.atKey_put_same h1.isMap hkey _ _
  ·simp only [decide_true,Bool.true_or];exact Maps.has_put_same h1.isMap hkey _
 ·have hne:m≠l:=fun he=>e (Ky.inj _ _ (Ky.keyed.inj (he▸hm) hl))
  refine⟨?_,?_⟩
  ·show _=E.en (if q=k then x else f q);rw [if_neg e,←(h2 q wq m hm).1];exact Maps.atKey_put_other hne _ _
  ·show _=(decide (q=k)||th q);rw [←(h2 q wq m hm).2,decide_eq_false e,Bool.false_or];exact Maps.has_put_other hne _
end
def QSs (v:Value):Option (DataW Unit×List MemPlace):=match v with|.bool b=>some (.lit (.bool b),[])|_=>none
def intR (v:Value):Option (DataW Unit×List MemPlace):=match v with|.int .i64 b=>some (.lit (.int .i64 b),[])|_=>none
theorem Qsr (v:Value) (y:DataW Unit×List MemPlace) (h:QSs v=some y):∃a,v=.bool a∧y=(.lit (.bool a),[]):=by
 unfold QSs at h
 split at h
 ·cases h;exact⟨_,rfl,rfl⟩
 ·cases h
theorem Qrs (v:Value) (y:DataW Unit×List MemPlace) (h:intR v=some y):∃a,v=.int .i64 a∧y=(.lit (.int .i64 a),[]):=by
 unfold intR at h
 split at h
 ·cases h;exact⟨_,rfl,rfl⟩
 ·cases h
def Qbc:Enc Bool:=⟨QSs,.bool,fun b=>.lit (.bool b),false,fun _=>rfl,Qsr,fun a b h=>by cases h;rfl⟩
def Qwo:Enc Int:=⟨intR,.int .i64,fun b=>.lit (.int .i64 b),0,fun _=>rfl,Qrs,fun a b h=>by cases h;rfl⟩
def Qgu {P:Program} {K:TypeId} (hk:P.underlying K=some .string):KeyE P K (List UInt8) where
 enc:=fun s=>.string ⟨s.toArray⟩
 ok:=fun s=>s.length≤maxLen
 keyed:=Maps.string_keyed hk
 of:=fun s hs=>⟨_,WideMaps.keyOf_string_mk hk (s:=⟨s.toArray⟩) (by simpa [ByteArray.size] using hs)⟩
 inj:=fun a b h=>by injection h with h;injection h with h;simpa using congrArg Array.toList h
section
variable {α κ:Type} [DecidableEq κ] {P:Program} {w:World} {ops:Array Oper} {rest:List Oper} {o:Oper} {a:Act} {Q:Exit→Act→World→Prop} {K:TypeId} {Ky:KeyE P K κ}
theorem QHb (E:Enc α) (hg:o.guard=none) (m x v:Operand) (t:TypeId) (hop:o.op=Op.mapUpdate t m x v) {e:TypeId} (ht:P.underlying t=some (.map K e)) {b n:Nat} {f:κ→α} {th:κ→Bool}
  (hm:a.eval m=.map (some b)) (h:MapG Ky E w b n f th) (hn:n<maxLen) {k:κ} (hx:a.eval x=Ky.enc k) (wk:Ky.ok k) (y:α) (hv:a.eval v=E.val y)
  (hK:∀w',MapG Ky E w' b (n+1) (fun q=>if q=k then y else f q) (fun q=>decide (q=k)||th q)→w.grownBy w' (some b)→wpList P ops Q rest (a.put o.dst undef) w'):wpList P ops Q (o::rest) a w:=by
 refine wpList_plain hg fun K' hK'=>?_
 obtain⟨w',hr,h1,h2⟩:=h.store ht hn wk y;unfold Oper.wp;simp [execOp,hop,hm,hx,hv,hr,Result.andThen];exact hK' _ _ (hK w' h1 h2)
end
end
section
open Go.RowKit
variable [Base]
theorem Qt {b:Nat} {w:World} {v0 v1 v2 v3:Value} {t:TypeId} (h:w.heap[b]? = some (.cells #[v0,v1,v2,v3] t (0,0))):
  w.cell? ⟨b,0,none⟩=some v0∧w.cell? ⟨b,1,none⟩=some v1∧w.cell? ⟨b,2,none⟩=some v2∧w.cell? ⟨b,3,none⟩=some v3:=by
 simp [World.cell?,h]
theorem Qq {b:Nat} {w:World} {v0 v1:Value} {t:TypeId} (h:w.heap[b]? = some (.cells #[v0,v1] t (0,0))):
  w.cell? ⟨b,0,none⟩=some v0∧w.cell? ⟨b,1,none⟩=some v1:=by
 simp [World.cell?,h]
section
variable (s:QD) (u t:Value) (w:World)
theorem QUi:Calls Tryz.prog 235 #[.agg #[iv s.op,sv s.dfn,u,t]] w (Qia (QTg s.op) w):=by
 have ba:=Zh (fun x:Int=>(Below.refl w.heap.size w).alloc (Nat.le_refl _) (.cells #[iv x,sv s.dfn,u,t] 94));obtain⟨c0,c1,c2,c3⟩:=Qt (heap_alloc_new w (.cells #[iv s.op,sv s.dfn,u,t] 94));go_enter Tryz.func235,Tryz.ntmps235;go_wp2
 all_goals
  go_ret;exact⟨by unfold QTg;simp_all,ba.o _⟩
theorem Qbn:Calls Tryz.prog 159 #[.agg #[iv s.op,sv s.dfn,u,t]] w (Qia (dfnB s.op) w):=by
 have ba:=Zh (fun x:Int=>(Below.refl w.heap.size w).alloc (Nat.le_refl _) (.cells #[iv x,sv s.dfn,u,t] 94));obtain⟨c0,c1,c2,c3⟩:=Qt (heap_alloc_new w (.cells #[iv s.op,sv s.dfn,u,t] 94));go_enter Tryz.func159,Tryz.ntmps159;go_wp2
 all_goals
  go_ret;exact⟨by unfold dfnB;simp_all,ba.o _⟩
def StrQ (x:Str) (w:World) (e:Ending) (w':World):Prop:=e=.returned (sv x)∧Below w.heap.size w w'
theorem QWf (x:Str) (v:Value):Calls Tryz.prog 156 #[.agg #[sv x,v]] w (StrQ x w):=by
 have ba:=Zh ((Below.refl w.heap.size w).alloc (Nat.le_refl _) (.cells #[sv x,v] 89));obtain⟨c0,c1⟩:=Qq (heap_alloc_new w (.cells #[sv x,v] 89));go_enter Tryz.func156,Tryz.ntmps156;go_wp2;go_ret;exact⟨rfl,ba.o⟩
theorem QZf (x:Str) (v:Value):Calls Tryz.prog 191 #[.agg #[sv x,v]] w (StrQ x w):=by
 have ba:=Zh ((Below.refl w.heap.size w).alloc (Nat.le_refl _) (.cells #[sv x,v] 92));obtain⟨c0,c1⟩:=Qq (heap_alloc_new w (.cells #[sv x,v] 92));go_enter Tryz.func191,Tryz.ntmps191;go_wp2;go_ret;exact⟨rfl,ba.o⟩
end
end
section
open Go.RowKit
variable [Base]
structure Qlg (α:Type) where
 T:TypeId
 sz:Nat
 pos:0<sz
 C:World→List Value→α→Prop
 inner:List TypeId
 len:∀{w cs x},C w cs x→cs.length=sz
 keep:∀{w w' cs x},(∀U∈inner,Qf U w w')→C w cs x→C w' cs x
variable {α:Type} {E:Qlg α}
def Qoa (E:Qlg α) (w:World) (v:Value) (l:List α):Prop:=∃xss,Qg w E.T E.sz v xss.flatten∧All2 (E.C w) xss l
theorem Qoa.nil {w:World}:Qoa E w (.slice none 0 0) []:=⟨[],Qg.nil,trivial⟩
theorem Qoa.keep {w w':World} {v:Value} {l:List α} (h:Qoa E w v l) (hs:∀U∈E.T::E.inner,Qf U w w'):Qoa E w' v l:=by
 obtain⟨xss,h1,h2⟩:=h;exact⟨xss,h1.same (hs _ (by simp)),h2.mono fun _ _=>E.keep fun U hU=>hs U (List.mem_cons_of_mem _ hU)⟩
theorem Qoa.below {w w':World} {v:Value} {l:List α} (h:Qoa E w v l) (hb:Below w.heap.size w w'):Qoa E w' v l:=h.keep fun _ _=>Qf.below hb
theorem Qoa.cell {w:World} {v:Value} {l:List α} (h:Qoa E w v l):∃a c,v=.slice a l.length c∧l.length≤maxLen∧l.length≤c∧c≤maxLen∧∀k x,l[k]? = some x→∃b off cs,a=some ⟨b,off,none⟩∧b<w.heap.size∧E.C w cs x ∧
  ∀j,j<E.sz→w.cell? ⟨b,off+k*E.sz+j,none⟩=cs[j]?:=by
 obtain⟨xss,h1,h2⟩:=h;obtain⟨a,c,e,hm,h3,h4,hc⟩:=QYg h1 (h2.eachR (fun _ _ h=>E.len h)) E.pos;rw [h2.length] at e hm h3;refine⟨a,c,e,hm,h3,h4,fun k x hk=>?_⟩;obtain⟨cs,hx,hC⟩:=h2.satR hk;obtain⟨b,off,rfl,hlt,_,hc2⟩:=hc k _ hx;exact⟨b,off,cs,rfl,hlt,hC,hc2⟩
def QG (E:Qlg α) (B:Nat) (w:World) (v:Value) (l:List α):Prop:=∃xss,w.ownsRow B E.T E.sz v l.length xss.flatten∧All2 (E.C w) xss l
theorem QG.rows {B:Nat} {w:World} {v:Value} {l:List α} (h:QG E B w v l):Qoa E w v l:=by
 obtain⟨xss,h1,h2⟩:=h;exact⟨xss,Qg.of_owns h1,h2⟩
theorem QG.nil {B:Nat} {w:World}:QG E B w (.slice none 0 0) []:=⟨[],⟨by simp,.inl ⟨rfl,rfl⟩⟩,trivial⟩
theorem QG.below {B:Nat} {w w':World} {v:Value} {l:List α} (h:QG E B w v l) (hb:Below w.heap.size w w'):QG E B w' v l:=by
 obtain⟨xss,h1,h2⟩:=h;exact⟨xss,QZd h1 hb,h2.mono fun _ _=>E.keep fun U _=>Qf.below hb⟩
theorem QG.slice {B:Nat} {w:World} {v:Value} {l:List α} (h:QG E B w v l):∃a c,v=.slice a l.length c:=by
 obtain⟨a,c,e,-⟩:=h.rows.cell;exact⟨a,c,e⟩
theorem QG.snoc {B:Nat} {w:World} {v:Value} {l:List α} {x:α} {news:List Value} {xss:List (List Value)} {g cap:Nat} (h:w.ownsRow B E.T E.sz (.slice (some ⟨g,0,none⟩) (l.length+1) cap) (l.length+1) (xss.flatten++news)) (h2:All2 (E.C w) xss l) (hx:E.C w news x):QG E B w (.slice (some ⟨g,0,none⟩) (l.length+1) cap) (l++[x]):=by
 refine⟨xss++[news],?_,h2.append ⟨hx,trivial⟩⟩;rw [List.length_append,List.flatten_append]
 simpa using h
end
section
open Go.RowKit
variable [Base]
theorem bfull_no (k:Int) (hk:QEa k=false) (w:World):Calls Tryz.prog 50 #[.int .i64 k] w (QJd 3 w):=by
 have HR:=Zh hk;clear hk;go_enter Tryz.func50,Tryz.ntmps50;go_wp2_with fail;refine(QSk k HR.o _).mono ?_;rintro e v ⟨rfl,b1⟩;have hz:w.heap.size<v.heap.size:=by have:=b1.size;simp only [World.size_alloc] at this;omega
 have L1:=Zh ((b1.block w.heap.size (by simp)).trans (heap_alloc_new w _));have B1:=Zh (((Below.refl _ _).alloc (Nat.le_refl _) (.cells #[.int .i64 0,.slice none 0 0] 52)).trans (b1.mono (by simp)));obtain⟨V,hV⟩:=Ze (v.alloc (.cells #[.int .i64 0,.slice none 0 0] 52));have hc:V.heap[v.heap.size]? = some (.cells #[.int .i64 0,.slice none 0 0] 52 (0,0)):=by rw [←hV];exact heap_alloc_new _ _
 have hr:V.heap[w.heap.size]? = some (.cells #[.int .i64 0,.slice none 0 0] 52 (0,0)):=by rw [←hV];exact Qz _ L1.o
 have BV:=Zh (show Below w.heap.size w V by rw [←hV];exact B1.o.alloc (by omega) _);have BF:=Zh ((BV.o.setCell (p:=⟨w.heap.size,0,none⟩) (Nat.le_refl _) (.int .i64 0)).setCell (p:=⟨w.heap.size,1,none⟩) (Nat.le_refl _) (.slice none 0 0));have x0:=(Qa hc).1 0;have x1:=(Qa hc).1 1;have y0:=(Qa hr).1 0;have y1:=(Qa hr).1 1;have f0:=(Qa hr).2 0;have f1:=(Qa hr).2 1;simp only [Zx,Zy,Zz] at x0 x1 y0 y1;have HV:=Zh hV;have hne:w.heap.size≠v.heap.size:=by omega
 clear hV hc hr b1;go_wp2_with fail;rw [show v.alloc (.cells #[.int .i64 0,.slice none 0 0] 52)=V from HV.o];refine wp_loop_rounds 1 ?_;rw [rounds_succ];go_wp2;refine bodyPost_ret (v:=.tuple #[QPd,.int .i64 3]) (by simp [results,Tryz.results50,go_sem,y0,y1]) rfl ⟨rfl,BF.o⟩
theorem Qwu (k:Int) (hk:QEa k=false) (l:List Int) (v0:Value) (w:World) (hl:QJa w v0 l):Calls Tryz.prog 115 #[.int .i64 k,v0] w (QJd 3 w):=by
 have HR:=Zh hk;obtain⟨la,lc,rfl,hlm,-,-,hcell⟩:=hl.cell;obtain⟨n,hn⟩:=Ze l.length;rw [hn] at hlm ⊢;have HN:=Zh hn;have HC:=Zh hcell;unfold maxLen at hlm;clear hl hcell hn hk;go_enter Tryz.func115,Tryz.ntmps115;go_wp2_with fail;refine(QSk k HR.o _).mono ?_;rintro e v ⟨rfl,b1⟩;have hz:w.heap.size<v.heap.size:=by have:=b1.size;simp only [World.size_alloc] at this;omega
 have L1:=Zh ((b1.block w.heap.size (by simp)).trans (heap_alloc_new w _));have B1:=Zh (((Below.refl _ _).alloc (Nat.le_refl _) (.cells #[.int .i64 0,.slice none 0 0] 52)).trans (b1.mono (by simp)));obtain⟨V,hV⟩:=Ze (v.alloc (.cells #[.int .i64 0,.slice none 0 0] 52));have hc:V.heap[v.heap.size]? = some (.cells #[.int .i64 0,.slice none 0 0] 52 (0,0)):=by rw [←hV];exact heap_alloc_new _ _
 have hr:V.heap[w.heap.size]? = some (.cells #[.int .i64 0,.slice none 0 0] 52 (0,0)):=by rw [←hV];exact Qz _ L1.o
 have BV:=Zh (show Below w.heap.size w V by rw [←hV];exact B1.o.alloc (by omega) _);have BF:=Zh ((BV.o.setCell (p:=⟨w.heap.size,0,none⟩) (Nat.le_refl _) (.int .i64 0)).setCell (p:=⟨w.heap.size,1,none⟩) (Nat.le_refl _) (.slice none 0 0));have x0:=(Qa hc).1 0;have x1:=(Qa hc).1 1;have y0:=(Qa hr).1 0;have y1:=(Qa hr).1 1;have f0:=(Qa hr).2 0;have f1:=(Qa hr).2 1;simp only [Zx,Zy,Zz] at x0 x1 y0 y1;have HV:=Zh hV;have hne:w.heap.size≠v.heap.size:=by omega
 clear hV hc hr b1;go_wp2_with fail;rw [show v.alloc (.cells #[.int .i64 0,.slice none 0 0] 52)=V from HV.o];refine wp_loop_rounds 1 ?_;rw [rounds_succ];rcases Nat.eq_zero_or_pos n with h0|h0
 ·subst h0;go_wp2;refine bodyPost_ret (v:=.tuple #[QPd,.int .i64 3]) (by simp [results,Tryz.results115,go_sem,y0,y1]) rfl ⟨rfl,BF.o⟩
 ·obtain⟨b,hb⟩:∃b,l[0]? = some b:=⟨_,List.getElem?_eq_getElem (show 0<l.length by have:=HN.o;omega)⟩;obtain⟨lb,lo,rfl,hlb,hlc⟩:=HC.o 0 b hb;have g0:=(BV.o.cell (p:=⟨lb,lo+0,none⟩) hlb).trans hlc;simp only [Nat.add_zero] at g0;clear hb hlc;by_cases hb0:b<0
  ·have d1:decide (b<0)=true:=by simpa using hb0
   go_wp2;refine bodyPost_ret (v:=.tuple #[QPd,.int .i64 3]) (by simp [results,Tryz.results115,go_sem,y0,y1]) rfl ⟨rfl,BF.o⟩
  ·have d1:decide (b<0)=false:=by simpa using hb0
   have d2:decide (0≤b)=true:=by simp;omega
   go_wp2;refine bodyPost_ret (v:=.tuple #[QPd,.int .i64 3]) (by simp [results,Tryz.results115,go_sem,y0,y1]) rfl ⟨rfl,BF.o⟩
theorem QXp (k:Int) (l:List Int) (v0:Value) (w:World) (hl:QJa w v0 l):Calls Tryz.prog 115 #[.int .i64 k,v0] w (SetE (ofS k l) w):=by
 by_cases h:QEa k=true
 ·have h2:=h;unfold QEa at h2;simp only [Bool.and_eq_true,decide_eq_true_eq] at h2;obtain⟨m,rfl⟩:=Int.eq_ofNat_of_zero_le h2.1;exact QLt m (by omega) l v0 w hl
 ·have h2:QEa k=false:=by simpa using h
  rw [Qru h2];exact(Qwu k h2 l v0 w hl).mono fun _ _ h=>h.set
end
section
open Go
section
variable {P:Program} {ops:Array Oper} {Q:Exit→Act→World→Prop} {md:Region.Mode} {S:World→Prop}
def Qma (P:Program) (md:Region.Mode) (ops:Array Oper) (Q:Exit→Act→World→Prop) (S:World→Prop) (st:Nat):Nat→Array Bool→Act→World→Prop
|0,listed,a,w=>Region.ready md ops listed=[]∧Q .normal a w
|fuel+1,listed,a,w=>
  (Region.ready md ops listed=[]→Q .normal a w) ∧
  ∀i∈Region.ready md ops listed,wpOp P ops Q i (fun a' w'=>(i≠st→S w')∧Qma P md ops Q S st fuel (listed.setIfInBounds i true) a' w') a w
theorem QKi {st:Nat}:∀(fuel:Nat) (listed:Array Bool) (a:Act) (w:World),Qma P md ops Q S st fuel listed a w→wpAny P md ops Q fuel listed a w
|0,_,_,_,h=>h
|fuel+1,_,_,_,h=>⟨h.1,fun i hi=>wpOp_mono (fun a' w' h'=>QKi fuel _ a' w' h'.2) (h.2 i hi)⟩
def Qcg (md:Region.Mode) (ops:Array Oper) (st i:Nat):Bool:=match ops[st]? with
|some o=>o.after.any fun e=>Region.binds md e&&e.on==i
|none=>false
theorem QXb {st i:Nat} {listed:Array Bool} (hw:Qcg md ops st i=true) (hi:listed.getD i false=false) (hr:st∈Region.ready md ops listed):False:=by
 obtain⟨_,o,ho,hall⟩:=mem_ready.1 hr;unfold Qcg at hw;rw [ho] at hw;obtain⟨e,he,hb⟩:=Array.any_eq_true'.1 hw;simp only [Bool.and_eq_true,beq_iff_eq] at hb;have:=hall e he hb.1;rw [hb.2,hi] at this
 cases this
theorem QYb {listed:Array Bool} {i:Nat} (h:listed.getD i true=false):listed.getD i false=false:=by
 rcases Nat.lt_or_ge i listed.size with h'|h'
 ·simp [h'] at h ⊢;exact h
 ·simp [Array.getElem?_eq_none h'] at h
theorem QYk {st i:Nat} {oi:Oper} {v:Value} (hi:ops[i]? = some oi) (hsel:∀(j:Nat) (o:Oper) cs b,ops[j]? = some o→o.op≠.select cs b) (hw:Qcg md ops st i=true)
  (hQ:∀c a w,Q (.panic c) (a.put oi.dst v) w→Q (.panic c) a w):
  ∀(fuel:Nat) (listed:Array Bool) (a:Act) (w:World),
   (∀j oj,ops[j]? = some oj→j≠i→listed.getD j true=false→(∀e∈oj.after,Region.binds md e=true→e.on≠i)→oi.apart ops oj=true) →
   i∈Region.ready md ops listed→YieldsIf P ops S oi v a→S w →
   Qma P md ops Q S st fuel (listed.setIfInBounds i true) (a.put oi.dst v) w→Qma P md ops Q S st (fuel+1) listed a w:=by
 intro fuel
 induction fuel with
|zero=>
  intro listed a w _ hr hy hS H;refine⟨fun h=>(by rw [h] at hr;cases hr),fun j hj=>?_⟩;by_cases hji:j=i
  ·subst hji;exact hy.wpOp hi hS ⟨fun _=>hS,H⟩
  ·have:=ready_mono hj hji;rw [H.1] at this
   cases this
|succ fuel ih=>
  intro listed a w hfree hr hy hS H;refine⟨fun h=>(by rw [h] at hr;cases hr),fun j hj=>?_⟩;by_cases hji:j=i
  ·subst hji;exact hy.wpOp hi hS ⟨fun _=>hS,H⟩
  ·have hiun:=QYb (mem_ready.1 hr).1;have hjst:j≠st:=fun h=>QXb hw hiun (h▸hj)
   obtain⟨hjun,oj,hoj,hall⟩:=mem_ready.1 hj;have hnot:∀e∈oj.after,Region.binds md e=true→e.on≠i:=fun e he hb heq=>by
    have h1:=hall e he hb;rw [heq,hiun] at h1
    cases h1
   have hstep:=wpOp_putIf hoj (hfree j oj hoj hji hjun hnot) (fun cs b=>hsel i oi cs b hi) (fun cs b=>hsel j oj cs b hoj) hQ hy (H.2 j (ready_mono hj hji));refine wpOp_mono (fun a' w' h3=>⟨h3.2.1,ih (listed.setIfInBounds j true) a' w' ?_ (ready_mono hr (Ne.symm hji)) h3.1 (h3.2.1 hjst) ?_⟩) hstep
   ·intro k ok hk hki hun hno;refine hfree k ok hk hki ?_ hno;by_cases hjk:j=k
    ·subst hjk;exact hjun
    ·rw [getD_set_ne true hjk] at hun;exact hun
   ·rw [Array.setIfInBounds_comm _ _ hji];exact h3.2.2
theorem Qei {st i:Nat} {oi:Oper} {v:Value} {fuel:Nat} {listed:Array Bool} {a:Act} {w:World} (hi:ops[i]? = some oi)
  (hs:Region.noSelect ops=true) (hf:Region.free md ops listed i=true) (hr:(Region.ready md ops listed).contains i=true) (hw:Qcg md ops st i=true)
  (hQ:∀c a w,Q (.panic c) (a.put oi.dst v) w→Q (.panic c) a w) (hy:YieldsIf P ops S oi v a) (hS:S w)
  (h:Qma P md ops Q S st fuel (listed.setIfInBounds i true) (a.put oi.dst v) w):Qma P md ops Q S st (fuel+1) listed a w:=
 QYk hi (Region.noSelect_spec hs) hw hQ fuel listed a w (Region.free_spec hi hf) (by simpa using hr) hy hS h
theorem Qr {st:Nat} (i:Nat) (v:Value) {oi:Oper} {fuel:Nat} {listed:Array Bool} {a:Act} {w:World} (hi:ops[i]? = some oi)
  (hs:Region.noSelect ops=true) (hf:Region.free md ops listed i=true) (hr:(Region.ready md ops listed).contains i=true) (hw:Qcg md ops st i=true)
  (hQ:∀c a w,Q (.panic c) (a.put oi.dst v) w→Q (.panic c) a w) (hS:S w) (hwant:Region.wanted oi (yielded ops a.tmps)=true)
  (hrun:∀w,S w→(execOp a.eval oi).run P w=.ok (.value v) w)
  (h:Qma P md ops Q S st fuel (listed.setIfInBounds i true) (a.put oi.dst v) w):Qma P md ops Q S st (fuel+1) listed a w:=
 Qei hi hs hf hr hw hQ (.inl ⟨hwant,hrun⟩) hS h
theorem Ql {i:Nat} {o:Oper} {K:Act→World→Prop} {a:Act} {w:World} (ho:ops[i]? = some o) (h:wpList P ops (Exit.then K Q) [o] a w):wpOp P ops Q i K a w:=by
 have key:o.wp P a w K (Exit.then K Q)→o.wp P a w K Q:=by
  unfold Oper.wp;generalize (execOp a.eval o).run P w=r
  cases r with
 |ok n w'=>cases n <;> exact fun h=>h
 |halt x w'=>cases x <;> exact fun h=>h
 unfold wpOp;rw [ho];show if Region.wanted o (yielded ops a.tmps) then o.wp P a w K Q∨(o.asks P a w∧LetsOut Q) else K (a.put o.dst undef) w
 have h':if Region.wanted o (yielded ops a.tmps) then o.wp P a w K (Exit.then K Q)∨(o.asks P a w∧LetsOut (Exit.then K Q)) else K (a.put o.dst undef) w:=h
 split
 ·rename_i hw;rw [if_pos hw] at h';exact h'.imp key id
 ·rename_i hw;rw [if_neg hw] at h';exact h'
theorem Qh {st:Nat} {rs:List Nat} {fuel:Nat} {listed:Array Bool} {a:Act} {w:World} (hr:Region.ready md ops listed=rs) (hne:rs≠[])
  (h:∀i∈rs,wpOp P ops Q i (fun a' w'=>(i≠st→S w')∧Qma P md ops Q S st fuel (listed.setIfInBounds i true) a' w') a w):Qma P md ops Q S st (fuel+1) listed a w:=
 ⟨fun h0=>absurd (hr▸h0) hne,hr▸h⟩
theorem Qu {st:Nat} {listed:Array Bool} {a:Act} {w:World} (hr:Region.ready md ops listed=[]) (h:Q .normal a w):∀fuel,Qma P md ops Q S st fuel listed a w
|0=>⟨hr,h⟩
|_+1=>⟨fun _=>h,by rw [hr];simp⟩
theorem QDl {st:Nat} {id:Nat} {a:Act} {w:World} (hm:P.follows .mixedOrders=true)
  (h:Qma P .any ops Q S st ops.size (Array.replicate ops.size false) a { w with drawn:=w.drawn+1 }):(Code.region id ops true).wp P Q a w:=
 wp_region_any hm (QKi _ _ _ _ h)
end
theorem Zt {P:Program} {md:Region.Mode} {ops:Array Oper} {Q:Exit→Act→World→Prop} {S:World→Prop} {st:Nat} (i:Nat) {fuel:Nat} {listed:Array Bool} {a:Act} {w:World} (h:wpOp P ops Q i (fun a' w'=>(i≠st→S w')∧Qma P md ops Q S st fuel (listed.setIfInBounds i true) a' w') a w) (hr:Region.ready md ops listed=[i]:=by kernel_rfl):Qma P md ops Q S st (fuel+1) listed a w:=
 Qh hr (by simp) fun j hj=>by
  obtain rfl:j=i:=by simpa using hj
  exact h
theorem Zp {P:Program} {md:Region.Mode} {ops:Array Oper} {Q:Exit→Act→World→Prop} {S:World→Prop} {st:Nat} (i:Nat) (v:Value) {oi:Oper} {fuel:Nat} {listed:Array Bool} {a:Act} {w:World} (hS:S w) (hrun:∀w,S w→(execOp a.eval oi).run P w=.ok (.value v) w) (h:Qma P md ops Q S st fuel (listed.setIfInBounds i true) (a.put oi.dst v) w) (hi:ops[i]? = some oi:=by rfl) (hs:Region.noSelect ops=true:=by kernel_rfl) (hf:Region.free md ops listed i=true:=by kernel_rfl) (hr:(Region.ready md ops listed).contains i=true:=by kernel_rfl) (hw:Qcg md ops st i=true:=by kernel_rfl) (hQ:∀c a w,Q (.panic c) (a.put oi.dst v) w→Q (.panic c) a w:=by exact fun _ _ _ h=>h) (hwant:Region.wanted oi (yielded ops a.tmps)=true:=by rfl):Qma P md ops Q S st (fuel+1) listed a w:=Qr i v hi hs hf hr hw hQ hS hwant hrun h
end
section
open Go
theorem QK {P:Program} {ops:Array Oper} {Q:Exit→Act→World→Prop} {S:World→Prop} {st:Nat} {id:Nat} {a:Act} {w:World} (hm:P.follows .mixedOrders=true)
  (h:Qma P .any ops Q S st ops.size (Array.replicate ops.size false) a (w.drewN 1)):(Code.region id ops true).wp P Q a w:=QDl hm h
end
section
open Go
theorem Qba (t:Array Value) (d:List Deferred) (i:Nat) (v:Value):Act.put ⟨t,d⟩ (some i) v=⟨t.setIfInBounds i v,d⟩:=rfl
theorem Qaa (a:Act) (v:Value):Act.put a none v=a:=rfl
section
variable {P:Program} {ops:Array Oper} {Q:Exit→Act→World→Prop} {md:Region.Mode} {S:World→Prop}
theorem Qfi {st:Nat} (i:Nat) (d:Option Tmp) {oi:Oper} {fuel:Nat} {listed:Array Bool} {a:Act} {w:World} (hi:ops[i]? = some oi)
  (hs:Region.noSelect ops=true) (hf:Region.free md ops listed i=true) (hr:(Region.ready md ops listed).contains i=true) (hw:Qcg md ops st i=true)
  (hQ:∀c a w,Q (.panic c) (a.put oi.dst undef) w→Q (.panic c) a w) (hS:S w) (hwant:Region.wanted oi (yielded ops a.tmps)=false) (hd:oi.dst=d)
  (h:Qma P md ops Q S st fuel (listed.setIfInBounds i true) (a.put d undef) w):Qma P md ops Q S st (fuel+1) listed a w:=
 Qei hi hs hf hr hw hQ (.inr ⟨hwant,rfl⟩) hS (hd▸h)
def QQe (md:Region.Mode) (ops:Array Oper) (st:Nat):Nat→List Nat→Bool
|i,[]=>Qcg md ops st i
|i,c::r=>Qcg md ops c i&&QQe md ops st c r
theorem QNj {st:Nat} {listed:Array Bool}:∀(cs:List Nat) (i:Nat),QQe md ops st i cs=true→listed.getD i true=false→(∀c∈cs,listed.getD c true=false)→(∀c∈cs,c∉Region.ready md ops listed)∧st∉Region.ready md ops listed
|[],i,h,hi,_=>⟨(fun c hc=>by cases hc),fun hr=>QXb h (QYb hi) hr⟩
|c::r,i,h,hi,hc=>by
  unfold QQe at h
  simp only [Bool.and_eq_true] at h
  have h1:=QNj r c h.2 (hc c (by simp)) (fun d hd=>hc d (by simp [hd]))
  refine⟨fun d hd=>?_,h1.2⟩
  rcases List.mem_cons.1 hd with rfl|hd
  ·exact fun hr=>QXb h.1 (QYb hi) hr
  ·exact h1.1 d hd
theorem Qbg {st i:Nat} {oi:Oper} {v:Value} (cs:List Nat) (hi:ops[i]? = some oi) (hsel:∀(j:Nat) (o:Oper) cs b,ops[j]? = some o→o.op≠.select cs b) (hw:QQe md ops st i cs=true)
  (hQ:∀c a w,Q (.panic c) (a.put oi.dst v) w→Q (.panic c) a w):
  ∀(fuel:Nat) (listed:Array Bool) (a:Act) (w:World),
   (∀j oj,ops[j]? = some oj→j≠i→listed.getD j true=false→(∀e∈oj.after,Region.binds md e=true→e.on≠i)→oi.apart ops oj=true) →
   (∀c∈cs,listed.getD c true=false) →
   i∈Region.ready md ops listed→YieldsIf P ops S oi v a→S w →
   Qma P md ops Q S st fuel (listed.setIfInBounds i true) (a.put oi.dst v) w→Qma P md ops Q S st (fuel+1) listed a w:=by
 intro fuel
 induction fuel with
|zero=>
  intro listed a w _ _ hr hy hS H;refine⟨fun h=>(by rw [h] at hr;cases hr),fun j hj=>?_⟩;by_cases hji:j=i
  ·subst hji;exact hy.wpOp hi hS ⟨fun _=>hS,H⟩
  ·have:=ready_mono hj hji;rw [H.1] at this
   cases this
|succ fuel ih=>
  intro listed a w hfree hcs hr hy hS H;refine⟨fun h=>(by rw [h] at hr;cases hr),fun j hj=>?_⟩;by_cases hji:j=i
  ·subst hji;exact hy.wpOp hi hS ⟨fun _=>hS,H⟩
  ·have hiun:=QYb (mem_ready.1 hr).1;have hno:=QNj cs i hw (mem_ready.1 hr).1 hcs;have hjst:j≠st:=fun h=>hno.2 (h▸hj)
   have hjc:∀c∈cs,j≠c:=fun c hc h=>hno.1 c hc (h▸hj)
   obtain⟨hjun,oj,hoj,hall⟩:=mem_ready.1 hj;have hnot:∀e∈oj.after,Region.binds md e=true→e.on≠i:=fun e he hb heq=>by
    have h1:=hall e he hb;rw [heq,hiun] at h1
    cases h1
   have hstep:=wpOp_putIf hoj (hfree j oj hoj hji hjun hnot) (fun cs b=>hsel i oi cs b hi) (fun cs b=>hsel j oj cs b hoj) hQ hy (H.2 j (ready_mono hj hji));refine wpOp_mono (fun a' w' h3=>⟨h3.2.1,ih (listed.setIfInBounds j true) a' w' ?_ ?_ (ready_mono hr (Ne.symm hji)) h3.1 (h3.2.1 hjst) ?_⟩) hstep
   ·intro k ok hk hki hun hno;refine hfree k ok hk hki ?_ hno;by_cases hjk:j=k
    ·subst hjk;exact hjun
    ·rw [getD_set_ne true hjk] at hun;exact hun
   ·intro c hc;rw [getD_set_ne true (hjc c hc)];exact hcs c hc
   ·rw [Array.setIfInBounds_comm _ _ hji];exact h3.2.2
theorem Qk {st:Nat} (i:Nat) (d:Option Tmp) (cs:List Nat) (v:Value) {oi:Oper} {fuel:Nat} {listed:Array Bool} {a:Act} {w:World} (hi:ops[i]? = some oi)
  (hs:Region.noSelect ops=true) (hf:Region.free md ops listed i=true) (hr:(Region.ready md ops listed).contains i=true) (hw:(QQe md ops st i cs&&cs.all fun c=>!listed.getD c true)=true)
  (hQ:∀c a w,Q (.panic c) (a.put oi.dst v) w→Q (.panic c) a w) (hS:S w) (hwant:Region.wanted oi (yielded ops a.tmps)=true)
  (hd:oi.dst=d) (hrun:∀w,S w→(execOp a.eval oi).run P w=.ok (.value v) w)
  (h:Qma P md ops Q S st fuel (listed.setIfInBounds i true) (a.put d v) w):Qma P md ops Q S st (fuel+1) listed a w:=by
 subst hd;simp only [Bool.and_eq_true,List.all_eq_true,Bool.not_eq_true'] at hw;exact Qbg cs hi (Region.noSelect_spec hs) hw.1 hQ fuel listed a w (Region.free_spec hi hf) hw.2 (by simpa using hr) (.inl ⟨hwant,hrun⟩) hS h
theorem Qm {st:Nat} (i:Nat) (d:Option Tmp) (v:Value) {oi:Oper} {fuel:Nat} {listed:Array Bool} {a:Act} {w:World} (hi:ops[i]? = some oi)
  (hs:Region.noSelect ops=true) (hf:Region.free md ops listed i=true) (hr:(Region.ready md ops listed).contains i=true) (hw:Qcg md ops st i=true)
  (hQ:∀c a w,Q (.panic c) (a.put oi.dst v) w→Q (.panic c) a w) (hS:S w) (hwant:Region.wanted oi (yielded ops a.tmps)=true)
  (hd:oi.dst=d) (hrun:∀w,S w→(execOp a.eval oi).run P w=.ok (.value v) w)
  (h:Qma P md ops Q S st fuel (listed.setIfInBounds i true) (a.put d v) w):Qma P md ops Q S st (fuel+1) listed a w:=by
 subst hd;exact Qr i v hi hs hf hr hw hQ hS hwant hrun h
theorem QP {st:Nat} (i:Nat) (d:Option Tmp) (fn:FuncId) (vals:Array Value) {oi:Oper} {fuel:Nat} {listed:Array Bool} {a:Act} {w:World} (hi:ops[i]? = some oi)
  (hr:Region.ready md ops listed=[i]) (hwant:Region.wanted oi (yielded ops a.tmps)=true) (hrun:(execOp a.eval oi).run P w=.ok (.enter fn vals) w) (hd:oi.dst=d)
  (hc:Calls P fn vals w fun e w'=>∃v,e=.returned v∧(i≠st→S w')∧Qma P md ops Q S st fuel (listed.setIfInBounds i true) (a.put d v) w'):Qma P md ops Q S st (fuel+1) listed a w:=by
 subst hd;refine Qh hr (by simp) fun j hj=>?_
 obtain rfl:j=i:=by simpa using hj
 unfold wpOp;rw [hi];show if Region.wanted oi (yielded ops a.tmps) then _ else _
 rw [if_pos hwant];left;unfold Oper.wp;rw [hrun,Oper.upon_enter];refine hc.mono ?_;rintro e w' ⟨v,rfl,h1,h2⟩;exact⟨h1,h2⟩
theorem Qeb {st:Nat} (i:Nat) (d:Option Tmp) (w':World) {oi:Oper} {fuel:Nat} {listed:Array Bool} {a:Act} {w:World} (hi:ops[i]? = some oi)
  (hr:Region.ready md ops listed=[i]) (hwant:Region.wanted oi (yielded ops a.tmps)=true) (hrun:(execOp a.eval oi).run P w=.ok .skip w') (hd:oi.dst=d)
  (hS:i≠st→S w') (h:Qma P md ops Q S st fuel (listed.setIfInBounds i true) (a.put d undef) w'):Qma P md ops Q S st (fuel+1) listed a w:=by
 subst hd;refine Qh hr (by simp) fun j hj=>?_
 obtain rfl:j=i:=by simpa using hj
 unfold wpOp;rw [hi];show if Region.wanted oi (yielded ops a.tmps) then _ else _
 rw [if_pos hwant];left;unfold Oper.wp;rw [hrun,Oper.upon_skip];exact⟨hS,h⟩
theorem QW {st:Nat} (i:Nat) (d:Option Tmp) (v:Value) (w':World) {oi:Oper} {fuel:Nat} {listed:Array Bool} {a:Act} {w:World} (hi:ops[i]? = some oi)
  (hr:Region.ready md ops listed=[i]) (hwant:Region.wanted oi (yielded ops a.tmps)=true) (hrun:(execOp a.eval oi).run P w=.ok (.value v) w') (hd:oi.dst=d)
  (hS:i≠st→S w') (h:Qma P md ops Q S st fuel (listed.setIfInBounds i true) (a.put d v) w'):Qma P md ops Q S st (fuel+1) listed a w:=by
 subst hd;refine Qh hr (by simp) fun j hj=>?_
 obtain rfl:j=i:=by simpa using hj
 unfold wpOp;rw [hi];show if Region.wanted oi (yielded ops a.tmps) then _ else _
 rw [if_pos hwant];left;unfold Oper.wp;rw [hrun,Oper.upon_value];exact⟨hS,h⟩
end
theorem Zc {P:Program} {md:Region.Mode} {ops:Array Oper} {Q:Exit→Act→World→Prop} {S:World→Prop} {st:Nat} (i:Nat) (d:Option Tmp) (cs:List Nat) (v:Value) {oi:Oper} {fuel:Nat} {listed:Array Bool} {a:Act} {w:World} (hS:S w) (hrun:∀w,S w→(execOp a.eval oi).run P w=.ok (.value v) w) (h:Qma P md ops Q S st fuel (listed.setIfInBounds i true) (a.put d v) w) (hi:ops[i]? = some oi:=by rfl) (hs:Region.noSelect ops=true:=by kernel_rfl) (hf:Region.free md ops listed i=true:=by kernel_rfl) (hr:(Region.ready md ops listed).contains i=true:=by kernel_rfl) (hw:(QQe md ops st i cs&&cs.all fun c=>!listed.getD c true)=true:=by kernel_rfl) (hQ:∀c a w,Q (.panic c) (a.put oi.dst v) w→Q (.panic c) a w:=by exact fun _ _ _ h=>h) (hwant:Region.wanted oi (yielded ops a.tmps)=true:=by kernel_rfl) (hd:oi.dst=d:=by rfl):Qma P md ops Q S st (fuel+1) listed a w:=Qk i d cs v hi hs hf hr hw hQ hS hwant hd hrun h
theorem Zd {P:Program} {md:Region.Mode} {ops:Array Oper} {Q:Exit→Act→World→Prop} {S:World→Prop} {st:Nat} (i:Nat) (d:Option Tmp) (v:Value) {oi:Oper} {fuel:Nat} {listed:Array Bool} {a:Act} {w:World} (hS:S w) (hrun:∀w,S w→(execOp a.eval oi).run P w=.ok (.value v) w) (h:Qma P md ops Q S st fuel (listed.setIfInBounds i true) (a.put d v) w) (hi:ops[i]? = some oi:=by rfl) (hs:Region.noSelect ops=true:=by kernel_rfl) (hf:Region.free md ops listed i=true:=by kernel_rfl) (hr:(Region.ready md ops listed).contains i=true:=by kernel_rfl) (hw:Qcg md ops st i=true:=by kernel_rfl) (hQ:∀c a w,Q (.panic c) (a.put oi.dst v) w→Q (.panic c) a w:=by exact fun _ _ _ h=>h) (hwant:Region.wanted oi (yielded ops a.tmps)=true:=by kernel_rfl) (hd:oi.dst=d:=by rfl):Qma P md ops Q S st (fuel+1) listed a w:=Qm i d v hi hs hf hr hw hQ hS hwant hd hrun h
end
section
open Go.RowKit
variable [Base]
abbrev CT:TypeId:=119
def copV (c:Cp):List Value:=[iv c.1,iv c.2]
def QHa (l:List Cp):List Value:=(l.map copV).flatten
def QKc (w:World) (v:Value) (l:List Cp):Prop:=Qg w CT 2 v (QHa l)
def Qya (z:Nat) (w:World) (v:Value) (l:List Cp):Prop:=w.ownsRow z CT 2 v l.length (QHa l)
theorem QJk (l:List Cp):∀x∈l.map copV,x.length=2:=fun x hx=>by
 obtain⟨n,-,rfl⟩:=List.mem_map.1 hx
 rfl
theorem QYf (a b:List Cp):QHa (a++b)=QHa a++QHa b:=by simp [QHa]
theorem Qya.at_ {z:Nat} {w:World} {v:Value} {l:List Cp} (h:Qya z w v l):QKc w v l:=Qg.of_owns h
theorem Qya.below {z:Nat} {w w':World} {v:Value} {l:List Cp} (h:Qya z w v l) (b:Below w.heap.size w w'):Qya z w' v l:=QZd h b
theorem Qya.nil {z:Nat} {w:World}:Qya z w (.slice none 0 0) []:=by simp [Qya,World.ownsRow,QHa]
theorem Qya.push {z g cap:Nat} {w:World} {l:List Cp} {n:Cp} (h:w.ownsRow z CT 2 (.slice (some ⟨g,0,none⟩) (l.length+1) cap) (l.length+1) (QHa l++copV n)):Qya z w (.slice (some ⟨g,0,none⟩) (l.length+1) cap) (l++[n]):=by
 unfold Qya;rw [QYf,List.length_append]
 simpa [QHa] using h
theorem QKc.nil {w:World}:QKc w (.slice none 0 0) []:=Qg.nil
theorem QKc.below {w w':World} {v:Value} {l:List Cp} (h:QKc w v l) (b:Below w.heap.size w w'):QKc w' v l:=h.same (Qf.below b)
theorem QKc.cell {w:World} {v:Value} {l:List Cp} (h:QKc w v l):∃a c,v=.slice a l.length c∧l.length≤maxLen∧l.length≤c∧c≤maxLen∧∀k n,l[k]? = some n→∃b off,a=some ⟨b,off,none⟩∧b<w.heap.size ∧
  w.cell? ⟨b,off+k*2,none⟩=some (iv n.1)∧w.cell? ⟨b,off+k*2+1,none⟩=some (iv n.2):=by
 obtain⟨a,c,e,hm,h3,h4,hc⟩:=QYg h (QJk l) (by omega);rw [List.length_map] at e hm h3;refine⟨a,c,e,hm,h3,h4,fun k n hk=>?_⟩;have hx:(l.map copV)[k]? = some (copV n):=by rw [List.getElem?_map,hk];rfl
 obtain⟨b,off,rfl,hlt,_,hc2⟩:=hc k _ hx;exact⟨b,off,rfl,hlt,hc2 0 (by omega),hc2 1 (by omega)⟩
theorem Qbf:(Tryz.prog.info? CT).map (fun i=>(i.zero,i.size,i.bytes))=some (some (Value.agg #[iv 0,iv 0]),2,16):=by kernel_rfl
structure Qja (w:World) (gu ku cu:Value) (t:Qw):Prop where
 gen:Qi w gu t.gen.words
 kill:Qi w ku t.kill.words
 cops:QKc w cu t.cops
abbrev trV (t:Qw) (gu ku cu:Value):Value:=.agg #[iv t.gen.width,gu,iv t.kill.width,ku,cu]
theorem Qja.below {w w':World} {gu ku cu:Value} {t:Qw} (h:Qja w gu ku cu t) (b:Below w.heap.size w w'):Qja w' gu ku cu t:=⟨h.gen.below b,h.kill.below b,h.cops.below b⟩
theorem Qja.keep {w w':World} {gu ku cu:Value} {t:Qw} (h:Qja w gu ku cu t) (h1:Qf 139 w w') (h2:Qf CT w w'):Qja w' gu ku cu t:=⟨h.gen.keep h1,h.kill.keep h1,h.cops.same h2⟩
def Qsa:Qlg QSet where
 T:=52
 sz:=2
 pos:=by omega
 C:=fun w cs s=>∃u,cs=[iv s.width,u]∧Qi w u s.words
 inner:=[139]
 len:=fun {w cs x} h=>by obtain⟨u,rfl,-⟩:=h;rfl
 keep:=fun {w w' cs x} hs h=>by
  obtain⟨u,rfl,h⟩:=h
  exact⟨u,rfl,h.keep (hs _ (by simp))⟩
def trEl:Qlg Qw where
 T:=55
 sz:=5
 pos:=by omega
 C:=fun w cs t=>∃gu ku cu,cs=[iv t.gen.width,gu,iv t.kill.width,ku,cu]∧Qja w gu ku cu t
 inner:=[139,CT]
 len:=fun {w cs x} h=>by obtain⟨gu,ku,cu,rfl,-⟩:=h;rfl
 keep:=fun {w w' cs x} hs h=>by
  obtain⟨gu,ku,cu,rfl,h⟩:=h
  exact⟨gu,ku,cu,rfl,h.keep (hs _ (by simp)) (hs _ (by simp))⟩
theorem QJ {b:Nat} {w:World} {v0 v1 v2 v3 v4:Value} {t:TypeId} (h:w.heap[b]? = some (.cells #[v0,v1,v2,v3,v4] t (0,0))):
  w.cell? ⟨b,0,none⟩=some v0∧w.cell? ⟨b,1,none⟩=some v1∧w.cell? ⟨b,2,none⟩=some v2∧w.cell? ⟨b,3,none⟩=some v3∧w.cell? ⟨b,4,none⟩=some v4:=by
 simp [World.cell?,h]
def bitB (m x:Int):Bool:=decide (0≤x)&&decide (x<m)
theorem QJl (t:Qw) (ga ka ca:Option Addr) (gn gc kn kc cn cc:Nat) (x:Int) (w:World):Calls Tryz.prog 137 #[trV t (.slice ga gn gc) (.slice ka kn kc) (.slice ca cn cc),iv x] w (Qia (bitB t.gen.width x) w):=by
 obtain⟨⟨gw,gl⟩,⟨kw,kl⟩,cs⟩:=t;simp only [trV];unfold bitB;by_cases h0:0≤x
 ·by_cases h1:x<gw
  ·rw [show decide (0≤x)=true by simpa using h0,show decide (x<gw)=true by simpa using h1];go_enter Tryz.func137,Tryz.ntmps137;go_wp2;go_ret;exact⟨rfl,Zb⟩
  ·rw [show decide (0≤x)=true by simpa using h0,show decide (x<gw)=false by simpa using h1];go_enter Tryz.func137,Tryz.ntmps137;go_wp2;go_ret;exact⟨rfl,Zb⟩
 ·rw [show decide (0≤x)=false by simpa using h0];go_enter Tryz.func137,Tryz.ntmps137;go_wp2;go_ret;exact⟨rfl,Zb⟩
def cmpI (x y:Int):Int:=if x<y then -1 else if y<x then 1 else 0
theorem QRh (x:Int) (w:World):Calls Tryz.prog 226 #[iv x] w (fun e w'=>e=.returned (.bool false)∧w'=w):=by
 go_enter Tryz.func226,Tryz.ntmps226;go_wp2;go_ret;exact⟨by simp,rfl⟩
theorem QSp (x y:Int) (w:World):Calls Tryz.prog 179 #[iv x,iv y] w (fun e w'=>e=.returned (iv (cmpI x y))∧w'=w):=by
 unfold cmpI;by_cases h1:x<y
 ·rw [if_pos h1];go_enter Tryz.func179,Tryz.ntmps179;go_wp2_with (go_at_call 226;refine(QRh _ _).mono ?_;rintro e w' ⟨rfl,rfl⟩);go_ret;exact⟨rfl,rfl⟩
 ·rw [if_neg h1];by_cases h2:y<x
  ·rw [if_pos h2];go_enter Tryz.func179,Tryz.ntmps179;go_wp2_with (go_at_call 226;refine(QRh _ _).mono ?_;rintro e w' ⟨rfl,rfl⟩);go_ret;exact⟨rfl,rfl⟩
  ·rw [if_neg h2];go_enter Tryz.func179,Tryz.ntmps179;go_wp2_with (go_at_call 226;refine(QRh _ _).mono ?_;rintro e w' ⟨rfl,rfl⟩);go_ret;exact⟨rfl,rfl⟩
end
section
open Go.RowKit
variable [Base]
theorem Qwf (w:World) (o:Obj):Below w.heap.size w ((w.drewN 1).alloc o):=(Qp (Below.refl _ _) 1).alloc (Nat.le_refl _) _
theorem Qxt (a b:Int) (g:Nat) (w:World) (hg:w.heap[g]? = some (.cells #[iv a,iv b] 3 (0,0))):Calls Tryz.prog 178 #[.slice (some ⟨g,0,none⟩) 2 2] w (fun e w'=>e=.returned (iv (if a≠0 then a else b))∧w'=w):=by
 obtain⟨x0,x1⟩:=Qq hg;obtain⟨r,hr⟩:=Ze ((if a≠0 then a else b));rw [hr];have HR:=Zh hr;clear hg hr;go_enter Tryz.func178,Tryz.ntmps178;go_wp2;go_loopw [8] (fun y wr=>∃k:Nat,k≤2∧y=.int .i64 k∧w=wr∧(1≤k→a=0)∧(2≤k→b=0)) (fun y _=>2-(intOf y).toNat)
 case atStart=>exact⟨0,by omega,rfl,rfl,by omega,by omega⟩
 case round=>
  obtain⟨k,hk,rfl,rfl,h1,h2⟩:=hrel;have hc:k=0∨k=1∨k=2:=by omega
  rcases hc with rfl|rfl|rfl
  ·clear h1 h2;by_cases ha:a=0
   ·have h3:(a != 0)=false:=by simpa using ha
    have HA:=Zh ha;clear ha;go_wp2;go_roundw
    case rel=>exact⟨1,by omega,rfl,(by first|rfl|trivial),fun _=>HA.o,by omega⟩
    case measure=>simp [intOf]
   ·have h3:(a != 0)=true:=by simpa using ha
    have HA2:=Zh (show r=a by rw [←HR.o];exact if_pos ha);clear ha;go_wp2;rw [HA2.o];go_ret;exact⟨rfl,rfl⟩
  ·have HA:=Zh (h1 (by omega));clear h1 h2;by_cases hb:b=0
   ·have h3:(b != 0)=false:=by simpa using hb
    have HB:=Zh hb;clear hb;go_wp2;go_roundw
    case rel=>exact⟨2,by omega,rfl,(by first|rfl|trivial),fun _=>HA.o,fun _=>HB.o⟩
    case measure=>simp [intOf]
   ·have h3:(b != 0)=true:=by simpa using hb
    have HB:=Zh (show r=b by rw [←HR.o,HA.o];simp);clear hb;go_wp2;rw [HB.o];go_ret;exact⟨rfl,rfl⟩
  ·have HB:=Zh (show r=0 by rw [←HR.o,h1 (by omega),h2 (by omega)];simp);clear h1 h2;go_wp2;rw [HB.o];go_ret;exact⟨rfl,rfl⟩
def cmpC (p q:Cp):Int:=if cmpI p.1 q.1≠0 then cmpI p.1 q.1 else cmpI p.2 q.2
theorem QMs (p q:Cp):decide (0≤cmpC p q)=!befC p q:=by
 obtain⟨a,b⟩:=p;obtain⟨c,d⟩:=q;unfold cmpC cmpI befC;simp only;by_cases h1:a<c
 ·simp [h1]
 ·by_cases h2:c<a
  ·have h3:a≠c:=by omega
   simp [h1,h2,h3]
  ·obtain rfl:a=c:=by omega
   by_cases h4:b<d
   ·simp [h4]
   ·by_cases h5:d<b <;> simp [h4,h5]
theorem Qen (a1 a2 b1 b2:Int) (w:World):Calls Tryz.prog 138 #[.agg #[iv a1,iv a2],.agg #[iv b1,iv b2]] w (IntQ (cmpC (a1,a2) (b1,b2)) w):=by
 obtain⟨W,hW⟩:=Ze ((w.alloc (.cells #[iv a1,iv a2] CT)).alloc (.cells #[iv b1,iv b2] CT));obtain⟨q,hq⟩:=Ze w.heap.size;have HA:=show W.heap[q]? = some (.cells #[iv a1,iv a2] CT (0,0)) by rw [←hW,←hq];exact Qz _ (heap_alloc_new _ _)
 have HB:=show W.heap[q+1]? = some (.cells #[iv b1,iv b2] CT (0,0)) by rw [←hW,←hq];have:=heap_alloc_new (w.alloc (.cells #[iv a1,iv a2] CT)) (.cells #[iv b1,iv b2] CT);rwa [World.size_alloc] at this
 have BW:=Zh (show Below q w W by rw [←hW,←hq];exact(Zb).alloc (by simp) _);have HSS:=Zh (show ∀w',Below W.heap.size W w'→(w'.cell? ⟨q,0,none⟩=some (iv a1)∧w'.cell? ⟨q,1,none⟩=some (iv a2)∧w'.cell? ⟨q+1,0,none⟩=some (iv b1)∧w'.cell? ⟨q+1,1,none⟩=some (iv b2)) from fun w' hb=>by
  obtain⟨x0,x1⟩:=Qq (Qc HA hb (Qb HA));obtain⟨y0,y1⟩:=Qq (Qc HB hb (Qb HB));exact⟨x0,x1,y0,y1⟩)
 have HWW:=Zh hW;have HQ:=Zh hq;have hor:∀g x,x.heap[g]? = some (.cells #[iv (cmpI a1 b1),iv (cmpI a2 b2)] 3 (0,0))→Calls Tryz.prog 178 #[.slice (some ⟨g,0,none⟩) 2 2] x (fun e w'=>e=.returned (iv (cmpC (a1,a2) (b1,b2)))∧w'=x):=fun g x h=>Qxt _ _ g x h
 have hc1:=QSp a1 b1;have hc2:=QSp a2 b2;generalize cmpC (a1,a2) (b1,b2)=r at hor ⊢;generalize cmpI a1 b1=c1 at hor hc1;generalize cmpI a2 b2=c2 at hor hc2;have K1:=Zh hc1;have K2:=Zh hc2;have KOR:=Zh hor;clear hW HA HB hor hc1 hc2;go_enter Tryz.func138,Tryz.ntmps138;go_upto_region 1 with(fail)
 rw [show(w.alloc (.cells #[iv a1,iv a2] CT)).alloc (.cells #[iv b1,iv b2] CT)=W from HWW.o]
 try rw [hq]
 clear hq;refine QK (S:=fun w'=>w'.cell? ⟨q,0,none⟩=some (iv a1)∧w'.cell? ⟨q,1,none⟩=some (iv a2)∧w'.cell? ⟨q+1,0,none⟩=some (iv b1)∧w'.cell? ⟨q+1,1,none⟩=some (iv b2)) (st:=12) (by kernel_rfl) ?_;have hS0:(fun w':World=>w'.cell? ⟨q,0,none⟩=some (iv a1)∧w'.cell? ⟨q,1,none⟩=some (iv a2)∧w'.cell? ⟨q+1,0,none⟩=some (iv b1)∧w'.cell? ⟨q+1,1,none⟩=some (iv b2)) (W.drewN 1):=(HSS.o (W.drewN 1) (Qp (Below.refl _ _) 1));refine Zd 0 (some 5) ?v1 hS0 ?run1 ?rest1
 case run1=>intro w hS;obtain⟨s0,s1,s2,s3⟩:=hS;go_simp;rfl
 refine Zd 1 (some 6) ?v2 hS0 ?run2 ?rest2
 case run2=>intro w hS;obtain⟨s0,s1,s2,s3⟩:=hS;go_simp;rfl
 refine Zd 2 (some 7) ?v3 hS0 ?run3 ?rest3
 case run3=>intro w hS;obtain⟨s0,s1,s2,s3⟩:=hS;go_simp;rfl
 refine Zd 3 (some 8) ?v4 hS0 ?run4 ?rest4
 case run4=>intro w hS;obtain⟨s0,s1,s2,s3⟩:=hS;go_simp;rfl
 refine Zd 5 (some 10) ?v5 hS0 ?run5 ?rest5
 case run5=>intro w hS;obtain⟨s0,s1,s2,s3⟩:=hS;go_simp;rfl
 refine Zd 6 (some 11) ?v6 hS0 ?run6 ?rest6
 case run6=>intro w hS;obtain⟨s0,s1,s2,s3⟩:=hS;go_simp;rfl
 refine Zd 7 (some 12) ?v7 hS0 ?run7 ?rest7
 case run7=>intro w hS;obtain⟨s0,s1,s2,s3⟩:=hS;go_simp;rfl
 refine Zd 8 (some 13) ?v8 hS0 ?run8 ?rest8
 case run8=>intro w hS;obtain⟨s0,s1,s2,s3⟩:=hS;go_simp;rfl
 refine QP 4 (some 9) 179 #[iv a1,iv b1] rfl (by kernel_rfl) (by kernel_rfl) (by kernel_rfl) rfl ?_;refine(K1.o _).mono ?_;rintro e z1 ⟨rfl,rfl⟩;refine⟨_,rfl,fun _=>hS0,?_⟩;refine QP 9 (some 14) 179 #[iv a2,iv b2] rfl (by kernel_rfl) (by kernel_rfl) (by kernel_rfl) rfl ?_;refine(K2.o _).mono ?_;rintro e z1 ⟨rfl,rfl⟩;refine⟨_,rfl,fun _=>hS0,?_⟩;refine QW 10 (some 15) (.slice (some ⟨W.heap.size,0,none⟩) 2 2) ((W.drewN 1).alloc (.cells #[iv c1,iv c2] 3)) rfl (by kernel_rfl) (by kernel_rfl) ?rva rfl (fun _=>?sa) ?_
 case rva=>go_simp
 case sa=>exact HSS.o _ (Qwf W _)
 clear hS0;have hS0:=HSS.o _ (Qwf W (.cells #[iv c1,iv c2] 3));refine QP 11 (some 16) 178 #[.slice (some ⟨W.heap.size,0,none⟩) 2 2] rfl (by kernel_rfl) (by kernel_rfl) (by kernel_rfl) rfl ?_;refine(KOR.o W.heap.size ((W.drewN 1).alloc (.cells #[iv c1,iv c2] 3)) (heap_alloc_new (W.drewN 1) _)).mono ?_;rintro e z1 ⟨rfl,rfl⟩;refine⟨_,rfl,fun _=>hS0,?_⟩;refine QW 12 (some 4) (iv r) ((W.drewN 1).alloc (.cells #[iv c1,iv c2] 3)) rfl (by kernel_rfl) (by kernel_rfl) (by go_simp) rfl (fun h=>absurd rfl h) ?_;refine Qu (by kernel_rfl) ?_ _;generalize hA:Act.put _ _ _=A0;simp only [Qba,Qaa,Zu,Zv,Zw] at hA;subst hA;have BF:=Zh (show Below w.heap.size w ((W.drewN 1).alloc (.cells #[iv c1,iv c2] 3)) from by rw [HQ.o];exact BW.o.trans ((Qwf W _).mono (by have:=BW.o.size;have:=HQ.o;omega)));clear hS0;go_wp2;go_ret;exact⟨rfl,BF.o⟩
end
section
variable [Base]
open Go
section
variable {P:Program} {ops:Array Oper} {Q:Exit→Act→World→Prop} {md:Region.Mode} {S:World→Prop}
theorem Qhi {st:Nat} (i:Nat) {oi:Oper} {fuel:Nat} {listed:Array Bool} {a:Act} {w:World} (hi:ops[i]? = some oi)
  (hr:Region.ready md ops listed=[i]) (hwant:Region.wanted oi (yielded ops a.tmps)=true)
  (h:oi.wp P a w (fun a' w'=>(i≠st→S w')∧Qma P md ops Q S st fuel (listed.setIfInBounds i true) a' w') Q):Qma P md ops Q S st (fuel+1) listed a w:=by
 refine Qh hr (by simp) fun j hj=>?_
 obtain rfl:j=i:=by simpa using hj
 unfold wpOp;rw [hi];show if Region.wanted oi (yielded ops a.tmps) then _ else _
 rw [if_pos hwant];exact .inl h
theorem QRe {st:Nat} (i:Nat) (d:Option Tmp) {oi:Oper} {fuel:Nat} {listed:Array Bool} {a:Act} {w:World} (hi:ops[i]? = some oi)
  (hr:Region.ready md ops listed=[i]) (hwant:Region.wanted oi (yielded ops a.tmps)=true) (hd:oi.dst=d) (s x:Operand) (t:TypeId)
  (ho:oi.op=.call { callee:=.builtin .append,args:=#[s,x],argTypes:=#[t,t] })
  (base:Nat) (e:TypeId) (z:Value) (size bytes:Nat) (ht:P.underlying t=some (.slice e)) (hin:(P.info? e).map (fun i=>(i.zero,i.size,i.bytes))=some (some z,size,bytes))
  (hzs:z.cells.size=size) (hsz:0<size) (v:Value) (n:Nat) (xs:List Value) (hown:w.ownsRow base e size v n xs) (hs:a.eval s=v)
  (u:Value) (m:Nat) (ys:List Value) (hx:a.eval x=u) (hsl:Qg w e size u ys) (hm:ys.length=m*size) (h1:ys.all Value.oneCell'=true)
  (h63:n+m≤maxLen) (hbytes:(n+m)*bytes≤140737488355328) (hbase:base≤w.heap.size)
  (h:∀g c w',w'.ownsRow base e size (.slice g (n+m) c) (n+m) (xs++ys)→w.grownBy w' v.ownBlock→(i≠st→S w')∧Qma P md ops Q S st fuel (listed.setIfInBounds i true) (a.put d (.slice g (n+m) c)) w'):
  Qma P md ops Q S st (fuel+1) listed a w:=by
 subst hd;exact Qhi i hi hr hwant (Qlf s x t ho base e z size bytes ht hin hzs hsz v n xs hown hs u m ys hx hsl hm h1 h63 hbytes hbase h)
end
end
section
variable [Base]
open Go
section
variable {P:Program} {ops:Array Oper} {Q:Exit→Act→World→Prop} {md:Region.Mode} {S:World→Prop}
theorem QA {st:Nat} (i:Nat) (d:Option Tmp) (cs:List Nat) {oi:Oper} {fuel:Nat} {listed:Array Bool} {a:Act} {w:World} (hi:ops[i]? = some oi)
  (hs:Region.noSelect ops=true) (hf:Region.free md ops listed i=true) (hr:(Region.ready md ops listed).contains i=true) (hw:(QQe md ops st i cs&&cs.all fun c=>!listed.getD c true)=true)
  (hQ:∀c a w,Q (.panic c) (a.put oi.dst undef) w→Q (.panic c) a w) (hS:S w) (hwant:Region.wanted oi (yielded ops a.tmps)=false)
  (hd:oi.dst=d) (h:Qma P md ops Q S st fuel (listed.setIfInBounds i true) (a.put d undef) w):Qma P md ops Q S st (fuel+1) listed a w:=by
 subst hd;simp only [Bool.and_eq_true,List.all_eq_true,Bool.not_eq_true'] at hw;exact Qbg cs hi (Region.noSelect_spec hs) hw.1 hQ fuel listed a w (Region.free_spec hi hf) hw.2 (by simpa using hr) (.inr ⟨hwant,rfl⟩) hS h
theorem QVj {st i:Nat} {oi:Oper} {v:Value} (hst:ops[st]? = none) (hi:ops[i]? = some oi) (hsel:∀(j:Nat) (o:Oper) cs b,ops[j]? = some o→o.op≠.select cs b)
  (hQ:∀c a w,Q (.panic c) (a.put oi.dst v) w→Q (.panic c) a w):
  ∀(fuel:Nat) (listed:Array Bool) (a:Act) (w:World),
   (∀j oj,ops[j]? = some oj→j≠i→listed.getD j true=false→(∀e∈oj.after,Region.binds md e=true→e.on≠i)→oi.apart ops oj=true) →
   i∈Region.ready md ops listed→YieldsIf P ops S oi v a→S w →
   Qma P md ops Q S st fuel (listed.setIfInBounds i true) (a.put oi.dst v) w→Qma P md ops Q S st (fuel+1) listed a w:=by
 intro fuel
 induction fuel with
|zero=>
  intro listed a w _ hr hy hS H;refine⟨fun h=>(by rw [h] at hr;cases hr),fun j hj=>?_⟩;by_cases hji:j=i
  ·subst hji;exact hy.wpOp hi hS ⟨fun _=>hS,H⟩
  ·have:=ready_mono hj hji;rw [H.1] at this
   cases this
|succ fuel ih=>
  intro listed a w hfree hr hy hS H;refine⟨fun h=>(by rw [h] at hr;cases hr),fun j hj=>?_⟩;by_cases hji:j=i
  ·subst hji;exact hy.wpOp hi hS ⟨fun _=>hS,H⟩
  ·have hiun:=QYb (mem_ready.1 hr).1;obtain⟨hjun,oj,hoj,hall⟩:=mem_ready.1 hj;have hjst:j≠st:=fun h=>by rw [h,hst] at hoj;cases hoj
   have hnot:∀e∈oj.after,Region.binds md e=true→e.on≠i:=fun e he hb heq=>by
    have h1:=hall e he hb;rw [heq,hiun] at h1
    cases h1
   have hstep:=wpOp_putIf hoj (hfree j oj hoj hji hjun hnot) (fun cs b=>hsel i oi cs b hi) (fun cs b=>hsel j oj cs b hoj) hQ hy (H.2 j (ready_mono hj hji));refine wpOp_mono (fun a' w' h3=>⟨h3.2.1,ih (listed.setIfInBounds j true) a' w' ?_ (ready_mono hr (Ne.symm hji)) h3.1 (h3.2.1 hjst) ?_⟩) hstep
   ·intro k ok hk hki hun hno;refine hfree k ok hk hki ?_ hno;by_cases hjk:j=k
    ·subst hjk;exact hjun
    ·rw [getD_set_ne true hjk] at hun;exact hun
   ·rw [Array.setIfInBounds_comm _ _ hji];exact h3.2.2
theorem Qe {st:Nat} (i:Nat) (d:Option Tmp) (v:Value) {oi:Oper} {fuel:Nat} {listed:Array Bool} {a:Act} {w:World} (hi:ops[i]? = some oi)
  (hs:Region.noSelect ops=true) (hf:Region.free md ops listed i=true) (hr:(Region.ready md ops listed).contains i=true) (hst:ops[st]? = none)
  (hQ:∀c a w,Q (.panic c) (a.put oi.dst v) w→Q (.panic c) a w) (hS:S w) (hwant:Region.wanted oi (yielded ops a.tmps)=true)
  (hd:oi.dst=d) (hrun:∀w,S w→(execOp a.eval oi).run P w=.ok (.value v) w)
  (h:Qma P md ops Q S st fuel (listed.setIfInBounds i true) (a.put d v) w):Qma P md ops Q S st (fuel+1) listed a w:=by
 subst hd;exact QVj hst hi (Region.noSelect_spec hs) hQ fuel listed a w (Region.free_spec hi hf) (by simpa using hr) (.inl ⟨hwant,hrun⟩) hS h
end
theorem Zn {P:Program} {md:Region.Mode} {ops:Array Oper} {Q:Exit→Act→World→Prop} {S:World→Prop} {st:Nat} (i:Nat) (d:Option Tmp) (v:Value) {oi:Oper} {fuel:Nat} {listed:Array Bool} {a:Act} {w:World} (hS:S w) (hrun:∀w,S w→(execOp a.eval oi).run P w=.ok (.value v) w) (h:Qma P md ops Q S st fuel (listed.setIfInBounds i true) (a.put d v) w) (hi:ops[i]? = some oi:=by rfl) (hs:Region.noSelect ops=true:=by kernel_rfl) (hf:Region.free md ops listed i=true:=by kernel_rfl) (hr:(Region.ready md ops listed).contains i=true:=by kernel_rfl) (hst:ops[st]? = none:=by rfl) (hQ:∀c a w,Q (.panic c) (a.put oi.dst v) w→Q (.panic c) a w:=by exact fun _ _ _ h=>h) (hwant:Region.wanted oi (yielded ops a.tmps)=true:=by kernel_rfl) (hd:oi.dst=d:=by rfl):Qma P md ops Q S st (fuel+1) listed a w:=Qe i d v hi hs hf hr hst hQ hS hwant hd hrun h
theorem Zk {P:Program} {md:Region.Mode} {ops:Array Oper} {Q:Exit→Act→World→Prop} {S:World→Prop} {st:Nat} (i:Nat) (d:Option Tmp) (cs:List Nat) {oi:Oper} {fuel:Nat} {listed:Array Bool} {a:Act} {w:World} (hS:S w) (h:Qma P md ops Q S st fuel (listed.setIfInBounds i true) (a.put d undef) w) (hi:ops[i]? = some oi:=by rfl) (hs:Region.noSelect ops=true:=by kernel_rfl) (hf:Region.free md ops listed i=true:=by kernel_rfl) (hr:(Region.ready md ops listed).contains i=true:=by kernel_rfl) (hw:(QQe md ops st i cs&&cs.all fun c=>!listed.getD c true)=true:=by kernel_rfl) (hQ:∀c a w,Q (.panic c) (a.put oi.dst undef) w→Q (.panic c) a w:=by exact fun _ _ _ h=>h) (hwant:Region.wanted oi (yielded ops a.tmps)=false:=by kernel_rfl) (hd:oi.dst=d:=by rfl):Qma P md ops Q S st (fuel+1) listed a w:=QA i d cs hi hs hf hr hw hQ hS hwant hd h
end
section
open Go.RowKit
variable [Base]
theorem Qff {s:QSet} {b:Bool} (hb:setB s=b) {u:Value} {w:World} (h:Qi w u s.words):Calls Tryz.prog 90 #[.agg #[iv s.width,u]] w (Qia b w):=hb▸QOj s u w h
def Qke (l:List Cp) (k:Nat):Option Cp:=if k=0 then none else l[k-1]?
theorem Qcn {w:Int} {l:List Cp} {k:Nat} {c:Cp} (h:l[k]? = some c):Qnc w (Qke l k) (l.drop k)=((inC w c&&(match Qke l k with|none=>true|some q=>befC q c))&&Qnc w (Qke l (k+1)) (l.drop (k+1))):=by
 obtain⟨hk,rfl⟩:=List.getElem?_eq_some_iff.1 h;rw [List.drop_eq_getElem_cons hk];show((inC w l[k]&&(match Qke l k with|none=>true|some q=>befC q l[k]))&&Qnc w (some l[k]) (l.drop (k+1)))=_;have e:Qke l (k+1)=some l[k]:=by
  unfold Qke;rw [if_neg (by omega),Nat.add_sub_cancel,List.getElem?_eq_getElem hk]
 rw [e]
theorem Qng (t:Qw) (gu ku cu:Value) (w:World) (h:Qja w gu ku cu t):Calls Tryz.prog 72 #[trV t gu ku cu] w (Qia (Qtd t) w):=by
 obtain⟨⟨gw,gl⟩,⟨kw,kl⟩,cs⟩:=t;have HG:=Zh (fun (x:World) (b:Below w.heap.size w x)=>h.gen.below b);have HK:=Zh (fun (x:World) (b:Below w.heap.size w x)=>h.kill.below b);obtain⟨ga,gc,rfl,-,-,-,-⟩:=h.gen.cell;obtain⟨ka,kc,rfl,-,-,-,-⟩:=h.kill.cell;obtain⟨ca,cc,rfl,h63,-,-,hcc⟩:=h.cops.cell;simp only at HG HK h63 hcc;have HC:=Zh hcc;have HT:=Zh (show Qtd ⟨⟨gw,gl⟩,⟨kw,kl⟩,cs⟩=(setB ⟨gw,gl⟩&&(setB ⟨kw,kl⟩&&(decide (gw=kw)&&(decide (cs.length≤64)&&Qnc gw none cs)))) from rfl);obtain⟨r,hr⟩:=Ze (Qtd ⟨⟨gw,gl⟩,⟨kw,kl⟩,cs⟩);rw [hr] at HT ⊢;simp only [trV];obtain⟨gn,hgn⟩:=Ze gl.length;obtain⟨kn,hkn⟩:=Ze kl.length;obtain⟨n,hn⟩:=Ze cs.length;rw [hgn] at HG ⊢;rw [hkn] at HK ⊢;rw [hn] at h63 HT ⊢;unfold maxLen at h63;have HN:=Zh hn;obtain⟨q,hq⟩:=Ze w.heap.size;obtain⟨W,hW⟩:=Ze (w.alloc (.cells #[iv gw,.slice ga gn gc,iv kw,.slice ka kn kc,.slice ca n cc] 55));have HX:=Zh (show W.heap[q]? = some (.cells #[iv gw,.slice ga gn gc,iv kw,.slice ka kn kc,.slice ca n cc] 55 (0,0)) by rw [←hW,←hq];exact heap_alloc_new _ _);have BW:=Zh (show Below q w W by rw [←hW,←hq];exact Zb);have HWW:=Zh hW;have HQ:=Zh hq;obtain⟨b1,hb1⟩:=Ze (setB ⟨gw,gl⟩);obtain⟨b2,hb2⟩:=Ze (setB ⟨kw,kl⟩);have K1:=Zh (fun (x:World) (b:Below w.heap.size w x)=>Qff hb1 (HG.o x b));have K2:=Zh (fun (x:World) (b:Below w.heap.size w x)=>Qff hb2 (HK.o x b));rw [hb1,hb2] at HT;simp only at K1 K2;clear h hcc hr hgn hkn hn hW hb1 hb2 HG HK;obtain⟨x0,x1,x2,x3,x4⟩:=QJ HX.o;go_enter Tryz.func72,Tryz.ntmps72;go_upto_region 1 with(fail)
 rw [show w.alloc (.cells #[iv gw,.slice ga gn gc,iv kw,.slice ka kn kc,.slice ca n cc] 55)=W from HWW.o]
 try rw [hq]
 clear hq;go_wp2_with fail;refine(K1.o W (HQ.o.symm▸BW.o)).mono ?_;rintro e w1 ⟨rfl,c1⟩;have HX1:=Zh (Qc HX.o c1 (Qb HX.o));have HB1:=Zh (BW.o.trans (c1.mono (by have:=BW.o.size;have:=HQ.o;omega)));clear c1 x0 x1 x2 x3 x4;obtain⟨x0,x1,x2,x3,x4⟩:=QJ HX1.o
 cases b1 with
|false=>
  have HF:=Zh (show r=false by rw [HT.o];rfl);go_wp2;go_ret;exact⟨Qyb HF.o.symm,HQ.o.symm▸HB1.o⟩
|true=>
 go_wp2_with fail;refine(K2.o w1 (HQ.o.symm▸HB1.o)).mono ?_;rintro e w2 ⟨rfl,c2⟩;have HX2:=Zh (Qc HX1.o c2 (Qb HX1.o));have HB2:=Zh (HB1.o.trans (c2.mono (by have:=HB1.o.size;have:=HQ.o;omega)));clear c2 x0 x1 x2 x3 x4;obtain⟨x0,x1,x2,x3,x4⟩:=QJ HX2.o
 cases b2 with
|false=>
  have HF:=Zh (show r=false by rw [HT.o];rfl);go_wp2;go_ret;exact⟨Qyb HF.o.symm,HQ.o.symm▸HB2.o⟩
|true=>
 by_cases hw:gw=kw;rotate_left
 ·have HF:=Zh (show r=false by rw [HT.o];simp [hw]);have t1:(gw != kw)=true:=by simpa using hw
  clear hw;go_wp2;go_ret;exact⟨Qyb HF.o.symm,HQ.o.symm▸HB2.o⟩
 have t1:(gw != kw)=false:=by simpa using hw
 by_cases hn64:64<n
 ·have HF:=Zh (show r=false by rw [HT.o];simp;omega);clear hw;go_wp2;go_ret;exact⟨Qyb HF.o.symm,HQ.o.symm▸HB2.o⟩
 have HR:=Zh (show r=Qnc gw (Qke cs 0) (cs.drop 0) by rw [HT.o];simp [hw,Qke];omega);clear hw;go_wp2;clear x0 x1 x2 x3 x4;go_loopw [33] (fun y wr=>∃k:Nat,k≤n∧y=.int .i64 k∧Hid (Below w2.heap.size w2 wr)∧w2.heap.size≤wr.heap.size∧Hid (r=Qnc gw (Qke cs k) (cs.drop k))) (fun y _=>n-(intOf y).toNat)
 case atStart=>exact⟨0,Nat.zero_le _,rfl,Below.refl _ _,Nat.le_refl _,HR.o⟩
 case round=>
  obtain⟨k,hk,rfl,HB,hsr,HRk⟩:=hrel;have HBA:=Zh (HB2.o.trans (HB.o.mono (by have:=HB2.o.size;have:=HQ.o;omega)));by_cases hlt:k<n;rotate_left
  ·have HF:=Zh (show r=true by rw [HRk.o,List.drop_eq_nil_of_le (by rw [HN.o];omega)];rfl);go_wp2;go_ret;exact⟨Qyb HF.o.symm,HQ.o.symm▸HBA.o⟩
  ·obtain⟨y,hy⟩:∃y,cs[k]? = some y:=⟨_,List.getElem?_eq_getElem (by rw [HN.o];exact hlt)⟩;obtain⟨b4,o4,rfl,hb4,g0,g1⟩:=HC.o k y hy;have HST:=Zh (Qcn (w:=gw) hy);obtain⟨y1,y2⟩:=y;simp only at g0 g1;have hbq:b4<q:=by have:=HQ.o;omega
   have g0:=(HBA.o.cell (p:=⟨b4,o4+k*2,none⟩) hbq).trans g0;have g1:=(HBA.o.cell (p:=⟨b4,o4+k*2+1,none⟩) hbq).trans g1;have HXr:=Zh (Qc HX2.o HB.o (Qb HX2.o));obtain⟨U,hU⟩:=Ze (wr.alloc (.cells #[iv y1,iv y2] CT));obtain⟨xb,hxb⟩:=Ze wr.heap.size;have BU:=Zh (show Below xb wr U by rw [←hU,←hxb];exact Zb);have HC2:=Zh (show U.heap[xb]? = some (.cells #[iv y1,iv y2] CT (0,0)) by rw [←hU,←hxb];exact heap_alloc_new _ _);have HXU:=Zh (Qc HXr.o BU.o (by have:=Qb HXr.o;omega));have HUU:=Zh hU;have HXB:=Zh hxb;have HBU:=Zh (show Below w2.heap.size w2 U from HB.o.trans (BU.o.mono (by omega)));have HS0:=Zh (show ∀w',Below U.heap.size U w'→(w'.cell? ⟨q,0,none⟩=some (iv gw)∧w'.cell? ⟨q,1,none⟩=some (.slice ga gn gc)∧w'.cell? ⟨q,2,none⟩=some (iv kw)∧w'.cell? ⟨q,3,none⟩=some (.slice ka kn kc)∧w'.cell? ⟨q,4,none⟩=some (.slice (some ⟨b4,o4,none⟩) n cc)∧w'.cell? ⟨xb,0,none⟩=some (iv y1)∧w'.cell? ⟨xb,1,none⟩=some (iv y2)) from fun w' hb=>by
    obtain⟨a0,a1,a2,a3,a4⟩:=QJ (Qc HXU.o hb (Qb HXU.o));obtain⟨c0,c1⟩:=Qq (Qc HC2.o hb (Qb HC2.o));exact⟨a0,a1,a2,a3,a4,c0,c1⟩)
   obtain⟨t1',ht1⟩:∃b,bitB gw y1=b:=⟨_,rfl⟩;obtain⟨t2',ht2⟩:∃b,bitB gw y2=b:=⟨_,rfl⟩;have HIN:=Zh (show inC gw (y1,y2)=(t1'&&t2') by rw [←ht1,←ht2];rfl);have KB1:=Zh (fun (x:World)=>ht1▸QJl ⟨⟨gw,gl⟩,⟨kw,kl⟩,cs⟩ ga ka (some ⟨b4,o4,none⟩) gn gc kn kc n cc y1 x);have KB2:=Zh (fun (x:World)=>ht2▸QJl ⟨⟨gw,gl⟩,⟨kw,kl⟩,cs⟩ ga ka (some ⟨b4,o4,none⟩) gn gc kn kc n cc y2 x);simp only [trV] at KB1 KB2;clear hy hU ht1 ht2;go_upto_region 6 with(fail)
   rw [show wr.alloc (.cells #[iv y1,iv y2] CT)=U from HUU.o]
   try rw [hxb]
   clear hxb g0 g1;have FIN:=Zh (show ∀x,Below U.heap.size U x→Below w.heap.size w x from fun x hb=>HQ.o.symm▸HB2.o.trans ((HBU.o.trans (hb.mono HBU.o.size)).mono (by have:=HB2.o.size;have:=HQ.o;omega)));have FIN2:=Zh (show ∀x,Below U.heap.size U x→Below w2.heap.size w2 x from fun x hb=>HBU.o.trans (hb.mono HBU.o.size))
   cases t1' with
  |false=>
    have HF:=Zh (show r=false by rw [HRk.o,HST.o,HIN.o];rfl);have HSS:=HS0;refine QK (S:=fun w'=>w'.cell? ⟨q,0,none⟩=some (iv gw)∧w'.cell? ⟨q,1,none⟩=some (.slice ga gn gc)∧w'.cell? ⟨q,2,none⟩=some (iv kw)∧w'.cell? ⟨q,3,none⟩=some (.slice ka kn kc)∧w'.cell? ⟨q,4,none⟩=some (.slice (some ⟨b4,o4,none⟩) n cc)∧w'.cell? ⟨xb,0,none⟩=some (iv y1)∧w'.cell? ⟨xb,1,none⟩=some (iv y2)) (st:=26) (by kernel_rfl) ?_;have hS0:(fun w':World=>w'.cell? ⟨q,0,none⟩=some (iv gw)∧w'.cell? ⟨q,1,none⟩=some (.slice ga gn gc)∧w'.cell? ⟨q,2,none⟩=some (iv kw)∧w'.cell? ⟨q,3,none⟩=some (.slice ka kn kc)∧w'.cell? ⟨q,4,none⟩=some (.slice (some ⟨b4,o4,none⟩) n cc)∧w'.cell? ⟨xb,0,none⟩=some (iv y1)∧w'.cell? ⟨xb,1,none⟩=some (iv y2)) (U.drewN 1):=(HSS.o (U.drewN 1) (Qp (Below.refl _ _) 1));refine Zc 0 (some 38) [3,5,9,12] ?v1 hS0 ?run1 ?rest1
    case run1=>intro w hS;obtain⟨s0,s1,s2,s3,s4,s5,s6⟩:=hS;go_simp;rfl
    refine Zc 1 (some 39) [2,3,5,9,12] ?v2 hS0 ?run2 ?rest2
    case run2=>intro w hS;obtain⟨s0,s1,s2,s3,s4,s5,s6⟩:=hS;go_simp;rfl
    refine Zc 2 (some 40) [3,5,9,12] ?v3 hS0 ?run3 ?rest3
    case run3=>intro w hS;obtain⟨s0,s1,s2,s3,s4,s5,s6⟩:=hS;go_simp;rfl
    refine QP 3 (some 41) 137 #[.agg #[iv gw,.slice ga gn gc,iv kw,.slice ka kn kc,.slice (some ⟨b4,o4,none⟩) n cc],iv y1] rfl (by kernel_rfl) (by kernel_rfl) (by kernel_rfl) rfl ?_;refine(KB1.o (U.drewN 1)).mono ?_;rintro e m1 ⟨rfl,b1⟩;have BB1:=Zh ((Qp (Below.refl U.heap.size U) 1).trans b1);clear hS0 b1;have hS0:=HSS.o _ BB1.o;refine⟨_,rfl,fun _=>hS0,?_⟩;refine Zc 4 (some 42) [5,9,12] ?v4 hS0 ?run4 ?rest4
    case run4=>intro w hS;obtain⟨s0,s1,s2,s3,s4,s5,s6⟩:=hS;go_simp;rfl
    refine Zc 5 (some 43) [9,12] ?v5 hS0 ?run5 ?rest5
    case run5=>intro w hS;obtain⟨s0,s1,s2,s3,s4,s5,s6⟩:=hS;go_simp;rfl
    refine Zk 6 (some 44) [9,12] hS0 ?_;refine Zk 7 (some 45) [8,9,12] hS0 ?_;refine Zk 8 (some 46) [9,12] hS0 ?_;refine Zk 9 (some 47) [12] hS0 ?_;refine Zk 10 (some 48) [11,12] hS0 ?_;refine Zc 11 (some 49) [12] ?v11 hS0 ?run11 ?rest11
    case run11=>intro w hS;obtain⟨s0,s1,s2,s3,s4,s5,s6⟩:=hS;go_simp;rfl
    refine Zd 12 (some 50) ?v12 hS0 ?run12 ?rest12
    case run12=>intro w hS;obtain⟨s0,s1,s2,s3,s4,s5,s6⟩:=hS;go_simp;rfl
    refine Zk 13 (some 51) [14,15,25] hS0 ?_;refine Zk 14 (some 52) [15,25] hS0 ?_;refine Zk 15 (some 53) [25] hS0 ?_;refine Zk 16 (some 54) [17,20,21,23,24,25] hS0 ?_;refine Zk 17 (some 55) [20,21,23,24,25] hS0 ?_;refine Zk 18 (some 56) [19,20,21,23,24,25] hS0 ?_;refine Zk 19 (some 57) [20,21,23,24,25] hS0 ?_;refine Zk 20 (some 58) [21,23,24,25] hS0 ?_;refine Zk 21 (some 59) [23,24,25] hS0 ?_;refine Zk 22 (some 60) [23,24,25] hS0 ?_;refine Zk 23 (some 61) [24,25] hS0 ?_;refine Zk 24 (some 62) [25] hS0 ?_;refine Qfi 25 (some 63) rfl (by kernel_rfl) (by kernel_rfl) (by kernel_rfl) (by kernel_rfl) (fun _ _ _ h=>h) hS0 (by kernel_rfl) rfl ?_;refine QW 26 (some 64) (.bool true) m1 rfl (by kernel_rfl) (by kernel_rfl) (by go_simp) rfl (fun h=>absurd rfl h) ?_;refine Qu (by kernel_rfl) ?_ _;generalize hA:Act.put _ _ _=A0;simp only [Qba,Qaa,Zu,Zv,Zw] at hA;subst hA;have BF:=Zh (FIN.o _ BB1.o);clear hS0;go_wp2;go_ret;exact⟨Qyb HF.o.symm,BF.o⟩
  |true=>
   cases t2' with
  |false=>
    have HF:=Zh (show r=false by rw [HRk.o,HST.o,HIN.o];rfl);have HSS:=HS0;refine QK (S:=fun w'=>w'.cell? ⟨q,0,none⟩=some (iv gw)∧w'.cell? ⟨q,1,none⟩=some (.slice ga gn gc)∧w'.cell? ⟨q,2,none⟩=some (iv kw)∧w'.cell? ⟨q,3,none⟩=some (.slice ka kn kc)∧w'.cell? ⟨q,4,none⟩=some (.slice (some ⟨b4,o4,none⟩) n cc)∧w'.cell? ⟨xb,0,none⟩=some (iv y1)∧w'.cell? ⟨xb,1,none⟩=some (iv y2)) (st:=26) (by kernel_rfl) ?_;have hS0:(fun w':World=>w'.cell? ⟨q,0,none⟩=some (iv gw)∧w'.cell? ⟨q,1,none⟩=some (.slice ga gn gc)∧w'.cell? ⟨q,2,none⟩=some (iv kw)∧w'.cell? ⟨q,3,none⟩=some (.slice ka kn kc)∧w'.cell? ⟨q,4,none⟩=some (.slice (some ⟨b4,o4,none⟩) n cc)∧w'.cell? ⟨xb,0,none⟩=some (iv y1)∧w'.cell? ⟨xb,1,none⟩=some (iv y2)) (U.drewN 1):=(HSS.o (U.drewN 1) (Qp (Below.refl _ _) 1));refine Zc 0 (some 38) [3,5,9,12] ?v26 hS0 ?run26 ?rest26
    case run26=>intro w hS;obtain⟨s0,s1,s2,s3,s4,s5,s6⟩:=hS;go_simp;rfl
    refine Zc 1 (some 39) [2,3,5,9,12] ?v27 hS0 ?run27 ?rest27
    case run27=>intro w hS;obtain⟨s0,s1,s2,s3,s4,s5,s6⟩:=hS;go_simp;rfl
    refine Zc 2 (some 40) [3,5,9,12] ?v28 hS0 ?run28 ?rest28
    case run28=>intro w hS;obtain⟨s0,s1,s2,s3,s4,s5,s6⟩:=hS;go_simp;rfl
    refine QP 3 (some 41) 137 #[.agg #[iv gw,.slice ga gn gc,iv kw,.slice ka kn kc,.slice (some ⟨b4,o4,none⟩) n cc],iv y1] rfl (by kernel_rfl) (by kernel_rfl) (by kernel_rfl) rfl ?_;refine(KB1.o (U.drewN 1)).mono ?_;rintro e m1 ⟨rfl,b1⟩;have BB1:=Zh ((Qp (Below.refl U.heap.size U) 1).trans b1);clear hS0 b1;have hS0:=HSS.o _ BB1.o;refine⟨_,rfl,fun _=>hS0,?_⟩;refine Zc 4 (some 42) [5,9,12] ?v29 hS0 ?run29 ?rest29
    case run29=>intro w hS;obtain⟨s0,s1,s2,s3,s4,s5,s6⟩:=hS;go_simp;rfl
    refine Zc 5 (some 43) [9,12] ?v30 hS0 ?run30 ?rest30
    case run30=>intro w hS;obtain⟨s0,s1,s2,s3,s4,s5,s6⟩:=hS;go_simp;rfl
    refine Zc 6 (some 44) [9,12] ?v31 hS0 ?run31 ?rest31
    case run31=>intro w hS;obtain⟨s0,s1,s2,s3,s4,s5,s6⟩:=hS;go_simp;rfl
    refine Zc 7 (some 45) [8,9,12] ?v32 hS0 ?run32 ?rest32
    case run32=>intro w hS;obtain⟨s0,s1,s2,s3,s4,s5,s6⟩:=hS;go_simp;rfl
    refine Zc 8 (some 46) [9,12] ?v33 hS0 ?run33 ?rest33
    case run33=>intro w hS;obtain⟨s0,s1,s2,s3,s4,s5,s6⟩:=hS;go_simp;rfl
    refine QP 9 (some 47) 137 #[.agg #[iv gw,.slice ga gn gc,iv kw,.slice ka kn kc,.slice (some ⟨b4,o4,none⟩) n cc],iv y2] rfl (by kernel_rfl) (by kernel_rfl) (by kernel_rfl) rfl ?_;refine(KB2.o m1).mono ?_;rintro e m2 ⟨rfl,b2⟩;have BB2:=Zh (BB1.o.trans (b2.mono BB1.o.size));clear hS0 b2;have hS0:=HSS.o _ BB2.o;refine⟨_,rfl,fun _=>hS0,?_⟩;refine Zc 10 (some 48) [11,12] ?v34 hS0 ?run34 ?rest34
    case run34=>intro w hS;obtain⟨s0,s1,s2,s3,s4,s5,s6⟩:=hS;go_simp;rfl
    refine Zc 11 (some 49) [12] ?v35 hS0 ?run35 ?rest35
    case run35=>intro w hS;obtain⟨s0,s1,s2,s3,s4,s5,s6⟩:=hS;go_simp;rfl
    refine Zd 12 (some 50) ?v36 hS0 ?run36 ?rest36
    case run36=>intro w hS;obtain⟨s0,s1,s2,s3,s4,s5,s6⟩:=hS;go_simp;rfl
    refine Zk 13 (some 51) [14,15,25] hS0 ?_;refine Zk 14 (some 52) [15,25] hS0 ?_;refine Zk 15 (some 53) [25] hS0 ?_;refine Zk 16 (some 54) [17,20,21,23,24,25] hS0 ?_;refine Zk 17 (some 55) [20,21,23,24,25] hS0 ?_;refine Zk 18 (some 56) [19,20,21,23,24,25] hS0 ?_;refine Zk 19 (some 57) [20,21,23,24,25] hS0 ?_;refine Zk 20 (some 58) [21,23,24,25] hS0 ?_;refine Zk 21 (some 59) [23,24,25] hS0 ?_;refine Zk 22 (some 60) [23,24,25] hS0 ?_;refine Zk 23 (some 61) [24,25] hS0 ?_;refine Zk 24 (some 62) [25] hS0 ?_;refine Qfi 25 (some 63) rfl (by kernel_rfl) (by kernel_rfl) (by kernel_rfl) (by kernel_rfl) (fun _ _ _ h=>h) hS0 (by kernel_rfl) rfl ?_;refine QW 26 (some 64) (.bool true) m2 rfl (by kernel_rfl) (by kernel_rfl) (by go_simp) rfl (fun h=>absurd rfl h) ?_;refine Qu (by kernel_rfl) ?_ _;generalize hA:Act.put _ _ _=A0;simp only [Qba,Qaa,Zu,Zv,Zw] at hA;subst hA;have BF:=Zh (FIN.o _ BB2.o);clear hS0;go_wp2;go_ret;exact⟨Qyb HF.o.symm,BF.o⟩
  |true=>
   by_cases hk0:k=0
   ·subst hk0;have HF:=Zh (show r=Qnc gw (Qke cs 1) (cs.drop 1) by rw [HRk.o,HST.o,HIN.o];simp [Qke]);have HSS:=HS0;refine QK (S:=fun w'=>w'.cell? ⟨q,0,none⟩=some (iv gw)∧w'.cell? ⟨q,1,none⟩=some (.slice ga gn gc)∧w'.cell? ⟨q,2,none⟩=some (iv kw)∧w'.cell? ⟨q,3,none⟩=some (.slice ka kn kc)∧w'.cell? ⟨q,4,none⟩=some (.slice (some ⟨b4,o4,none⟩) n cc)∧w'.cell? ⟨xb,0,none⟩=some (iv y1)∧w'.cell? ⟨xb,1,none⟩=some (iv y2)) (st:=26) (by kernel_rfl) ?_;have hS0:(fun w':World=>w'.cell? ⟨q,0,none⟩=some (iv gw)∧w'.cell? ⟨q,1,none⟩=some (.slice ga gn gc)∧w'.cell? ⟨q,2,none⟩=some (iv kw)∧w'.cell? ⟨q,3,none⟩=some (.slice ka kn kc)∧w'.cell? ⟨q,4,none⟩=some (.slice (some ⟨b4,o4,none⟩) n cc)∧w'.cell? ⟨xb,0,none⟩=some (iv y1)∧w'.cell? ⟨xb,1,none⟩=some (iv y2)) (U.drewN 1):=(HSS.o (U.drewN 1) (Qp (Below.refl _ _) 1));refine Zc 0 (some 38) [3,5,9,12] ?v50 hS0 ?run50 ?rest50
    case run50=>intro w hS;obtain⟨s0,s1,s2,s3,s4,s5,s6⟩:=hS;go_simp;rfl
    refine Zc 1 (some 39) [2,3,5,9,12] ?v51 hS0 ?run51 ?rest51
    case run51=>intro w hS;obtain⟨s0,s1,s2,s3,s4,s5,s6⟩:=hS;go_simp;rfl
    refine Zc 2 (some 40) [3,5,9,12] ?v52 hS0 ?run52 ?rest52
    case run52=>intro w hS;obtain⟨s0,s1,s2,s3,s4,s5,s6⟩:=hS;go_simp;rfl
    refine QP 3 (some 41) 137 #[.agg #[iv gw,.slice ga gn gc,iv kw,.slice ka kn kc,.slice (some ⟨b4,o4,none⟩) n cc],iv y1] rfl (by kernel_rfl) (by kernel_rfl) (by kernel_rfl) rfl ?_;refine(KB1.o (U.drewN 1)).mono ?_;rintro e m1 ⟨rfl,b1⟩;have BB1:=Zh ((Qp (Below.refl U.heap.size U) 1).trans b1);clear hS0 b1;have hS0:=HSS.o _ BB1.o;refine⟨_,rfl,fun _=>hS0,?_⟩;refine Zc 4 (some 42) [5,9,12] ?v53 hS0 ?run53 ?rest53
    case run53=>intro w hS;obtain⟨s0,s1,s2,s3,s4,s5,s6⟩:=hS;go_simp;rfl
    refine Zc 5 (some 43) [9,12] ?v54 hS0 ?run54 ?rest54
    case run54=>intro w hS;obtain⟨s0,s1,s2,s3,s4,s5,s6⟩:=hS;go_simp;rfl
    refine Zc 6 (some 44) [9,12] ?v55 hS0 ?run55 ?rest55
    case run55=>intro w hS;obtain⟨s0,s1,s2,s3,s4,s5,s6⟩:=hS;go_simp;rfl
    refine Zc 7 (some 45) [8,9,12] ?v56 hS0 ?run56 ?rest56
    case run56=>intro w hS;obtain⟨s0,s1,s2,s3,s4,s5,s6⟩:=hS;go_simp;rfl
    refine Zc 8 (some 46) [9,12] ?v57 hS0 ?run57 ?rest57
    case run57=>intro w hS;obtain⟨s0,s1,s2,s3,s4,s5,s6⟩:=hS;go_simp;rfl
    refine QP 9 (some 47) 137 #[.agg #[iv gw,.slice ga gn gc,iv kw,.slice ka kn kc,.slice (some ⟨b4,o4,none⟩) n cc],iv y2] rfl (by kernel_rfl) (by kernel_rfl) (by kernel_rfl) rfl ?_;refine(KB2.o m1).mono ?_;rintro e m2 ⟨rfl,b2⟩;have BB2:=Zh (BB1.o.trans (b2.mono BB1.o.size));clear hS0 b2;have hS0:=HSS.o _ BB2.o;refine⟨_,rfl,fun _=>hS0,?_⟩;refine Zc 10 (some 48) [11,12] ?v58 hS0 ?run58 ?rest58
    case run58=>intro w hS;obtain⟨s0,s1,s2,s3,s4,s5,s6⟩:=hS;go_simp;rfl
    refine Zc 11 (some 49) [12] ?v59 hS0 ?run59 ?rest59
    case run59=>intro w hS;obtain⟨s0,s1,s2,s3,s4,s5,s6⟩:=hS;go_simp;rfl
    refine Zd 12 (some 50) ?v60 hS0 ?run60 ?rest60
    case run60=>intro w hS;obtain⟨s0,s1,s2,s3,s4,s5,s6⟩:=hS;go_simp;rfl
    refine Zc 13 (some 51) [14,15,25] ?v61 hS0 ?run61 ?rest61
    case run61=>intro w hS;obtain⟨s0,s1,s2,s3,s4,s5,s6⟩:=hS;go_simp;rfl
    refine Zc 14 (some 52) [15,25] ?v62 hS0 ?run62 ?rest62
    case run62=>intro w hS;obtain⟨s0,s1,s2,s3,s4,s5,s6⟩:=hS;go_simp;rfl
    refine Zc 15 (some 53) [25] ?v63 hS0 ?run63 ?rest63
    case run63=>intro w hS;obtain⟨s0,s1,s2,s3,s4,s5,s6⟩:=hS;go_simp;rfl
    refine Zk 16 (some 54) [17,20,21,23,24,25] hS0 ?_;refine Zk 17 (some 55) [20,21,23,24,25] hS0 ?_;refine Zk 18 (some 56) [19,20,21,23,24,25] hS0 ?_;refine Zk 19 (some 57) [20,21,23,24,25] hS0 ?_;refine Zk 20 (some 58) [21,23,24,25] hS0 ?_;refine Zk 21 (some 59) [23,24,25] hS0 ?_;refine Zk 22 (some 60) [23,24,25] hS0 ?_;refine Zk 23 (some 61) [24,25] hS0 ?_;refine Zk 24 (some 62) [25] hS0 ?_;refine Zd 25 (some 63) ?v73 hS0 ?run73 ?rest73
    case run73=>intro w hS;obtain⟨s0,s1,s2,s3,s4,s5,s6⟩:=hS;go_simp;rfl
    refine QW 26 (some 64) (.bool false) m2 rfl (by kernel_rfl) (by kernel_rfl) (by go_simp) rfl (fun h=>absurd rfl h) ?_;refine Qu (by kernel_rfl) ?_ _;generalize hA:Act.put _ _ _=A0;simp only [Qba,Qaa,Zu,Zv,Zw] at hA;subst hA;have BF:=Zh (FIN2.o _ BB2.o);clear hS0;go_wp2;go_roundw
    case rel=>exact⟨1,by omega,by first|rfl|go_num,BF,BF.o.size,HF⟩
    case measure=>simp [intOf];omega
   ·have hkp:0<k:=by omega
    have hkI:(0:Int)<(k:Int):=by omega
    obtain⟨p,hp⟩:∃p,cs[k-1]? = some p:=⟨_,List.getElem?_eq_getElem (by rw [HN.o];omega)⟩;obtain⟨b5,o5,e5,hb5,g0,g1⟩:=HC.o (k-1) p hp;injection e5 with e5
    injection e5 with e5 e6
    subst e5 e6;have HPV:=Zh (show Qke cs k=some p by unfold Qke;rw [if_neg hk0,hp]);obtain⟨p1,p2⟩:=p;simp only at g0 g1;have BAU:=HBA.o.trans (BU.o.mono (by have:=HBA.o.size;have:=HXB.o;have:=HQ.o;omega));have g0:=(BAU.cell (p:=⟨b4,o4+(k-1)*2,none⟩) hbq).trans g0;have g1:=(BAU.cell (p:=⟨b4,o4+(k-1)*2+1,none⟩) hbq).trans g1;have hbU:b4<U.heap.size:=by have:=Qb HXU.o;omega
    have HSS:=Zh (show ∀w',Below U.heap.size U w'→(w'.cell? ⟨q,0,none⟩=some (iv gw)∧w'.cell? ⟨q,1,none⟩=some (.slice ga gn gc)∧w'.cell? ⟨q,2,none⟩=some (iv kw)∧w'.cell? ⟨q,3,none⟩=some (.slice ka kn kc)∧w'.cell? ⟨q,4,none⟩=some (.slice (some ⟨b4,o4,none⟩) n cc)∧w'.cell? ⟨xb,0,none⟩=some (iv y1)∧w'.cell? ⟨xb,1,none⟩=some (iv y2)∧w'.cell? ⟨b4,o4+(k-1)*2,none⟩=some (iv p1)∧w'.cell? ⟨b4,o4+(k-1)*2+1,none⟩=some (iv p2)) from fun w' hb=>by
     obtain⟨a0,a1,a2,a3,a4,c0,c1⟩:=HS0.o w' hb;exact⟨a0,a1,a2,a3,a4,c0,c1,(hb.cell (p:=⟨b4,_,none⟩) hbU).trans g0,(hb.cell (p:=⟨b4,_,none⟩) hbU).trans g1⟩)
    have hbf:=QMs (p1,p2) (y1,y2);have hcm:=fun (x:World)=>Qen p1 p2 y1 y2 x
    generalize cmpC (p1,p2) (y1,y2)=cm at hbf hcm;have KC:=Zh hcm;have HBF:=Zh hbf;have hk1:((k:Int)-1)=((k-1:Nat):Int):=by omega
    have HF:=Zh (show r=(befC (p1,p2) (y1,y2)&&Qnc gw (Qke cs (k+1)) (cs.drop (k+1))) by rw [HRk.o,HST.o,HIN.o,HPV.o];simp);have hkw:IntKind.i64.wrap ((k-1:Nat):Int)=((k-1:Nat):Int):=IntWalk.i64_in _ (by omega);have hk2:(0:Int)≤((k-1:Nat):Int):=by omega
    have hk3:((k-1:Nat):Int)<(n:Int):=by omega
    clear hp g0 g1 BAU hbf hcm hk0;refine QK (S:=fun w'=>w'.cell? ⟨q,0,none⟩=some (iv gw)∧w'.cell? ⟨q,1,none⟩=some (.slice ga gn gc)∧w'.cell? ⟨q,2,none⟩=some (iv kw)∧w'.cell? ⟨q,3,none⟩=some (.slice ka kn kc)∧w'.cell? ⟨q,4,none⟩=some (.slice (some ⟨b4,o4,none⟩) n cc)∧w'.cell? ⟨xb,0,none⟩=some (iv y1)∧w'.cell? ⟨xb,1,none⟩=some (iv y2)∧w'.cell? ⟨b4,o4+(k-1)*2,none⟩=some (iv p1)∧w'.cell? ⟨b4,o4+(k-1)*2+1,none⟩=some (iv p2)) (st:=26) (by kernel_rfl) ?_;have hS0:(fun w':World=>w'.cell? ⟨q,0,none⟩=some (iv gw)∧w'.cell? ⟨q,1,none⟩=some (.slice ga gn gc)∧w'.cell? ⟨q,2,none⟩=some (iv kw)∧w'.cell? ⟨q,3,none⟩=some (.slice ka kn kc)∧w'.cell? ⟨q,4,none⟩=some (.slice (some ⟨b4,o4,none⟩) n cc)∧w'.cell? ⟨xb,0,none⟩=some (iv y1)∧w'.cell? ⟨xb,1,none⟩=some (iv y2)∧w'.cell? ⟨b4,o4+(k-1)*2,none⟩=some (iv p1)∧w'.cell? ⟨b4,o4+(k-1)*2+1,none⟩=some (iv p2)) (U.drewN 1):=(HSS.o (U.drewN 1) (Qp (Below.refl _ _) 1));refine Zc 0 (some 38) [3,5,9,12] ?v74 hS0 ?run74 ?rest74
    case run74=>intro w hS;obtain⟨s0,s1,s2,s3,s4,s5,s6,s7,s8⟩:=hS;go_simp;rfl
    refine Zc 1 (some 39) [2,3,5,9,12] ?v75 hS0 ?run75 ?rest75
    case run75=>intro w hS;obtain⟨s0,s1,s2,s3,s4,s5,s6,s7,s8⟩:=hS;go_simp;rfl
    refine Zc 2 (some 40) [3,5,9,12] ?v76 hS0 ?run76 ?rest76
    case run76=>intro w hS;obtain⟨s0,s1,s2,s3,s4,s5,s6,s7,s8⟩:=hS;go_simp;rfl
    refine QP 3 (some 41) 137 #[.agg #[iv gw,.slice ga gn gc,iv kw,.slice ka kn kc,.slice (some ⟨b4,o4,none⟩) n cc],iv y1] rfl (by kernel_rfl) (by kernel_rfl) (by kernel_rfl) rfl ?_;refine(KB1.o (U.drewN 1)).mono ?_;rintro e m1 ⟨rfl,b1⟩;have BB1:=Zh ((Qp (Below.refl U.heap.size U) 1).trans b1);clear hS0 b1;have hS0:=HSS.o _ BB1.o;refine⟨_,rfl,fun _=>hS0,?_⟩;refine Zc 4 (some 42) [5,9,12] ?v77 hS0 ?run77 ?rest77
    case run77=>intro w hS;obtain⟨s0,s1,s2,s3,s4,s5,s6,s7,s8⟩:=hS;go_simp;rfl
    refine Zc 5 (some 43) [9,12] ?v78 hS0 ?run78 ?rest78
    case run78=>intro w hS;obtain⟨s0,s1,s2,s3,s4,s5,s6,s7,s8⟩:=hS;go_simp;rfl
    refine Zc 6 (some 44) [9,12] ?v79 hS0 ?run79 ?rest79
    case run79=>intro w hS;obtain⟨s0,s1,s2,s3,s4,s5,s6,s7,s8⟩:=hS;go_simp;rfl
    refine Zc 7 (some 45) [8,9,12] ?v80 hS0 ?run80 ?rest80
    case run80=>intro w hS;obtain⟨s0,s1,s2,s3,s4,s5,s6,s7,s8⟩:=hS;go_simp;rfl
    refine Zc 8 (some 46) [9,12] ?v81 hS0 ?run81 ?rest81
    case run81=>intro w hS;obtain⟨s0,s1,s2,s3,s4,s5,s6,s7,s8⟩:=hS;go_simp;rfl
    refine QP 9 (some 47) 137 #[.agg #[iv gw,.slice ga gn gc,iv kw,.slice ka kn kc,.slice (some ⟨b4,o4,none⟩) n cc],iv y2] rfl (by kernel_rfl) (by kernel_rfl) (by kernel_rfl) rfl ?_;refine(KB2.o m1).mono ?_;rintro e m2 ⟨rfl,b2⟩;have BB2:=Zh (BB1.o.trans (b2.mono BB1.o.size));clear hS0 b2;have hS0:=HSS.o _ BB2.o;refine⟨_,rfl,fun _=>hS0,?_⟩;refine Zc 10 (some 48) [11,12] ?v82 hS0 ?run82 ?rest82
    case run82=>intro w hS;obtain⟨s0,s1,s2,s3,s4,s5,s6,s7,s8⟩:=hS;go_simp;rfl
    refine Zc 11 (some 49) [12] ?v83 hS0 ?run83 ?rest83
    case run83=>intro w hS;obtain⟨s0,s1,s2,s3,s4,s5,s6,s7,s8⟩:=hS;go_simp;rfl
    refine Zd 12 (some 50) ?v84 hS0 ?run84 ?rest84
    case run84=>intro w hS;obtain⟨s0,s1,s2,s3,s4,s5,s6,s7,s8⟩:=hS;go_simp;rfl
    refine Zc 13 (some 51) [14,15,25] ?v85 hS0 ?run85 ?rest85
    case run85=>intro w hS;obtain⟨s0,s1,s2,s3,s4,s5,s6,s7,s8⟩:=hS;go_simp;rfl
    refine Zc 14 (some 52) [15,25] ?v86 hS0 ?run86 ?rest86
    case run86=>intro w hS;obtain⟨s0,s1,s2,s3,s4,s5,s6,s7,s8⟩:=hS;go_simp;rfl
    refine Zc 15 (some 53) [25] ?v87 hS0 ?run87 ?rest87
    case run87=>intro w hS;obtain⟨s0,s1,s2,s3,s4,s5,s6,s7,s8⟩:=hS;go_simp;rfl
    refine Zc 16 (some 54) [17,20,21,23,24,25] ?v88 hS0 ?run88 ?rest88
    case run88=>intro w hS;obtain⟨s0,s1,s2,s3,s4,s5,s6,s7,s8⟩:=hS;go_simp;rfl
    refine Zc 17 (some 55) [20,21,23,24,25] ?v89 hS0 ?run89 ?rest89
    case run89=>intro w hS;obtain⟨s0,s1,s2,s3,s4,s5,s6,s7,s8⟩:=hS;go_simp;rfl
    refine Zc 18 (some 56) [19,20,21,23,24,25] ?v90 hS0 ?run90 ?rest90
    case run90=>intro w hS;obtain⟨s0,s1,s2,s3,s4,s5,s6,s7,s8⟩:=hS;go_simp;rfl
    refine Zc 19 (some 57) [20,21,23,24,25] ?v91 hS0 ?run91 ?rest91
    case run91=>intro w hS;obtain⟨s0,s1,s2,s3,s4,s5,s6,s7,s8⟩:=hS;go_simp;rfl
    refine Zc 20 (some 58) [21,23,24,25] ?v92 hS0 ?run92 ?rest92
    case run92=>intro w hS;obtain⟨s0,s1,s2,s3,s4,s5,s6,s7,s8⟩:=hS;go_simp;rfl
    refine Zc 21 (some 59) [23,24,25] ?v93 hS0 ?run93 ?rest93
    case run93=>intro w hS;obtain⟨s0,s1,s2,s3,s4,s5,s6,s7,s8⟩:=hS;go_simp;rfl
    refine Zc 22 (some 60) [23,24,25] ?v94 hS0 ?run94 ?rest94
    case run94=>intro w hS;obtain⟨s0,s1,s2,s3,s4,s5,s6,s7,s8⟩:=hS;go_simp;rfl
    refine QP 23 (some 61) 138 #[.agg #[iv p1,iv p2],.agg #[iv y1,iv y2]] rfl (by kernel_rfl) (by kernel_rfl) (by kernel_rfl) rfl ?_;refine(KC.o m2).mono ?_;rintro e m3 ⟨rfl,b3⟩;have BB3:=Zh (BB2.o.trans (b3.mono BB2.o.size));clear hS0 b3;have hS0:=HSS.o _ BB3.o;refine⟨_,rfl,fun _=>hS0,?_⟩;refine Zc 24 (some 62) [25] ?v95 hS0 ?run95 ?rest95
    case run95=>intro w hS;obtain⟨s0,s1,s2,s3,s4,s5,s6,s7,s8⟩:=hS;go_simp;rfl
    refine Zd 25 (some 63) ?v96 hS0 ?run96 ?rest96
    case run96=>intro w hS;obtain⟨s0,s1,s2,s3,s4,s5,s6,s7,s8⟩:=hS;go_simp;rfl
    refine QW 26 (some 64) (.bool (decide (0≤cm))) m3 rfl (by kernel_rfl) (by kernel_rfl) (by go_simp) rfl (fun h=>absurd rfl h) ?_;refine Qu (by kernel_rfl) ?_ _;generalize hA:Act.put _ _ _=A0;simp only [Qba,Qaa,Zu,Zv,Zw] at hA;subst hA;have BF:=Zh (FIN.o _ BB3.o);have BF2:=Zh (FIN2.o _ BB3.o);clear hS0;by_cases hc0:0≤cm
    ·have HF2:=Zh (show r=false by
      rw [HF.o];have:=HBF.o;rw [show decide (0≤cm)=true by simpa using hc0] at this;rw [show befC (p1,p2) (y1,y2)=false by simpa using this.symm];rfl)
     go_wp2;go_ret;exact⟨Qyb HF2.o.symm,BF.o⟩
    ·have HF2:=Zh (show r=Qnc gw (Qke cs (k+1)) (cs.drop (k+1)) by
      rw [HF.o];have:=HBF.o;rw [show decide (0≤cm)=false by simpa using hc0] at this;rw [show befC (p1,p2) (y1,y2)=true by simpa using this.symm];rfl)
     go_wp2;go_roundw
     case rel=>exact⟨k+1,by omega,by go_num,BF2,BF2.o.size,HF2⟩
     case measure=>simp [intOf];omega
end
end Go.Proofs.YtijekimobahgpaaGreatDoor
