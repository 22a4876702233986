/- A part of the proof. -/
import Derived.Test.YtijekimobahgpaaGreatDoorMq10
set_option linter.unusedVariables false
set_option linter.unusedSimpArgs false
set_option linter.unusedSectionVars false
set_option maxRecDepth 100000
set_option maxHeartbeats 16000000
namespace Go.Proofs.YtijekimobahgpaaGreatDoor
section
open Go.RowKit
variable [Base]
abbrev SYT:TypeId:=36
abbrev GRT:TypeId:=46
structure QKd (w:World) (dv tv bv:Value) (s:SysS):Prop where
 deps:Qoa Qqc w dv s.deps
 trans:Qoa trEl w tv s.trans
 bnds:Qoa Qsa w bv s.bnds
theorem QKd.keep {w w':World} {dv tv bv:Value} {s:SysS} (h:QKd w dv tv bv s) (hs:∀U∈[IT,IN,FNA,ST,139,CT],Qf U w w'):QKd w' dv tv bv s:=
 ⟨h.deps.keep fun U hU=>hs U (by simp [Qqc] at hU;rcases hU with rfl|rfl <;> simp),h.trans.keep fun U hU=>hs U (by simp [trEl] at hU;rcases hU with rfl|rfl|rfl <;> simp),h.bnds.keep fun U hU=>hs U (by simp [Qsa] at hU;rcases hU with rfl|rfl <;> simp)⟩
theorem QKd.below {w w':World} {dv tv bv:Value} {s:SysS} (h:QKd w dv tv bv s) (b:Below w.heap.size w w'):QKd w' dv tv bv s:=h.keep fun _ _=>Qf.below b
abbrev sysV (s:SysS) (dv tv bv:Value):Value:=.agg #[iv s.width,dv,tv,bv]
def SysE (r:SysS×Int) (w:World) (e:Ending) (w':World):Prop:=∃dv tv bv,e=.returned (.tuple #[sysV r.1 dv tv bv,iv r.2])∧QKd w' dv tv bv r.1∧Below w.heap.size w w'
theorem Qiu {w:World} {b:Nat} {a0 a1 a2 a3:Value} {t:TypeId} {fr:Nat×Nat} (h:w.heap[b]? = some (.cells #[a0,a1,a2,a3] t fr)) (x:Value):
  (w.setCell ⟨b,2,none⟩ x).heap[b]? = some (.cells #[a0,a1,x,a3] t fr):=by
 simp [World.setCell,Array.getElem?_modify,h]
theorem Qhu {w:World} {b:Nat} {a0 a1 a2 a3:Value} {t:TypeId} {fr:Nat×Nat} (h:w.heap[b]? = some (.cells #[a0,a1,a2,a3] t fr)) (x:Value):
  (w.setCell ⟨b,3,none⟩ x).heap[b]? = some (.cells #[a0,a1,a2,x] t fr):=by
 simp [World.setCell,Array.getElem?_modify,h]
theorem Qsg {T U:TypeId} {w:World} {b:Nat} (h:tyAt w b=some U) (hne:T≠U) (x0 x1 x2 x3:Value):Qf T w ((((w.setCell ⟨b,0,none⟩ x0).setCell ⟨b,1,none⟩ x1).setCell ⟨b,2,none⟩ x2).setCell ⟨b,3,none⟩ x3):=by
 have s:∀(w:World) (o:Nat) (x:Value),tyAt w b=some U→Qf T w (w.setCell ⟨b,o,none⟩ x)∧tyAt (w.setCell ⟨b,o,none⟩ x) b=some U:=fun w o x h=>⟨Qf.setCell h hne,by rw [QS];exact h⟩
 have s0:=s w 0 x0 h;have s1:=s _ 1 x1 s0.2;have s2:=s _ 2 x2 s1.2;have s3:=s _ 3 x3 s2.2;exact s0.1.trans (s1.1.trans (s2.1.trans s3.1))
structure OfS (oq m:Nat) (w8 w:World) (dv tv bv:Value) (ts:List Qw) (bs:List QSet):Prop where
 bsz:Base.b≤oq
 zs:w8.heap.size=oq
 below:Below oq w8 w
 ob:w.heap[oq]? = some (.cells #[iv m,dv,tv,bv] SYT (0,0))
 tr:QG trEl (oq+1) w tv ts
 bd:QG Qsa (oq+1) w bv bs
section
variable {oq m:Nat} {w8 w w':World} {dv tv bv:Value} {ts:List Qw} {bs:List QSet}
theorem OfS.lt (h:OfS oq m w8 w dv tv bv ts bs):oq<w.heap.size:=Qb h.ob
theorem OfS.next (h:OfS oq m w8 w dv tv bv ts bs) (b:Below w.heap.size w w'):OfS oq m w8 w' dv tv bv ts bs:=
 ⟨h.bsz,h.zs,h.below.trans (b.mono (by have:=h.lt;omega)),Qc h.ob b (Qb h.ob),h.tr.below b,h.bd.below b⟩
theorem OfS.pushT (h:OfS oq m w8 w dv tv bv ts bs) {xss:List (List Value)} (ho:w.ownsRow (oq+1) FNA 5 tv ts.length xss.flatten) (hx:All2 (trEl.C w) xss ts) {t:Qw} {gu ku cu:Value} (ht:Qja w gu ku cu t) {g cap:Nat}
  (ho2:w'.ownsRow (oq+1) FNA 5 (.slice (some ⟨g,0,none⟩) (ts.length+1) cap) (ts.length+1) (xss.flatten++[iv t.gen.width,gu,iv t.kill.width,ku,cu])) (hg:w.grownBy w' tv.ownBlock):
  OfS oq m w8 (w'.setCell ⟨oq,2,none⟩ (.slice (some ⟨g,0,none⟩) (ts.length+1) cap)) dv (.slice (some ⟨g,0,none⟩) (ts.length+1) cap) bv (ts++[t]) bs∧w'.heap[oq]? = some (.cells #[iv m,dv,tv,bv] SYT (0,0)):=by
 have hlt:=h.lt;have hbz:=h.bsz;have hzw:oq+1≤w.heap.size:=hlt;have hbw:Below (oq+1) w w':=Below.of_grown hg ho hzw;have hob:w'.heap[oq]? = some (.cells #[iv m,dv,tv,bv] SYT (0,0)):=(hbw.block oq (by omega)).trans h.ob;have hT:tyAt w' oq=some SYT:=Qv hob (by omega);have hs:∀U,U≠FNA→U≠SYT→Qf U w (w'.setCell ⟨oq,2,none⟩ (.slice (some ⟨g,0,none⟩) (ts.length+1) cap)):=fun U h1 h2=>(Qf.grown hg ho h1).trans (Qf.setCell (U:=SYT) hT h2)
 refine⟨⟨h.bsz,h.zs,(h.below.trans (hbw.mono (by omega))).setCell (by show oq≤oq;omega) _,Qiu hob _,?_,?_⟩,hob⟩
 ·refine QG.snoc (E:=trEl) (v:=tv) (Qza ho2 hT (show FNA≠SYT by decide)) (hx.mono fun _ _ hc=>trEl.keep (fun U hU=>?_) hc) ⟨gu,ku,cu,rfl,ht.keep (hs _ (by decide) (by decide)) (hs _ (by decide) (by decide))⟩;have h2:U=139∨U=CT:=by simpa [trEl] using hU
  rcases h2 with rfl|rfl
  ·exact hs _ (by decide) (by decide)
  ·exact hs _ (by decide) (by decide)
 ·obtain⟨yss,hy,hyx⟩:=h.bd;refine⟨yss,Qza (QWb hy ho hg (show ST≠FNA by decide)) hT (show ST≠SYT by decide),hyx.mono fun _ _ hc=>Qsa.keep (fun U hU=>?_) hc⟩;obtain rfl:U=139:=by simpa [Qsa] using hU
  exact hs _ (by decide) (by decide)
theorem OfS.pushB (h:OfS oq m w8 w dv tv bv ts bs) {xss:List (List Value)} (ho:w.ownsRow (oq+1) ST 2 bv bs.length xss.flatten) (hx:All2 (Qsa.C w) xss bs) {s:QSet} {u:Value} (ht:Qi w u s.words) {g cap:Nat}
  (ho2:w'.ownsRow (oq+1) ST 2 (.slice (some ⟨g,0,none⟩) (bs.length+1) cap) (bs.length+1) (xss.flatten++[iv s.width,u])) (hg:w.grownBy w' bv.ownBlock):
  OfS oq m w8 (w'.setCell ⟨oq,3,none⟩ (.slice (some ⟨g,0,none⟩) (bs.length+1) cap)) dv tv (.slice (some ⟨g,0,none⟩) (bs.length+1) cap) ts (bs++[s])∧w'.heap[oq]? = some (.cells #[iv m,dv,tv,bv] SYT (0,0)):=by
 have hlt:=h.lt;have hbz:=h.bsz;have hzw:oq+1≤w.heap.size:=hlt;have hbw:Below (oq+1) w w':=Below.of_grown hg ho hzw;have hob:w'.heap[oq]? = some (.cells #[iv m,dv,tv,bv] SYT (0,0)):=(hbw.block oq (by omega)).trans h.ob;have hT:tyAt w' oq=some SYT:=Qv hob (by omega);have hs:∀U,U≠ST→U≠SYT→Qf U w (w'.setCell ⟨oq,3,none⟩ (.slice (some ⟨g,0,none⟩) (bs.length+1) cap)):=fun U h1 h2=>(Qf.grown hg ho h1).trans (Qf.setCell (U:=SYT) hT h2)
 refine⟨⟨h.bsz,h.zs,(h.below.trans (hbw.mono (by omega))).setCell (by show oq≤oq;omega) _,Qhu hob _,?_,?_⟩,hob⟩
 ·obtain⟨yss,hy,hyx⟩:=h.tr;refine⟨yss,Qza (QWb hy ho hg (show FNA≠ST by decide)) hT (show FNA≠SYT by decide),hyx.mono fun _ _ hc=>trEl.keep (fun U hU=>?_) hc⟩;have h2:U=139∨U=CT:=by simpa [trEl] using hU
  rcases h2 with rfl|rfl
  ·exact hs _ (by decide) (by decide)
  ·exact hs _ (by decide) (by decide)
 ·refine QG.snoc (E:=Qsa) (v:=bv) (Qza ho2 hT (show ST≠SYT by decide)) (hx.mono fun _ _ hc=>Qsa.keep (fun U hU=>?_) hc) ⟨u,rfl,ht.keep (hs _ (by decide) (by decide))⟩;obtain rfl:U=139:=by simpa [Qsa] using hU
  exact hs _ (by decide) (by decide)
end
theorem QFi:(Tryz.prog.info? FNA).map (fun i=>(i.zero,i.size,i.bytes))=some (some (Value.agg #[iv 0,.slice none 0 0,iv 0,.slice none 0 0,.slice none 0 0]),5,88):=by kernel_rfl
theorem Qwi {α β:Type} {l:List α} {k:Nat} {x:α} (f:Nat→α→β) (h:l[k]? = some x):(l.take (k+1)).mapIdx f=(l.take k).mapIdx f++[f k x]:=by
 rw [List.take_add_one,h];have hl:(l.take k).length=k:=by
  have:=(List.getElem?_eq_some_iff.1 h).1;rw [List.length_take];omega
 simp [List.mapIdx_append,hl]
end
section
variable [Base]
open Go
section
variable {P:Program} {ops:Array Oper} {Q:Exit→Act→World→Prop} {md:Region.Mode} {S:World→Prop}
def QSe (P:Program) (md:Region.Mode) (ops:Array Oper) (Q:Exit→Act→World→Prop) (S:World→Prop) (st:Nat):Nat→Array Bool→Act→World→Prop
|0,listed,a,w=>Region.ready md ops listed=[]∧Q .normal a w
|fuel+1,listed,a,w=>
  (Region.ready md ops listed=[]→Q .normal a w) ∧
  ∀i∈Region.ready md ops listed,wpOp P ops Q i (fun a' w'=>(i<st→S w')∧QSe P md ops Q S st fuel (listed.setIfInBounds i true) a' w') a w
theorem QLi {st:Nat}:∀(fuel:Nat) (listed:Array Bool) (a:Act) (w:World),QSe P md ops Q S st fuel listed a w→wpAny P md ops Q fuel listed a w
|0,_,_,_,h=>h
|fuel+1,_,_,_,h=>⟨h.1,fun i hi=>wpOp_mono (fun a' w' h'=>QLi fuel _ a' w' h'.2) (h.2 i hi)⟩
def Qlo (md:Region.Mode) (ops:Array Oper) (st:Nat):Bool:=(List.range ops.size).all fun j=>!decide (st<j)||Qcg md ops j st
theorem QGt {st j:Nat} {listed:Array Bool} (hl:Qlo md ops st=true) (hs:listed.getD st true=false) (hst:st∉Region.ready md ops listed) (hj:j∈Region.ready md ops listed):j<st:=by
 rcases Nat.lt_trichotomy j st with h|h|h
 ·exact h
 ·exact absurd (h▸hj) hst
 ·exfalso;obtain⟨_,o,ho,_⟩:=mem_ready.1 hj;have hjs:j<ops.size:=(Array.getElem?_eq_some_iff.1 ho).1;have h1:=List.all_eq_true.1 hl j (List.mem_range.2 hjs);simp only [h,decide_true,Bool.not_true,Bool.false_or] at h1;exact QXb h1 (QYb hs) hj
theorem QWj {st i:Nat} {oi:Oper} {v:Value} (cs:List Nat) (hi:ops[i]? = some oi) (hsel:∀(j:Nat) (o:Oper) cs b,ops[j]? = some o→o.op≠.select cs b) (hw:QQe md ops st i cs=true) (hlate:Qlo md ops st=true)
  (hQ:∀c a w,Q (.panic c) (a.put oi.dst v) w→Q (.panic c) a w):
  ∀(fuel:Nat) (listed:Array Bool) (a:Act) (w:World),
   (∀j oj,ops[j]? = some oj→j≠i→listed.getD j true=false→(∀e∈oj.after,Region.binds md e=true→e.on≠i)→oi.apart ops oj=true) →
   (∀c∈cs,listed.getD c true=false)→listed.getD st true=false →
   i∈Region.ready md ops listed→YieldsIf P ops S oi v a→S w →
   QSe P md ops Q S st fuel (listed.setIfInBounds i true) (a.put oi.dst v) w→QSe P md ops Q S st (fuel+1) listed a w:=by
 intro fuel
 induction fuel with
|zero=>
  intro listed a w _ _ _ hr hy hS H;refine⟨fun h=>(by rw [h] at hr;cases hr),fun j hj=>?_⟩;by_cases hji:j=i
  ·subst hji;exact hy.wpOp hi hS ⟨fun _=>hS,H⟩
  ·have:=ready_mono hj hji;rw [H.1] at this
   cases this
|succ fuel ih=>
  intro listed a w hfree hcs hsun hr hy hS H;refine⟨fun h=>(by rw [h] at hr;cases hr),fun j hj=>?_⟩;by_cases hji:j=i
  ·subst hji;exact hy.wpOp hi hS ⟨fun _=>hS,H⟩
  ·have hiun:=QYb (mem_ready.1 hr).1;have hno:=QNj cs i hw (mem_ready.1 hr).1 hcs;have hjlt:j<st:=QGt hlate hsun hno.2 hj;have hjst:j≠st:=Nat.ne_of_lt hjlt;have hjc:∀c∈cs,j≠c:=fun c hc h=>hno.1 c hc (h▸hj)
   obtain⟨hjun,oj,hoj,hall⟩:=mem_ready.1 hj;have hnot:∀e∈oj.after,Region.binds md e=true→e.on≠i:=fun e he hb heq=>by
    have h1:=hall e he hb;rw [heq,hiun] at h1
    cases h1
   have hstep:=wpOp_putIf hoj (hfree j oj hoj hji hjun hnot) (fun cs b=>hsel i oi cs b hi) (fun cs b=>hsel j oj cs b hoj) hQ hy (H.2 j (ready_mono hj hji));refine wpOp_mono (fun a' w' h3=>⟨h3.2.1,ih (listed.setIfInBounds j true) a' w' ?_ ?_ (by rw [getD_set_ne true hjst];exact hsun) (ready_mono hr (Ne.symm hji)) h3.1 (h3.2.1 hjlt) ?_⟩) hstep
   ·intro k ok hk hki hun hno;refine hfree k ok hk hki ?_ hno;by_cases hjk:j=k
    ·subst hjk;exact hjun
    ·rw [getD_set_ne true hjk] at hun;exact hun
   ·intro c hc;rw [getD_set_ne true (hjc c hc)];exact hcs c hc
   ·rw [Array.setIfInBounds_comm _ _ hji];exact h3.2.2
theorem QX {st:Nat} (i:Nat) (d:Option Tmp) (cs:List Nat) (v:Value) {oi:Oper} {fuel:Nat} {listed:Array Bool} {a:Act} {w:World} (hi:ops[i]? = some oi)
  (hs:Region.noSelect ops=true) (hf:Region.free md ops listed i=true) (hr:(Region.ready md ops listed).contains i=true) (hw:((QQe md ops st i cs&&cs.all fun c=>!listed.getD c true)&&(Qlo md ops st&&!listed.getD st true))=true)
  (hQ:∀c a w,Q (.panic c) (a.put oi.dst v) w→Q (.panic c) a w) (hS:S w) (hwant:Region.wanted oi (yielded ops a.tmps)=true)
  (hd:oi.dst=d) (hrun:∀w,S w→(execOp a.eval oi).run P w=.ok (.value v) w)
  (h:QSe P md ops Q S st fuel (listed.setIfInBounds i true) (a.put d v) w):QSe P md ops Q S st (fuel+1) listed a w:=by
 subst hd;simp only [Bool.and_eq_true,List.all_eq_true,Bool.not_eq_true'] at hw;exact QWj cs hi (Region.noSelect_spec hs) hw.1.1 hw.2.1 hQ fuel listed a w (Region.free_spec hi hf) hw.1.2 hw.2.2 (by simpa using hr) (.inl ⟨hwant,hrun⟩) hS h
theorem Qn {st:Nat} {rs:List Nat} {fuel:Nat} {listed:Array Bool} {a:Act} {w:World} (hr:Region.ready md ops listed=rs) (hne:rs≠[])
  (h:∀i∈rs,wpOp P ops Q i (fun a' w'=>(i<st→S w')∧QSe P md ops Q S st fuel (listed.setIfInBounds i true) a' w') a w):QSe P md ops Q S st (fuel+1) listed a w:=
 ⟨fun h0=>absurd (hr▸h0) hne,hr▸h⟩
theorem Qwa {st:Nat} {listed:Array Bool} {a:Act} {w:World} (hr:Region.ready md ops listed=[]) (h:Q .normal a w):∀fuel,QSe P md ops Q S st fuel listed a w
|0=>⟨hr,h⟩
|_+1=>⟨fun _=>h,by rw [hr];simp⟩
theorem Qdi {st:Nat} {id:Nat} {a:Act} {w:World} (hm:P.follows .mixedOrders=true)
  (h:QSe P .any ops Q S st ops.size (Array.replicate ops.size false) a (w.drewN 1)):(Code.region id ops true).wp P Q a w:=
 wp_region_any hm (QLi _ _ _ _ h)
end
theorem Zo {P:Program} {md:Region.Mode} {ops:Array Oper} {Q:Exit→Act→World→Prop} {S:World→Prop} {st:Nat} (i:Nat) {fuel:Nat} {listed:Array Bool} {a:Act} {w:World} (h:wpOp P ops Q i (fun a' w'=>(i<st→S w')∧QSe P md ops Q S st fuel (listed.setIfInBounds i true) a' w') a w) (hr:Region.ready md ops listed=[i]:=by kernel_rfl):QSe P md ops Q S st (fuel+1) listed a w:=
 Qn hr (by simp) fun j hj=>by
  obtain rfl:j=i:=by simpa using hj
  exact h
theorem Zl {P:Program} {md:Region.Mode} {ops:Array Oper} {Q:Exit→Act→World→Prop} {S:World→Prop} {st:Nat} (i:Nat) (d:Option Tmp) (cs:List Nat) (v:Value) {oi:Oper} {fuel:Nat} {listed:Array Bool} {a:Act} {w:World} (hS:S w) (hrun:∀w,S w→(execOp a.eval oi).run P w=.ok (.value v) w) (h:QSe P md ops Q S st fuel (listed.setIfInBounds i true) (a.put d v) w) (hi:ops[i]? = some oi:=by rfl) (hs:Region.noSelect ops=true:=by kernel_rfl) (hf:Region.free md ops listed i=true:=by kernel_rfl) (hr:(Region.ready md ops listed).contains i=true:=by kernel_rfl) (hw:((QQe md ops st i cs&&cs.all fun c=>!listed.getD c true)&&(Qlo md ops st&&!listed.getD st true))=true:=by kernel_rfl) (hQ:∀c a w,Q (.panic c) (a.put oi.dst v) w→Q (.panic c) a w:=by exact fun _ _ _ h=>h) (hwant:Region.wanted oi (yielded ops a.tmps)=true:=by kernel_rfl) (hd:oi.dst=d:=by rfl):QSe P md ops Q S st (fuel+1) listed a w:=QX i d cs v hi hs hf hr hw hQ hS hwant hd hrun h
end
section
open Go.RowKit
variable [Base]
section
variable {α:Type} {E:Qlg α} {z n k sz b:Nat} {w w':World} {v u x:Value} {l:List α} {U:TypeId} {ys news:List Value} {xss:List (List Value)} {y:α}
theorem QG.but {B bt:Nat} (h:QG E z w v l) (ht:QZ B w bt) (hb:But bt w w') (hz:bt<z) (hi:∀V∈E.inner,V≠85):QG E z w' v l:=by
 obtain⟨xss,ho,hx⟩:=h;exact⟨xss,Qzp (B:=B) ho hb hz,hx.mono fun _ _ hc=>E.keep (fun V hV=>hb.sameT ht (hi V hV)) hc⟩
theorem QG.grownT (h:QG E z w v l) (ho:w.ownsRow z U sz u k ys) (hg:w.grownBy w' u.ownBlock) (hne:E.T≠U) (hi:∀V∈E.inner,V≠U) (hbs:Base.b≤z):QG E z w' v l:=by
 obtain⟨xss,hy,hx⟩:=h;exact⟨xss,QWb hy ho hg hne,hx.mono fun _ _ hc=>E.keep (fun V hV=>Qf.grown hg ho (hi V hV)) hc⟩
theorem QG.push {g:Option Addr} {c:Nat} (ho:w.ownsRow z E.T E.sz v l.length xss.flatten) (hx:All2 (E.C w) xss l) (hg:w.grownBy w' v.ownBlock)
  (ho2:w'.ownsRow z E.T E.sz (.slice g (l.length+1) c) (l.length+1) (xss.flatten++news)) (hc:E.C w news y) (hi:∀V∈E.inner,V≠E.T) (hbs:Base.b≤z):QG E z w' (.slice g (l.length+1) c) (l++[y]):=by
 obtain⟨gb,rfl,-⟩:=QWd ho2 (by omega) hbs;exact QG.snoc (v:=v) ho2 (hx.mono fun _ _ hc=>E.keep (fun V hV=>Qf.grown hg ho (hi V hV)) hc) (E.keep (fun V hV=>Qf.grown hg ho (hi V hV)) hc)
theorem QG.off {o:Nat} (h:QG E z w v l) (hT:tyAt w b=some U) (hne:E.T≠U) (hi:∀V∈E.inner,V≠U):QG E z (w.setCell ⟨b,o,none⟩ x) v l:=by
 obtain⟨xss,hy,hx⟩:=h;exact⟨xss,Qza hy hT hne,hx.mono fun _ _ hc=>E.keep (fun V hV=>Qf.setCell (U:=U) hT (hi V hV)) hc⟩
end
theorem inI {U:TypeId} (hU:U≠IN):∀V∈Qqc.inner,V≠U:=fun V hV=>by
 obtain rfl:V=IN:=by simpa [Qqc] using hV
 exact fun h=>hU h.symm
theorem inS {U:TypeId} (hU:U≠139):∀V∈Qsa.inner,V≠U:=fun V hV=>by
 obtain rfl:V=139:=by simpa [Qsa] using hV
 exact fun h=>hU h.symm
theorem inF {U:TypeId} (hU:U≠139) (hC:U≠CT):∀V∈trEl.inner,V≠U:=fun V hV=>by
 have h2:V=139∨V=CT:=by simpa [trEl] using hV
 rcases h2 with rfl|rfl
 ·exact fun h=>hU h.symm
 ·exact fun h=>hC h.symm
structure DrS (B bt z q m:Nat) (w wr:World) (dv tv bv:Value) (ds:List (List Int)) (ts:List Qw) (bs:List QSet):Prop where
 tape:QZ B wr bt
 but:But bt w wr
 res:wr.heap[z]? = some (.cells #[iv 0,.slice none 0 0,.slice none 0 0,.slice none 0 0] SYT (0,0))
 cur:wr.heap[q]? = some (.cells #[iv m,dv,tv,bv] SYT (0,0))
 dp:QG Qqc (q+1) wr dv ds
 tr:QG trEl (q+1) wr tv ts
 bd:QG Qsa (q+1) wr bv bs
 old:w.heap.size≤z∧z<q∧bt<w.heap.size
structure DrK (B bt z q m p:Nat) (w wr:World) (kv bu:Value) (k:List Int) (s:QSet) (cd ct cb dv tv bv:Value) (ds:List (List Int)) (ts:List Qw) (bs:List QSet):Prop where
 tape:QZ B wr bt
 but:But bt w wr
 res:wr.heap[z]? = some (.cells #[iv 0,.slice none 0 0,.slice none 0 0,.slice none 0 0] SYT (0,0))
 cur:wr.heap[q]? = some (.cells #[iv m,cd,ct,cb] SYT (0,0))
 dp:QG Qqc (q+1) wr dv ds
 tr:QG trEl (q+1) wr tv ts
 bd:QG Qsa (q+1) wr bv bs
 pb:wr.heap[p]? = some (.cells #[iv m,bu] ST (0,0))
 kr:QJa wr kv k
 wb:Qi wr bu s.words
 old:w.heap.size≤z∧z<q∧bt<w.heap.size∧q<p
section
variable {B bt z q m p:Nat} {w wr w2:World} {kv bu:Value} {k:List Int} {s:QSet} {cd ct cb dv tv bv:Value} {ds:List (List Int)} {ts:List Qw} {bs:List QSet}
theorem DrS.qs (h:DrS B bt z q m w wr dv tv bv ds ts bs):q+1≤wr.heap.size:=Qb h.cur
theorem DrS.zb (h:DrS B bt z q m w wr dv tv bv ds ts bs):Base.b≤z:=by have:=h.tape.bs;have:=h.old;omega
theorem DrS.next (h:DrS B bt z q m w wr dv tv bv ds ts bs) (ht:QZ B w2 bt) (hb:But bt wr w2):DrS B bt z q m w w2 dv tv bv ds ts bs:=by
 obtain⟨o1,o2,o3⟩:=h.old;exact⟨ht,h.but.trans hb,(hb.block z (Qb h.res) (by omega)).trans h.res,(hb.block q (Qb h.cur) (by omega)).trans h.cur,h.dp.but h.tape hb (by omega) (inI (by decide)),h.tr.but h.tape hb (by omega) (inF (by decide) (by decide)),h.bd.but h.tape hb (by omega) (inS (by decide)),h.old⟩
theorem DrK.qs (h:DrK B bt z q m p w wr kv bu k s cd ct cb dv tv bv ds ts bs):q+1≤wr.heap.size:=Qb h.cur
theorem DrK.zb (h:DrK B bt z q m p w wr kv bu k s cd ct cb dv tv bv ds ts bs):Base.b≤z:=by have:=h.tape.bs;have:=h.old;omega
theorem DrK.next (h:DrK B bt z q m p w wr kv bu k s cd ct cb dv tv bv ds ts bs) (ht:QZ B w2 bt) (hb:But bt wr w2):DrK B bt z q m p w w2 kv bu k s cd ct cb dv tv bv ds ts bs:=by
 obtain⟨o1,o2,o3,o4⟩:=h.old;exact⟨ht,h.but.trans hb,(hb.block z (Qb h.res) (by omega)).trans h.res,(hb.block q (Qb h.cur) (by omega)).trans h.cur,h.dp.but h.tape hb (by omega) (inI (by decide)),h.tr.but h.tape hb (by omega) (inF (by decide) (by decide)),h.bd.but h.tape hb (by omega) (inS (by decide)),
  (hb.block p (Qb h.pb) (by omega)).trans h.pb,Qg.same h.kr (hb.sameT h.tape (by decide)),h.wb.keep (hb.sameT h.tape (by decide)),h.old⟩
theorem DrK.drew (h:DrK B bt z q m p w wr kv bu k s cd ct cb dv tv bv ds ts bs) (j:Nat):DrK B bt z q m p w (wr.drewN j) kv bu k s cd ct cb dv tv bv ds ts bs:=h.next (h.tape.drewN j) ((But.refl _ _).drewN j)
theorem DrK.alloc (h:DrK B bt z q m p w wr kv bu k s cd ct cb dv tv bv ds ts bs) (o:Obj):DrK B bt z q m p w (wr.alloc o) kv bu k s cd ct cb dv tv bv ds ts bs:=h.next (h.tape.alloc o) ((But.refl _ _).alloc o)
theorem DrK.grow {T:TypeId} {sz n:Nat} {v:Value} {xs:List Value} (h:DrK B bt z q m p w wr kv bu k s cd ct cb dv tv bv ds ts bs) (ho:wr.ownsRow (q+1) T sz v n xs) (hg:wr.grownBy w2 v.ownBlock):
  QZ B w2 bt∧But bt w w2∧w2.heap[z]? = some (.cells #[iv 0,.slice none 0 0,.slice none 0 0,.slice none 0 0] SYT (0,0))∧w2.heap[q]? = some (.cells #[iv m,cd,ct,cb] SYT (0,0)):=by
 obtain⟨o1,o2,o3,o4⟩:=h.old;have hge:=h.tape.ge;have hB:Below (q+1) wr w2:=Below.of_grown hg ho h.qs;exact⟨h.tape.keep (hB.block bt (by omega)) (fun k hk=>hB.block k (by omega)) hB.size,
  ⟨hB.os.trans h.but.os,hB.tape.trans h.but.tape,hB.output.trans h.but.output,Nat.le_trans h.but.size hB.size,fun k hk hn=>(hB.block k (by have:=h.but.size;have:=h.qs;by_cases hkq:k<q+1;exact hkq;omega)).trans (h.but.block k hk hn)⟩,
  (hB.block z (by omega)).trans h.res,(hB.block q (by omega)).trans h.cur⟩
theorem DrK.pushD {xss:List (List Value)} {g:Option Addr} {c:Nat} (h:DrK B bt z q m p w wr kv bu k s cd ct cb dv tv bv ds ts bs) (ho:wr.ownsRow (q+1) IT 1 dv ds.length xss.flatten) (hx:All2 (Qqc.C wr) xss ds)
  (ho2:w2.ownsRow (q+1) IT 1 (.slice g (ds.length+1) c) (ds.length+1) (xss.flatten++[kv])) (hg:wr.grownBy w2 dv.ownBlock):
  DrK B bt z q m p w w2 kv bu k s cd ct cb (.slice g (ds.length+1) c) tv bv (ds++[k]) ts bs:=by
 have hbs:=h.zb;have hold:=h.old;have hq1:Base.b≤q+1:=by omega
 obtain⟨h1,h2,h3,h4⟩:=h.grow ho hg;exact⟨h1,h2,h3,h4,QG.push (E:=Qqc) ho hx hg ho2 ⟨kv,rfl,h.kr⟩ (inI (U:=IT) (by decide)) hq1,h.tr.grownT ho hg (show FNA≠IT by decide) (inF (by decide) (by decide)) hq1,h.bd.grownT ho hg (show ST≠IT by decide) (inS (by decide)) hq1,
  (hg.block p (Qb h.pb) (Qdb ho h.pb (fun c' fr e=>by injection e with _ e _;exact absurd e (by decide)))).trans h.pb,Qg.same h.kr (Qf.grown hg ho (by decide)),h.wb.keep (Qf.grown hg ho (by decide)),h.old⟩
theorem DrK.pushB {xss:List (List Value)} {g:Option Addr} {c:Nat} (h:DrK B bt z q m p w wr kv bu k s cd ct cb dv tv bv ds ts bs) (hs:s.width=(m:Int)) (hp:some p≠bv.ownBlock) (ho:wr.ownsRow (q+1) ST 2 bv bs.length xss.flatten) (hx:All2 (Qsa.C wr) xss bs)
  (ho2:w2.ownsRow (q+1) ST 2 (.slice g (bs.length+1) c) (bs.length+1) (xss.flatten++[iv m,bu])) (hg:wr.grownBy w2 bv.ownBlock):
  DrK B bt z q m p w w2 kv bu k s cd ct cb dv tv (.slice g (bs.length+1) c) ds ts (bs++[s]):=by
 have hbs:=h.zb;have hold:=h.old;have hq1:Base.b≤q+1:=by omega
 obtain⟨h1,h2,h3,h4⟩:=h.grow ho hg;exact⟨h1,h2,h3,h4,h.dp.grownT ho hg (show IT≠ST by decide) (inI (by decide)) hq1,h.tr.grownT ho hg (show FNA≠ST by decide) (inF (by decide) (by decide)) hq1,QG.push (E:=Qsa) ho hx hg ho2 ⟨bu,by rw [hs],h.wb⟩ (inS (U:=ST) (by decide)) hq1,
  (hg.block p (Qb h.pb) hp).trans h.pb,Qg.same h.kr (Qf.grown hg ho (by decide)),h.wb.keep (Qf.grown hg ho (by decide)),h.old⟩
theorem DrK.pushT {xss:List (List Value)} {g:Option Addr} {c:Nat} {t:Qw} {gu ku cu:Value} (h:DrK B bt z q m p w wr kv bu k s cd ct cb dv tv bv ds ts bs) (ht:Qja wr gu ku cu t) (ho:wr.ownsRow (q+1) FNA 5 tv ts.length xss.flatten) (hx:All2 (trEl.C wr) xss ts)
  (ho2:w2.ownsRow (q+1) FNA 5 (.slice g (ts.length+1) c) (ts.length+1) (xss.flatten++[iv t.gen.width,gu,iv t.kill.width,ku,cu])) (hg:wr.grownBy w2 tv.ownBlock):
  DrK B bt z q m p w w2 kv bu k s cd ct cb dv (.slice g (ts.length+1) c) bv ds (ts++[t]) bs:=by
 have hbs:=h.zb;have hold:=h.old;have hq1:Base.b≤q+1:=by omega
 obtain⟨h1,h2,h3,h4⟩:=h.grow ho hg;exact⟨h1,h2,h3,h4,h.dp.grownT ho hg (show IT≠FNA by decide) (inI (by decide)) hq1,QG.push (E:=trEl) ho hx hg ho2 ⟨gu,ku,cu,rfl,ht⟩ (inF (U:=FNA) (by decide) (by decide)) hq1,h.bd.grownT ho hg (show ST≠FNA by decide) (inS (by decide)) hq1,
  (hg.block p (Qb h.pb) (Qdb ho h.pb (fun c' fr e=>by injection e with _ e _;exact absurd e (by decide)))).trans h.pb,Qg.same h.kr (Qf.grown hg ho (by decide)),h.wb.keep (Qf.grown hg ho (by decide)),h.old⟩
theorem DrK.fin (h:DrK B bt z q m p w wr kv bu k s cd ct cb dv tv bv ds ts bs):DrS B bt z q m w (((wr.setCell ⟨q,1,none⟩ dv).setCell ⟨q,3,none⟩ bv).setCell ⟨q,2,none⟩ tv) dv tv bv ds ts bs:=by
 obtain⟨o1,o2,o3,o4⟩:=h.old;have hbs:=h.zb;have hge:=h.tape.ge;have hne:∀o:Nat,(⟨q,o,none⟩:Addr).block≠bt:=fun o=>by show q≠bt;omega
 have hB:∀o:Nat,B≤(⟨q,o,none⟩:Addr).block:=fun o=>by show B≤q;omega
 have ho:∀o:Nat,w.heap.size≤(⟨q,o,none⟩:Addr).block:=fun o=>by show w.heap.size≤q;omega
 have hT:tyAt wr q=some SYT:=Qv h.cur (by omega);have hT1:tyAt (wr.setCell ⟨q,1,none⟩ dv) q=some SYT:=(QS q).trans hT;have hT2:tyAt ((wr.setCell ⟨q,1,none⟩ dv).setCell ⟨q,3,none⟩ bv) q=some SYT:=(QS q).trans hT1;refine⟨((h.tape.setCell (hne _) (hB _) _).setCell (hne _) (hB _) _).setCell (hne _) (hB _) _,((h.but.setCell _ (.inr (ho _)) _).setCell _ (.inr (ho _)) _).setCell _ (.inr (ho _)) _,?_,?_,
  ((h.dp.off hT (show IT≠SYT by decide) (inI (by decide))).off hT1 (show IT≠SYT by decide) (inI (by decide))).off hT2 (show IT≠SYT by decide) (inI (by decide)),
  ((h.tr.off hT (show FNA≠SYT by decide) (inF (by decide) (by decide))).off hT1 (show FNA≠SYT by decide) (inF (by decide) (by decide))).off hT2 (show FNA≠SYT by decide) (inF (by decide) (by decide)),
  ((h.bd.off hT (show ST≠SYT by decide) (inS (by decide))).off hT1 (show ST≠SYT by decide) (inS (by decide))).off hT2 (show ST≠SYT by decide) (inS (by decide)),o1,o2,o3⟩
 ·rw [Below.heap_setCell _ _ _ _ (by show z≠q;omega),Below.heap_setCell _ _ _ _ (by show z≠q;omega),Below.heap_setCell _ _ _ _ (by show z≠q;omega)];exact h.res
 ·simp [World.setCell,Array.getElem?_modify,h.cur]
end
end
section
open Go.RowKit
variable [Base]
theorem QAb {P:Program} {ops:Array Oper} {Q:Exit→Act→World→Prop} {K:Act→World→Prop} (i:Nat) (d:Option Tmp) {oi:Oper} {a:Act} {w:World} (hi:ops[i]? = some oi)
  (hwant:Region.wanted oi (yielded ops a.tmps)=true) (hd:oi.dst=d) (s x:Operand) (t:TypeId)
  (ho:oi.op=.call { callee:=.builtin .append,args:=#[s,x],argTypes:=#[t,t] })
  (base:Nat) (e:TypeId) (z:Value) (size bytes:Nat) (ht:P.underlying t=some (.slice e)) (hin:(P.info? e).map (fun i=>(i.zero,i.size,i.bytes))=some (some z,size,bytes))
  (hzs:z.cells.size=size) (hsz:0<size) (v:Value) (n:Nat) (xs:List Value) (hown:w.ownsRow base e size v n xs) (hs:a.eval s=v)
  (u:Value) (m:Nat) (ys:List Value) (hx:a.eval x=u) (hsl:Qg w e size u ys) (hm:ys.length=m*size) (h1:ys.all Value.oneCell'=true)
  (h63:n+m≤maxLen) (hbytes:(n+m)*bytes≤140737488355328) (hbase:base≤w.heap.size)
  (h:∀g c w',w'.ownsRow base e size (.slice g (n+m) c) (n+m) (xs++ys)→w.grownBy w' v.ownBlock→K (a.put d (.slice g (n+m) c)) w'):wpOp P ops Q i K a w:=by
 subst hd;unfold wpOp;rw [hi];show if Region.wanted oi (yielded ops a.tmps) then _ else _
 rw [if_pos hwant];exact .inl (Qlf s x t ho base e z size bytes ht hin hzs hsz v n xs hown hs u m ys hx hsl hm h1 h63 hbytes hbase h)
theorem Qzg:(Tryz.prog.info? IT).map (fun i=>(i.zero,i.size,i.bytes))=some (some (Value.slice none 0 0),1,24):=by kernel_rfl
theorem DrK.cells {B bt z q m p:Nat} {w wr:World} {kv bu:Value} {k:List Int} {s:QSet} {cd ct cb dv tv bv:Value} {ds:List (List Int)} {ts:List Qw} {bs:List QSet} (h:DrK B bt z q m p w wr kv bu k s cd ct cb dv tv bv ds ts bs):
  (((((wr.cell? ⟨q,0,none⟩=some (iv m)∧wr.cell? ⟨q,1,none⟩=some cd)∧wr.cell? ⟨q,2,none⟩=some ct)∧wr.cell? ⟨q,3,none⟩=some cb)∧wr.cell? ⟨p,0,none⟩=some (iv m))∧wr.cell? ⟨p,1,none⟩=some bu):=by
 have hc:=(Qa h.cur).1;have hp:=(Qa h.pb).1;exact⟨⟨⟨⟨⟨hc 0,hc 1⟩,hc 2⟩,hc 3⟩,hp 0⟩,hp 1⟩
structure SmS (n m:Nat) (ds:List (List Int)) (ts:List Qw) (bs:List QSet):Prop where
 dep:∀l∈ds,ascB n l=true∧l.length≤3
 okT:∀t∈ts,OkT m t
 okB:∀b∈bs,Ok m b
theorem SmS.nil {n m:Nat}:SmS n m [] [] []:=⟨by simp,by simp,by simp⟩
theorem SmS.push {n m:Nat} {ds:List (List Int)} {ts:List Qw} {bs:List QSet} (h:SmS n m ds ts bs) {k:List Int} {t:Qw} {b:QSet} (hk:ascB n k=true) (hl:k.length≤3) (ht:OkT m t) (hb:Ok m b):SmS n m (ds++[k]) (ts++[t]) (bs++[b]):=by
 refine⟨fun l hm=>?_,fun x hm=>?_,fun x hm=>?_⟩
 ·rcases List.mem_append.1 hm with hm|hm
  ·exact h.dep l hm
  ·rw [List.mem_singleton] at hm;subst hm;exact⟨hk,hl⟩
 ·rcases List.mem_append.1 hm with hm|hm
  ·exact h.okT x hm
  ·rw [List.mem_singleton] at hm;subst hm;exact ht
 ·rcases List.mem_append.1 hm with hm|hm
  ·exact h.okB x hm
  ·rw [List.mem_singleton] at hm;subst hm;exact hb
theorem QEg:∀(l:List Int) (a:Int),l.foldl (fun x y=>x+y) a=a+l.foldl (fun x y=>x+y) 0
|[],a=>by simp
|x::r,a=>by
  rw [List.foldl_cons,List.foldl_cons,QEg r,QEg r (0+x)]
  omega
theorem Qfk:∀(ds:List (List Int)),(∀l∈ds,l.length≤3)→totI ds≤3*(ds.length:Int)
|[],_=>by simp [totI,sumI]
|l::r,h=>by
  have h1:=Qfk r (fun x hx=>h x (by simp [hx]))
  have h2:=h l (by simp)
  have e:totI (l::r)=lenI l+totI r:=by
   unfold totI sumI;rw [List.map_cons,List.foldl_cons,QEg,Int.zero_add]
  rw [e,List.length_cons];unfold lenI;omega
theorem SmS.ok {n m:Nat} {ds:List (List Int)} {ts:List Qw} {bs:List QSet} (h:SmS n m ds ts bs) (h1:1≤n) (hn:n≤16) (hm:m≤16) (hd:ds.length=n) (ht:ts.length=n) (hb:bs.length=n):QSd n m ⟨m,ds,ts,bs⟩:=
 ⟨rfl,by omega,h1,by omega,hd,ht,hb,fun l hl=>(h.dep l hl).1,by have:=Qfk ds (fun l hl=>(h.dep l hl).2);rw [hd] at this;show totI ds≤1024;omega,h.okB,h.okT⟩
theorem Qss (l:List Int) (x:Int):(insI l x).length≤l.length+1:=by
 unfold insI
 split
 ·omega
 ·have h:=congrArg List.length (List.takeWhile_append_dropWhile (p:=(decide <| · < x)) (l:=l));simp only [List.length_append,List.length_cons] at h ⊢;omega
theorem QAh.but {B bt:Nat} {w w':World} {v:Value} {l:List Int} (h:QAh w v l) (ht:QZ B w bt) (hb:But bt w w'):QAh w' v l:=⟨Qg.same h.1 (hb.sameT ht (by decide)),h.2⟩
theorem QAh.sl {w:World} {v:Value} {l:List Int} (h:QAh w v l):∃a n c,v=.slice a n c:=by
 rcases h.2 with⟨rfl,-⟩|⟨b,o,c,rfl⟩ <;> exact⟨_,_,_,rfl⟩
structure DepL (n d:Nat) (k:List Int):Prop where
 asc:Asc k
 rng:∀x∈k,0≤x∧x<n
 len:k.length+d≤3
theorem DepL.ins {n d:Nat} {k:List Int} (h:DepL n d k) (hd:0<d) {x:Int} (h0:0≤x) (h1:x<n):DepL n (d-1) (insI k x):=
 ⟨QYs h.asc,fun y hy=>by
  rcases Qls.1 hy with hy|rfl
  ·exact h.rng y hy
  ·exact⟨h0,h1⟩,by have:=Qss k x;have:=h.len;omega⟩
theorem set4h {w:World} {b:Nat} {a0 a1 a2 a3:Value} {t:TypeId} {fr:Nat×Nat} (h:w.heap[b]? = some (.cells #[a0,a1,a2,a3] t fr)) (x0 x1 x2 x3:Value):
  ((((w.setCell ⟨b,0,none⟩ x0).setCell ⟨b,1,none⟩ x1).setCell ⟨b,2,none⟩ x2).setCell ⟨b,3,none⟩ x3).heap[b]? = some (.cells #[x0,x1,x2,x3] t fr):=by
 simp [World.setCell,Array.getElem?_modify,h]
theorem QO {b:Nat} {w:World} {v0 v1 v2 v3:Value} {t:TypeId} (h:w.heap[b]? = some (.cells #[v0,v1,v2,v3] t (0,0))):
  w.cell? ⟨b,0,none⟩=some v0∧w.cell? ⟨b,1,none⟩=some v1∧w.cell? ⟨b,2,none⟩=some v2∧w.cell? ⟨b,3,none⟩=some v3:=by
 have hc:=(Qa h).1;exact⟨hc 0,hc 1,hc 2,hc 3⟩
def Qaq (B bt:Nat) (w:World) (e:Ending) (w':World):Prop:=
 ∃s n m dv tv bv,e=.returned (sysV s dv tv bv)∧QSd n m s∧n≤16∧m≤4∧QKd w' dv tv bv s∧QZ B w' bt∧But bt w w'
theorem rem5 (r:Nat) (h:r≤8):∃m:Nat,m≤4∧(r:Int).tmod 5=m:=⟨r % 5,by omega,by rw [Int.tmod_eq_emod_of_nonneg (by omega)];omega⟩
theorem QXm {B bt:Nat} (n0:Nat) (hn0:1≤n0) (hn1:n0≤16) (w:World) (ht:QZ B w bt):Calls Tryz.prog 23 #[.pointer (some ⟨bt,0,none⟩),iv n0] w (Qaq B bt w):=by
 have hlt:=ht.lt;obtain⟨z,hz⟩:=Ze w.heap.size;obtain⟨W,hW⟩:=Ze (w.alloc (.cells #[iv 0,.slice none 0 0,.slice none 0 0,.slice none 0 0] SYT));have HW:=Zh hW;have HZ:=Zh hz;have HTW:=Zh (show QZ B W bt by rw [←hW];exact ht.alloc _);have HBW:=Zh (show But bt w W by rw [←hW];exact(But.refl bt w).alloc _);have HRW:=Zh (show W.heap[z]? = some (.cells #[iv 0,.slice none 0 0,.slice none 0 0,.slice none 0 0] SYT (0,0)) by rw [←hW,←hz];exact heap_alloc_new _ _);clear ht hW;go_enter Tryz.func23,Tryz.ntmps23;go_upto_region 1 with(fail)
 rw [show w.alloc (.cells #[iv 0,.slice none 0 0,.slice none 0 0,.slice none 0 0] SYT)=W from HW.o]
 try rw [hz]
 go_wp2_with fail;refine(Qfq W HTW.o).mono ?_;rintro e v1 ⟨r,hr,rfl,t1,b1⟩;have T1:=Zh t1;have B1:=Zh b1;obtain⟨m,hm,hrm⟩:=rem5 r hr;have hwr:wrap64 ((r:Int).tmod 5)=m:=by rw [hrm];exact IntWalk.wrap64_in _ (by omega)
 clear t1 b1;obtain⟨q,hq⟩:=Ze v1.heap.size;obtain⟨V,hV⟩:=Ze (v1.alloc (.cells #[iv m,.slice none 0 0,.slice none 0 0,.slice none 0 0] SYT));have HV:=Zh hV;have I0:=Zh (show DrS B bt z q m w V (.slice none 0 0) (.slice none 0 0) (.slice none 0 0) [] [] [] by
  have hz2:=Qb HRW.o;have hzs:=HZ.o;have hs1:=B1.o.size;rw [←hV,←hq];exact⟨T1.o.alloc _,(HBW.o.trans B1.o).alloc _,Qz _ ((B1.o.block z hz2 (by omega)).trans HRW.o),heap_alloc_new _ _,QG.nil,QG.nil,QG.nil,by omega,by omega,by omega⟩)
 clear T1 B1 HRW HBW HTW hV;go_upto_region 2 with(fail)
 rw [show v1.alloc (.cells #[iv m,.slice none 0 0,.slice none 0 0,.slice none 0 0] SYT)=V from HV.o]
 try rw [hq]
 go_wp2_with fail;refine(QMc I0.o.tape n0 (by omega)).mono ?_;rintro e v2 ⟨r2,x1,x2,rfl,t2,b2⟩;obtain⟨n,hn⟩:∃n:Nat,1+r2=n:=⟨(1+r2).toNat,by omega⟩;have hnn:1≤n∧n≤16:=by omega
 have I1:=Zh (I0.o.next t2 b2);have hwn:wrap64 (1+r2)=n:=by rw [hn];exact IntWalk.wrap64_in _ (by omega)
 clear t2 b2 I0;go_upto_region 3 with(fail)
 clear hwn hn x1 x2 hwr hrm;go_wp2_with fail;go_loopw [6] (fun y wr=>∃(i:Nat) (dv tv bv:Value) (ds:List (List Int)) (ts:List Qw) (bs:List QSet),i≤n∧y=.int .i64 i∧Hid (DrS B bt z q m w wr dv tv bv ds ts bs)∧Hid (SmS n m ds ts bs)∧Hid (ds.length=i∧ts.length=i∧bs.length=i)) (fun y _=>n-(intOf y).toNat)
 case atStart=>exact⟨0,_,_,_,_,_,_,Nat.zero_le _,rfl,I1.o,SmS.nil,Zh ⟨rfl,rfl,rfl⟩⟩
 case round=>
  clear I1;obtain⟨i,dv,tv,bv,ds,ts,bs,hi,rfl,HI,HSM,HL⟩:=hrel;by_cases hlt:i<n;rotate_left
  ·obtain rfl:i=n:=by omega
   obtain⟨da,dc,rfl⟩:=HI.o.dp.slice;obtain⟨ta,tc,rfl⟩:=HI.o.tr.slice;obtain⟨ba,bc,rfl⟩:=HI.o.bd.slice;rw [HL.o.1,HL.o.2.1,HL.o.2.2] at HI;have hbz:=HI.o.zb;have hzo:=HI.o.old.1;have R0:=Zh HI.o.res;obtain⟨t0,t1,t2,t3⟩:=QO HI.o.cur;obtain⟨c0,c1,c2,c3⟩:=QO R0.o;have f0:=(Qa R0.o).2 0;have f1:=(Qa R0.o).2 1;have f2:=(Qa R0.o).2 2;have f3:=(Qa R0.o).2 3;have E4:=Zh (set4h R0.o (iv m) (.slice da i dc) (.slice ta i tc) (.slice ba i bc));have HQ:=Zh (show Qaq B bt w (.returned (.agg #[iv m,.slice da i dc,.slice ta i tc,.slice ba i bc])) ((((wr.setCell ⟨z,0,none⟩ (iv m)).setCell ⟨z,1,none⟩ (.slice da i dc)).setCell ⟨z,2,none⟩ (.slice ta i tc)).setCell ⟨z,3,none⟩ (.slice ba i bc)) by
    have hge:=HI.o.tape.ge;have hbw:=HI.o.old.2.2;have hne:∀o:Nat,(⟨z,o,none⟩:Addr).block≠bt:=fun o=>by show z≠bt;omega
    have hB:∀o:Nat,B≤(⟨z,o,none⟩:Addr).block:=fun o=>by show B≤z;omega
    have ho:∀o:Nat,w.heap.size≤(⟨z,o,none⟩:Addr).block:=fun o=>hzo
    refine⟨⟨m,ds,ts,bs⟩,i,m,.slice da i dc,.slice ta i tc,.slice ba i bc,rfl,HSM.o.ok hnn.1 hnn.2 (by omega) HL.o.1 HL.o.2.1 HL.o.2.2,hnn.2,hm,?_,
     (((HI.o.tape.setCell (hne _) (hB _) _).setCell (hne _) (hB _) _).setCell (hne _) (hB _) _).setCell (hne _) (hB _) _,
     (((HI.o.but.setCell _ (.inr (ho _)) _).setCell _ (.inr (ho _)) _).setCell _ (.inr (ho _)) _).setCell _ (.inr (ho _)) _⟩
    exact(QKd.mk HI.o.dp.rows HI.o.tr.rows HI.o.bd.rows:QKd wr _ _ _ ⟨m,ds,ts,bs⟩).keep fun U hU=>Qsg (Qv R0.o (by omega)) (by
     intro h;subst h;revert hU;decide) _ _ _ _)
   go_wp2;obtain⟨g0,g1,g2,g3⟩:=QO E4.o;exact bodyPost_ret (v:=.agg #[iv m,.slice da i dc,.slice ta i tc,.slice ba i bc]) (by simp [results,Tryz.results23,go_sem,g0,g1,g2,g3]) rfl HQ.o
  ·go_wp2_with (go_at_call 16;refine(QMc HI.o.tape 4 (by omega)).mono ?_;rintro e w2 ⟨x,x1,x2,rfl,ht2,hb2⟩;have J:=Zh (HI.o.next ht2 hb2);clear ht2 hb2 HI);obtain⟨dd,hdd⟩:=Int.eq_ofNat_of_zero_le x1;subst hdd;have hd3:dd≤3:=by omega
   clear x1 x2;go_loopw [7,8] (fun y7 y8 wr=>∃(d:Nat) (k:List Int),y8=.int .i64 d∧Hid (DrS B bt z q m w wr dv tv bv ds ts bs)∧Hid (QAh wr y7 k)∧Hid (DepL n d k)) (fun _ y _=>(intOf y).toNat)
   case atStart=>exact⟨dd,[],rfl,J.o,⟨Qg.nil,.inl ⟨rfl,rfl⟩⟩,⟨List.Pairwise.nil,by simp,by simpa using hd3⟩⟩
   case round=>
    clear J;obtain⟨d,k,rfl,HJ,HK,HD⟩:=hrel;rcases Nat.eq_zero_or_pos d with rfl|hdp
    ·obtain⟨ka,kn,kc,hk7⟩:=HK.o.sl;subst hk7;obtain⟨L0,L1,L2,L3⟩:=QO HJ.o.cur;go_wp2_with fail;refine(Qjc m (by omega) _).mono ?_;rintro e w3 ⟨u,rfl,ho,b3⟩;obtain⟨ua,un,uc,rfl⟩:=ho.words.shape;have J3:=Zh (HJ.o.next (HJ.o.tape.below b3) ((But.refl _ _).below b3));have K3:=Zh (HK.o.but HJ.o.tape ((But.refl _ _).below b3));have O3:=Zh ho;rw [show setV (Qy m) (.slice ua un uc)=.agg #[iv m,.slice ua un uc] from rfl];obtain⟨p,hp⟩:=Ze w3.heap.size;obtain⟨W3,hW3⟩:=Ze (w3.alloc (.cells #[iv m,.slice ua un uc] ST));have HW3:=Zh hW3;have B3:=Zh (show But bt w3 W3 by rw [←hW3];exact(But.refl _ _).alloc _);have T3:=Zh (show QZ B W3 bt by rw [←hW3];exact J3.o.tape.alloc _);have P3:=Zh (show W3.heap[p]? = some (.cells #[iv m,.slice ua un uc] ST (0,0)) by rw [←hW3,←hp];exact heap_alloc_new _ _);have U3:=Zh (show Qi W3 (.slice ua un uc) (Qy m).words by rw [←hW3];exact ho.words.keep Qf.alloc);have HQP:=Zh (show q<p by rw [←hp];exact J3.o.qs);have HPN:=Zh (show some p≠bv.ownBlock by
      obtain⟨yss,hy,-⟩:=J3.o.bd;rcases hy.2 with⟨rfl,-⟩|⟨g,cap,cur,rfl,hg,hh,-⟩
      ·simp [Value.ownBlock]
      ·intro h;have h2:p=g:=by simpa [Value.ownBlock] using h
       have h3:=Qb hh;omega)
     clear ho b3 hW3 L0 L1 L2 L3;go_upto_region 12 with(fail)
     rw [show w3.alloc (.cells #[iv m,.slice ua un uc] ST)=W3 from HW3.o]
     try rw [hp]
     clear HJ HK HW3;go_upto_if 39 with(go_at_call 16;refine(QMc T3.o 3 (by omega)).mono ?_;rintro e w4 ⟨x,x1,x2,rfl,ht4,hb4⟩;have T4:=Zh ht4;have B4:=Zh (B3.o.trans hb4);have P4:=Zh ((hb4.block p (Qb P3.o) (by have:=J3.o.old;have:=HQP.o;omega)).trans P3.o);have U4:=Zh (U3.o.keep (hb4.sameT T3.o (by decide)));clear ht4 hb4)
     go_cut [9] from 38 to 44 (fun s9 wx=>∃(s:QSet) (bu:Value),s9=.pointer (some ⟨p,0,none⟩)∧Hid (Ok m s)∧Hid (DrK B bt z q m p w wx (.slice ka kn kc) bu k s dv tv bv dv tv bv ds ts bs))
     case first=>
      by_cases h1:x=1;rotate_left
      ·have t1:(x==1)=false:=by simpa using h1
       have HX:=Zh (show DrK B bt z q m p w w4 (.slice ka kn kc) (.slice ua un uc) k (Qy m) dv tv bv dv tv bv ds ts bs by
        have j:=J3.o.next T4.o B4.o;exact⟨j.tape,j.but,j.res,j.cur,j.dp,j.tr,j.bd,P4.o,(K3.o.but J3.o.tape B4.o).1,U4.o,j.old.1,j.old.2.1,j.old.2.2,HQP.o⟩)
       have HE:=Zh (show Ok m (Qy m) from QOb (by omega));clear h1;go_wp2;go_meet
       case rel=>exact⟨_,_,rfl,HE.o,HX.o⟩
      ·subst h1;obtain⟨L0,L1,L2,L3⟩:=QO (J3.o.next T4.o B4.o).cur;go_wp2_with fail;refine(Qfb m (by omega) _ T4.o).mono ?_;rintro e w5 ⟨s5,u5,rfl,hf5,hw5,hok5,hu5,ht5,hb5⟩;obtain⟨va,vn,vc,rfl⟩:=hu5.shape;have P5:=Zh ((hb5.block p (Qb P4.o) (by have:=J3.o.old;have:=HQP.o;omega)).trans P4.o);obtain⟨c0,c1⟩:=Qq P5.o;have f0:=(Qa P5.o).2 0;have f1:=(Qa P5.o).2 1;have HE:=Zh (show Ok m s5 from⟨hf5,hok5,hw5⟩);have HX:=Zh (show DrK B bt z q m p w ((w5.setCell ⟨p,0,none⟩ (iv m)).setCell ⟨p,1,none⟩ (.slice va vn vc)) (.slice ka kn kc) (.slice va vn vc) k s5 dv tv bv dv tv bv ds ts bs by
        have hge:=J3.o.tape.ge;have hbs:=J3.o.zb;have hold:=J3.o.old;have hqp:=HQP.o;have hT:tyAt w5 p=some ST:=Qv P5.o (by omega);have tt:QZ B ((w5.setCell ⟨p,0,none⟩ (iv m)).setCell ⟨p,1,none⟩ (.slice va vn vc)) bt:=(ht5.setCell (by show p≠bt;omega) (by show B≤p;omega) _).setCell (by show p≠bt;omega) (by show B≤p;omega) _;have bb:But bt w3 ((w5.setCell ⟨p,0,none⟩ (iv m)).setCell ⟨p,1,none⟩ (.slice va vn vc)):=((B4.o.trans hb5).setCell ⟨p,0,none⟩ (.inr (by show w3.heap.size≤p;omega)) _).setCell ⟨p,1,none⟩ (.inr (by show w3.heap.size≤p;omega)) _;have j:=J3.o.next tt bb;refine⟨j.tape,j.but,j.res,j.cur,j.dp,j.tr,j.bd,?_,(K3.o.but J3.o.tape bb).1,?_,j.old.1,j.old.2.1,j.old.2.2,HQP.o⟩
        ·have h:=P5.o;simp [World.setCell,Array.getElem?_modify,h]
        ·exact hu5.keep ((Qf.setCell (U:=ST) hT (by decide)).trans (Qf.setCell (U:=ST) ((QS p).trans hT) (by decide))))
       rw [show setV s5 (.slice va vn vc)=.agg #[iv m,.slice va vn vc] by unfold setV;rw [hw5]];clear hf5 hw5 hok5 hu5 ht5 hb5;go_wp2;go_meet
       case rel=>exact⟨_,_,rfl,HE.o,HX.o⟩
     case rest=>
      obtain⟨s5,bu,rfl,HE,HX⟩:=hcut;clear T4 B4 P4 U4 T3 B3 P3 U3 O3 K3 J3;obtain⟨da,dc,rfl⟩:=HX.o.dp.slice;obtain⟨ta,tc,rfl⟩:=HX.o.tr.slice;obtain⟨ba,bc,rfl⟩:=HX.o.bd.slice;obtain⟨va,vn,vc,rfl⟩:=HX.o.wb.shape;have hbq:Base.b≤q+1:=by have:=HX.o.zb;have:=HX.o.old;omega
      have hdl:ds.length≤16:=by have:=HL.o.1;omega
      have htl:ts.length≤16:=by have:=HL.o.2.1;omega
      have hbl:bs.length≤16:=by have:=HL.o.2.2;omega
      have HAK:=Zh (show ascB n k=true∧k.length≤3 from⟨QQj HD.o.asc HD.o.rng (fun q h=>by cases h),by have:=HD.o.len;omega⟩);go_upto_region 14 with(fail)
      refine Qdi (S:=fun w'=>(((((w'.cell? ⟨q,0,none⟩=some (iv m)∧w'.cell? ⟨q,1,none⟩=some (.slice da ds.length dc))∧w'.cell? ⟨q,2,none⟩=some (.slice ta ts.length tc))∧w'.cell? ⟨q,3,none⟩=some (.slice ba bs.length bc))∧w'.cell? ⟨p,0,none⟩=some (iv m))∧w'.cell? ⟨p,1,none⟩=some (.slice va vn vc))) (st:=19) (by kernel_rfl) ?_;obtain⟨W0_,hW0⟩:=Ze (wc.drewN 1);rw [hW0];have HK0:=Zh (show DrK B bt z q m p w W0_ _ _ _ _ _ _ _ _ _ _ _ _ _ by rw [←hW0];exact HX.o.drew 1);clear hW0 HX;have hS0:(fun w':World=>(((((w'.cell? ⟨q,0,none⟩=some (iv m)∧w'.cell? ⟨q,1,none⟩=some (.slice da ds.length dc))∧w'.cell? ⟨q,2,none⟩=some (.slice ta ts.length tc))∧w'.cell? ⟨q,3,none⟩=some (.slice ba bs.length bc))∧w'.cell? ⟨p,0,none⟩=some (iv m))∧w'.cell? ⟨p,1,none⟩=some (.slice va vn vc))) W0_:=HK0.o.cells;refine Zl 0 (some 44) [] ?v1 hS0 ?run1 ?rest1
      case run1=>intro w hS;obtain⟨⟨⟨⟨⟨s0,s1⟩,s2⟩,s3⟩,s4⟩,s5⟩:=hS;go_simp;rfl
      refine Zl 1 (some 45) [] ?v2 hS0 ?run2 ?rest2
      case run2=>intro w hS;obtain⟨⟨⟨⟨⟨s0,s1⟩,s2⟩,s3⟩,s4⟩,s5⟩:=hS;go_simp;rfl
      refine Zl 2 (some 46) [] ?v3 hS0 ?run3 ?rest3
      case run3=>intro w hS;obtain⟨⟨⟨⟨⟨s0,s1⟩,s2⟩,s3⟩,s4⟩,s5⟩:=hS;go_simp;rfl
      refine Zl 5 (some 49) [] ?v4 hS0 ?run4 ?rest4
      case run4=>intro w hS;obtain⟨⟨⟨⟨⟨s0,s1⟩,s2⟩,s3⟩,s4⟩,s5⟩:=hS;go_simp;rfl
      refine Zl 6 (some 50) [] ?v5 hS0 ?run5 ?rest5
      case run5=>intro w hS;obtain⟨⟨⟨⟨⟨s0,s1⟩,s2⟩,s3⟩,s4⟩,s5⟩:=hS;go_simp;rfl
      refine Zl 7 (some 51) [8,9,15,17] ?v6 hS0 ?run6 ?rest6
      case run6=>intro w hS;obtain⟨⟨⟨⟨⟨s0,s1⟩,s2⟩,s3⟩,s4⟩,s5⟩:=hS;go_simp;rfl
      refine Zl 10 (some 54) [] ?v7 hS0 ?run7 ?rest7
      case run7=>intro w hS;obtain⟨⟨⟨⟨⟨s0,s1⟩,s2⟩,s3⟩,s4⟩,s5⟩:=hS;go_simp;rfl
      refine Zl 11 (some 55) [] ?v8 hS0 ?run8 ?rest8
      case run8=>intro w hS;obtain⟨⟨⟨⟨⟨s0,s1⟩,s2⟩,s3⟩,s4⟩,s5⟩:=hS;go_simp;rfl
      refine Zl 12 (some 56) [15,17] ?v9 hS0 ?run9 ?rest9
      case run9=>intro w hS;obtain⟨⟨⟨⟨⟨s0,s1⟩,s2⟩,s3⟩,s4⟩,s5⟩:=hS;go_simp;rfl
      refine Zl 13 (some 57) [] ?v10 hS0 ?run10 ?rest10
      case run10=>intro w hS;obtain⟨⟨⟨⟨⟨s0,s1⟩,s2⟩,s3⟩,s4⟩,s5⟩:=hS;go_simp;rfl
      refine Zl 14 (some 58) [] ?v11 hS0 ?run11 ?rest11
      case run11=>intro w hS;obtain⟨⟨⟨⟨⟨s0,s1⟩,s2⟩,s3⟩,s4⟩,s5⟩:=hS;go_simp;rfl
      refine Qn (rs:=[3,8]) (by kernel_rfl) (by decide) ?_;intro j hj;have hj2:j=3∨j=8:=by simpa using hj
      clear hj;rcases hj2 with rfl|rfl
      ·obtain⟨W12_,hW12⟩:=Ze (W0_.alloc (.cells #[.slice ka kn kc] IT));refine Qs 3 (some 47) (.slice (some ⟨W0_.heap.size,0,none⟩) 1 1) W12_ rfl (by kernel_rfl) ?rva12 rfl ?_
       case rva12=>rw [←hW12];go_simp
       have HK12:=Zh (show DrK B bt z q m p w W12_ _ _ _ _ _ _ _ _ _ _ _ _ _ by rw [←hW12];exact HK0.o.alloc _);have EI12:=Zh (show Qg W12_ IT 1 (.slice (some ⟨W0_.heap.size,0,none⟩) 1 1) [.slice ka kn kc] by rw [←hW12];exact Qg.new [.slice ka kn kc] 1 rfl (by decide));clear hW12;clear hS0;have hS0:(fun w':World=>(((((w'.cell? ⟨q,0,none⟩=some (iv m)∧w'.cell? ⟨q,1,none⟩=some (.slice da ds.length dc))∧w'.cell? ⟨q,2,none⟩=some (.slice ta ts.length tc))∧w'.cell? ⟨q,3,none⟩=some (.slice ba bs.length bc))∧w'.cell? ⟨p,0,none⟩=some (iv m))∧w'.cell? ⟨p,1,none⟩=some (.slice va vn vc))) W12_:=HK12.o.cells;refine⟨fun _=>hS0,?_⟩;refine Qn (rs:=[4,8]) (by kernel_rfl) (by decide) ?_;intro j hj;have hj2:j=4∨j=8:=by simpa using hj
       clear hj;rcases hj2 with rfl|rfl
       ·obtain⟨xs13,ho13,hx13⟩:=HK12.o.dp;refine QAb 4 (some 48) rfl (by kernel_rfl) rfl _ _ 32 rfl (q+1) IT _ 1 24 Tryz.underlying32 Qzg rfl (by decide) (.slice da ds.length dc) ds.length xs13.flatten ho13 (by kernel_rfl) (.slice (some ⟨W0_.heap.size,0,none⟩) 1 1) 1 [.slice ka kn kc] (by kernel_rfl) EI12.o rfl rfl (by unfold maxLen;omega) (by omega) HK12.o.qs ?_;intro g13 c13 W13_ hr13 hg13;have HK13:=Zh (show DrK B bt z q m p w W13_ (.slice ka kn kc) (.slice va vn vc) k s5 (.slice da ds.length dc) (.slice ta ts.length tc) (.slice ba bs.length bc) (.slice g13 (ds.length+1) c13) (.slice ta ts.length tc) (.slice ba bs.length bc) (ds++[k]) ts bs from HK12.o.pushD ho13 hx13 hr13 hg13);clear ho13 hx13 hr13 hg13;clear hS0;have hS0:(fun w':World=>(((((w'.cell? ⟨q,0,none⟩=some (iv m)∧w'.cell? ⟨q,1,none⟩=some (.slice da ds.length dc))∧w'.cell? ⟨q,2,none⟩=some (.slice ta ts.length tc))∧w'.cell? ⟨q,3,none⟩=some (.slice ba bs.length bc))∧w'.cell? ⟨p,0,none⟩=some (iv m))∧w'.cell? ⟨p,1,none⟩=some (.slice va vn vc))) W13_:=HK13.o.cells;refine⟨fun _=>hS0,?_⟩;refine Zl 18 (some 62) [] ?v14 hS0 ?run14 ?rest14
        case run14=>intro w hS;obtain⟨⟨⟨⟨⟨s0,s1⟩,s2⟩,s3⟩,s4⟩,s5⟩:=hS;go_simp;rfl
        refine Zo 8 ?_;obtain⟨W15_,hW15⟩:=Ze (W13_.alloc (.cells #[iv m,.slice va vn vc] ST));refine Qs 8 (some 52) (.slice (some ⟨W13_.heap.size,0,none⟩) 1 1) W15_ rfl (by kernel_rfl) ?rva15 rfl ?_
        case rva15=>rw [←hW15];go_simp
        have HK15:=Zh (show DrK B bt z q m p w W15_ _ _ _ _ _ _ _ _ _ _ _ _ _ by rw [←hW15];exact HK13.o.alloc _);have ES15:=Zh (show Qg W15_ ST 2 (.slice (some ⟨W13_.heap.size,0,none⟩) 1 1) [iv m,.slice va vn vc] by rw [←hW15];exact Qg.new [iv m,.slice va vn vc] 1 rfl (by decide));clear hW15;clear hS0;have hS0:(fun w':World=>(((((w'.cell? ⟨q,0,none⟩=some (iv m)∧w'.cell? ⟨q,1,none⟩=some (.slice da ds.length dc))∧w'.cell? ⟨q,2,none⟩=some (.slice ta ts.length tc))∧w'.cell? ⟨q,3,none⟩=some (.slice ba bs.length bc))∧w'.cell? ⟨p,0,none⟩=some (iv m))∧w'.cell? ⟨p,1,none⟩=some (.slice va vn vc))) W15_:=HK15.o.cells;refine⟨fun _=>hS0,?_⟩;refine Zo 9 ?_;obtain⟨xs16,ho16,hx16⟩:=HK15.o.bd;refine QAb 9 (some 53) rfl (by kernel_rfl) rfl _ _ 34 rfl (q+1) ST _ 2 32 Tryz.underlying34 Qwd rfl (by decide) (.slice ba bs.length bc) bs.length xs16.flatten ho16 (by kernel_rfl) (.slice (some ⟨W13_.heap.size,0,none⟩) 1 1) 1 [iv m,.slice va vn vc] (by kernel_rfl) ES15.o rfl rfl (by unfold maxLen;omega) (by omega) HK15.o.qs ?_;intro g16 c16 W16_ hr16 hg16;have HK16:=Zh (show DrK B bt z q m p w W16_ (.slice ka kn kc) (.slice va vn vc) k s5 (.slice da ds.length dc) (.slice ta ts.length tc) (.slice ba bs.length bc) (.slice g13 (ds.length+1) c13) (.slice ta ts.length tc) (.slice g16 (bs.length+1) c16) (ds++[k]) ts (bs++[s5]) from HK15.o.pushB HE.o.width HPN.o ho16 hx16 hr16 hg16);clear ho16 hx16 hr16 hg16;clear hS0;have hS0:(fun w':World=>(((((w'.cell? ⟨q,0,none⟩=some (iv m)∧w'.cell? ⟨q,1,none⟩=some (.slice da ds.length dc))∧w'.cell? ⟨q,2,none⟩=some (.slice ta ts.length tc))∧w'.cell? ⟨q,3,none⟩=some (.slice ba bs.length bc))∧w'.cell? ⟨p,0,none⟩=some (iv m))∧w'.cell? ⟨p,1,none⟩=some (.slice va vn vc))) W16_:=HK16.o.cells;refine⟨fun _=>hS0,?_⟩;refine Zo 15 ?_;refine Qla 15 (some 59) 27 #[.pointer (some ⟨bt,0,none⟩),iv m] rfl (by kernel_rfl) (by kernel_rfl) rfl ?_;refine(QWh m (by omega) _ HK16.o.tape).mono ?_;rintro e W17_ ⟨t,gu,ku,cu,rfl,hot,hta,htt,htb⟩;obtain⟨ga,gn,gc,rfl⟩:=hta.gen.shape;obtain⟨ua,un,uc,rfl⟩:=hta.kill.shape;obtain⟨wa,wn_,wc_,rfl⟩:∃a n c,cu=.slice a n c:=by obtain⟨a,c,h,-⟩:=hta.cops.cell;exact⟨_,_,_,h⟩
        rw [show trV t (.slice ga gn gc) (.slice ua un uc) (.slice wa wn_ wc_)=.agg #[iv m,.slice ga gn gc,iv m,.slice ua un uc,.slice wa wn_ wc_] by show Value.agg #[iv t.gen.width,_,iv t.kill.width,_,_]=_;rw [hot.gen.width,hot.kill.width]];have HOT:=Zh hot;have HTA:=Zh hta;have HK17:=Zh (show DrK B bt z q m p w W17_ (.slice ka kn kc) (.slice va vn vc) k s5 (.slice da ds.length dc) (.slice ta ts.length tc) (.slice ba bs.length bc) (.slice g13 (ds.length+1) c13) (.slice ta ts.length tc) (.slice g16 (bs.length+1) c16) (ds++[k]) ts (bs++[s5]) from HK16.o.next htt htb);clear hot hta htt htb;clear hS0;have hS0:(fun w':World=>(((((w'.cell? ⟨q,0,none⟩=some (iv m)∧w'.cell? ⟨q,1,none⟩=some (.slice da ds.length dc))∧w'.cell? ⟨q,2,none⟩=some (.slice ta ts.length tc))∧w'.cell? ⟨q,3,none⟩=some (.slice ba bs.length bc))∧w'.cell? ⟨p,0,none⟩=some (iv m))∧w'.cell? ⟨p,1,none⟩=some (.slice va vn vc))) W17_:=HK17.o.cells;refine⟨_,rfl,fun _=>hS0,?_⟩;refine Zo 16 ?_;obtain⟨W18_,hW18⟩:=Ze (W17_.alloc (.cells #[iv m,.slice ga gn gc,iv m,.slice ua un uc,.slice wa wn_ wc_] FNA));refine Qs 16 (some 60) (.slice (some ⟨W17_.heap.size,0,none⟩) 1 1) W18_ rfl (by kernel_rfl) ?rva18 rfl ?_
        case rva18=>rw [←hW18];go_simp
        have HK18:=Zh (show DrK B bt z q m p w W18_ _ _ _ _ _ _ _ _ _ _ _ _ _ by rw [←hW18];exact HK17.o.alloc _);have EF18:=Zh (show Qg W18_ FNA 5 (.slice (some ⟨W17_.heap.size,0,none⟩) 1 1) [iv m,.slice ga gn gc,iv m,.slice ua un uc,.slice wa wn_ wc_] by rw [←hW18];exact Qg.new [iv m,.slice ga gn gc,iv m,.slice ua un uc,.slice wa wn_ wc_] 1 rfl (by decide));have HTB:=Zh (show Qja W18_ (.slice ga gn gc) (.slice ua un uc) (.slice wa wn_ wc_) t by rw [←hW18];exact HTA.o.keep Qf.alloc Qf.alloc);clear hW18;clear hS0;have hS0:(fun w':World=>(((((w'.cell? ⟨q,0,none⟩=some (iv m)∧w'.cell? ⟨q,1,none⟩=some (.slice da ds.length dc))∧w'.cell? ⟨q,2,none⟩=some (.slice ta ts.length tc))∧w'.cell? ⟨q,3,none⟩=some (.slice ba bs.length bc))∧w'.cell? ⟨p,0,none⟩=some (iv m))∧w'.cell? ⟨p,1,none⟩=some (.slice va vn vc))) W18_:=HK18.o.cells;refine⟨fun _=>hS0,?_⟩;refine Zo 17 ?_;obtain⟨xs19,ho19,hx19⟩:=HK18.o.tr;refine QAb 17 (some 61) rfl (by kernel_rfl) rfl _ _ 33 rfl (q+1) FNA _ 5 88 Tryz.underlying33 QFi rfl (by decide) (.slice ta ts.length tc) ts.length xs19.flatten ho19 (by kernel_rfl) (.slice (some ⟨W17_.heap.size,0,none⟩) 1 1) 1 [iv m,.slice ga gn gc,iv m,.slice ua un uc,.slice wa wn_ wc_] (by kernel_rfl) EF18.o rfl rfl (by unfold maxLen;omega) (by omega) HK18.o.qs ?_;intro g19 c19 W19_ hr19 hg19;have HK19:=Zh (show DrK B bt z q m p w W19_ (.slice ka kn kc) (.slice va vn vc) k s5 (.slice da ds.length dc) (.slice ta ts.length tc) (.slice ba bs.length bc) (.slice g13 (ds.length+1) c13) (.slice g19 (ts.length+1) c19) (.slice g16 (bs.length+1) c16) (ds++[k]) (ts++[t]) (bs++[s5]) from HK18.o.pushT (t:=t) HTB.o ho19 hx19 (by rw [HOT.o.gen.width,HOT.o.kill.width];exact hr19) hg19);clear ho19 hx19 hr19 hg19;clear hS0;have hS0:(fun w':World=>(((((w'.cell? ⟨q,0,none⟩=some (iv m)∧w'.cell? ⟨q,1,none⟩=some (.slice da ds.length dc))∧w'.cell? ⟨q,2,none⟩=some (.slice ta ts.length tc))∧w'.cell? ⟨q,3,none⟩=some (.slice ba bs.length bc))∧w'.cell? ⟨p,0,none⟩=some (iv m))∧w'.cell? ⟨p,1,none⟩=some (.slice va vn vc))) W19_:=HK19.o.cells;refine⟨fun _=>hS0,?_⟩;refine Zo 19 ?_;have HF:=Zh HK19.o.fin;have f1:=(Qa HK19.o.cur).2 1;have f2:=(Qa HK19.o.cur).2 2;have f3:=(Qa HK19.o.cur).2 3;obtain⟨d0,d1,d2,d3⟩:=QO HK19.o.cur;clear hS0;refine QQ 19 none (W19_.setCell ⟨q,1,none⟩ (.slice g13 (ds.length+1) c13)) rfl (by kernel_rfl) ?rs20 rfl ?_
        case rs20=>go_simp
        refine⟨fun h=>absurd h (by decide),?_⟩;refine Zo 20 ?_;refine Qs 20 (some 63) (.pointer (some ⟨q,3,none⟩)) (W19_.setCell ⟨q,1,none⟩ (.slice g13 (ds.length+1) c13)) rfl (by kernel_rfl) ?rp21 rfl ?_
        case rp21=>go_simp
        refine⟨fun h=>absurd h (by decide),?_⟩;refine Zo 21 ?_;refine QQ 21 none ((W19_.setCell ⟨q,1,none⟩ (.slice g13 (ds.length+1) c13)).setCell ⟨q,3,none⟩ (.slice g16 (bs.length+1) c16)) rfl (by kernel_rfl) ?rs22 rfl ?_
        case rs22=>go_simp
        refine⟨fun h=>absurd h (by decide),?_⟩;refine Zo 22 ?_;refine Qs 22 (some 64) (.pointer (some ⟨q,2,none⟩)) ((W19_.setCell ⟨q,1,none⟩ (.slice g13 (ds.length+1) c13)).setCell ⟨q,3,none⟩ (.slice g16 (bs.length+1) c16)) rfl (by kernel_rfl) ?rp23 rfl ?_
        case rp23=>go_simp
        refine⟨fun h=>absurd h (by decide),?_⟩;refine Zo 23 ?_;refine QQ 23 none (((W19_.setCell ⟨q,1,none⟩ (.slice g13 (ds.length+1) c13)).setCell ⟨q,3,none⟩ (.slice g16 (bs.length+1) c16)).setCell ⟨q,2,none⟩ (.slice g19 (ts.length+1) c19)) rfl (by kernel_rfl) ?rs24 rfl ?_
        case rs24=>go_simp
        refine⟨fun h=>absurd h (by decide),?_⟩;have hS0:=trivial;refine Qwa (by kernel_rfl) ?_ _;generalize hA:Act.put _ _ _=A0;simp only [Qba,Qaa,Zu,Zv,Zw] at hA;subst hA;clear hS0;go_wp2;go_roundw
        case rel=>exact⟨i+1,_,_,_,_,_,_,by omega,by go_num,HF.o,HSM.o.push HAK.o.1 HAK.o.2 HOT.o HE.o,⟨by rw [List.length_append,HL.o.1];rfl,by rw [List.length_append,HL.o.2.1];rfl,by rw [List.length_append,HL.o.2.2];rfl⟩⟩
        case measure=>simp [intOf];omega
       ·obtain⟨W25_,hW25⟩:=Ze (W12_.alloc (.cells #[iv m,.slice va vn vc] ST));refine Qs 8 (some 52) (.slice (some ⟨W12_.heap.size,0,none⟩) 1 1) W25_ rfl (by kernel_rfl) ?rva25 rfl ?_
        case rva25=>rw [←hW25];go_simp
        have HK25:=Zh (show DrK B bt z q m p w W25_ _ _ _ _ _ _ _ _ _ _ _ _ _ by rw [←hW25];exact HK12.o.alloc _);have EI25:=Zh (show Qg W25_ IT 1 (.slice (some ⟨W0_.heap.size,0,none⟩) 1 1) [.slice ka kn kc] by rw [←hW25];exact Qg.same EI12.o Qf.alloc);have ES25:=Zh (show Qg W25_ ST 2 (.slice (some ⟨W12_.heap.size,0,none⟩) 1 1) [iv m,.slice va vn vc] by rw [←hW25];exact Qg.new [iv m,.slice va vn vc] 1 rfl (by decide));clear hW25;clear hS0;have hS0:(fun w':World=>(((((w'.cell? ⟨q,0,none⟩=some (iv m)∧w'.cell? ⟨q,1,none⟩=some (.slice da ds.length dc))∧w'.cell? ⟨q,2,none⟩=some (.slice ta ts.length tc))∧w'.cell? ⟨q,3,none⟩=some (.slice ba bs.length bc))∧w'.cell? ⟨p,0,none⟩=some (iv m))∧w'.cell? ⟨p,1,none⟩=some (.slice va vn vc))) W25_:=HK25.o.cells;refine⟨fun _=>hS0,?_⟩;refine Zo 4 ?_;obtain⟨xs26,ho26,hx26⟩:=HK25.o.dp;refine QAb 4 (some 48) rfl (by kernel_rfl) rfl _ _ 32 rfl (q+1) IT _ 1 24 Tryz.underlying32 Qzg rfl (by decide) (.slice da ds.length dc) ds.length xs26.flatten ho26 (by kernel_rfl) (.slice (some ⟨W0_.heap.size,0,none⟩) 1 1) 1 [.slice ka kn kc] (by kernel_rfl) EI25.o rfl rfl (by unfold maxLen;omega) (by omega) HK25.o.qs ?_;intro g26 c26 W26_ hr26 hg26;have HK26:=Zh (show DrK B bt z q m p w W26_ (.slice ka kn kc) (.slice va vn vc) k s5 (.slice da ds.length dc) (.slice ta ts.length tc) (.slice ba bs.length bc) (.slice g26 (ds.length+1) c26) (.slice ta ts.length tc) (.slice ba bs.length bc) (ds++[k]) ts bs from HK25.o.pushD ho26 hx26 hr26 hg26);have ES26:=Zh (show Qg W26_ ST 2 (.slice (some ⟨W12_.heap.size,0,none⟩) 1 1) [iv m,.slice va vn vc] from Qg.same ES25.o (Qf.grown hg26 ho26 (show ST≠IT by decide) hbq));clear ho26 hx26 hr26 hg26;clear hS0;have hS0:(fun w':World=>(((((w'.cell? ⟨q,0,none⟩=some (iv m)∧w'.cell? ⟨q,1,none⟩=some (.slice da ds.length dc))∧w'.cell? ⟨q,2,none⟩=some (.slice ta ts.length tc))∧w'.cell? ⟨q,3,none⟩=some (.slice ba bs.length bc))∧w'.cell? ⟨p,0,none⟩=some (iv m))∧w'.cell? ⟨p,1,none⟩=some (.slice va vn vc))) W26_:=HK26.o.cells;refine⟨fun _=>hS0,?_⟩;refine Zl 18 (some 62) [] ?v27 hS0 ?run27 ?rest27
        case run27=>intro w hS;obtain⟨⟨⟨⟨⟨s0,s1⟩,s2⟩,s3⟩,s4⟩,s5⟩:=hS;go_simp;rfl
        refine Zo 9 ?_;obtain⟨xs28,ho28,hx28⟩:=HK26.o.bd;refine QAb 9 (some 53) rfl (by kernel_rfl) rfl _ _ 34 rfl (q+1) ST _ 2 32 Tryz.underlying34 Qwd rfl (by decide) (.slice ba bs.length bc) bs.length xs28.flatten ho28 (by kernel_rfl) (.slice (some ⟨W12_.heap.size,0,none⟩) 1 1) 1 [iv m,.slice va vn vc] (by kernel_rfl) ES26.o rfl rfl (by unfold maxLen;omega) (by omega) HK26.o.qs ?_;intro g28 c28 W28_ hr28 hg28;have HK28:=Zh (show DrK B bt z q m p w W28_ (.slice ka kn kc) (.slice va vn vc) k s5 (.slice da ds.length dc) (.slice ta ts.length tc) (.slice ba bs.length bc) (.slice g26 (ds.length+1) c26) (.slice ta ts.length tc) (.slice g28 (bs.length+1) c28) (ds++[k]) ts (bs++[s5]) from HK26.o.pushB HE.o.width HPN.o ho28 hx28 hr28 hg28);clear ho28 hx28 hr28 hg28;clear hS0;have hS0:(fun w':World=>(((((w'.cell? ⟨q,0,none⟩=some (iv m)∧w'.cell? ⟨q,1,none⟩=some (.slice da ds.length dc))∧w'.cell? ⟨q,2,none⟩=some (.slice ta ts.length tc))∧w'.cell? ⟨q,3,none⟩=some (.slice ba bs.length bc))∧w'.cell? ⟨p,0,none⟩=some (iv m))∧w'.cell? ⟨p,1,none⟩=some (.slice va vn vc))) W28_:=HK28.o.cells;refine⟨fun _=>hS0,?_⟩;refine Zo 15 ?_;refine Qla 15 (some 59) 27 #[.pointer (some ⟨bt,0,none⟩),iv m] rfl (by kernel_rfl) (by kernel_rfl) rfl ?_;refine(QWh m (by omega) _ HK28.o.tape).mono ?_;rintro e W29_ ⟨t,gu,ku,cu,rfl,hot,hta,htt,htb⟩;obtain⟨ga,gn,gc,rfl⟩:=hta.gen.shape;obtain⟨ua,un,uc,rfl⟩:=hta.kill.shape;obtain⟨wa,wn_,wc_,rfl⟩:∃a n c,cu=.slice a n c:=by obtain⟨a,c,h,-⟩:=hta.cops.cell;exact⟨_,_,_,h⟩
        rw [show trV t (.slice ga gn gc) (.slice ua un uc) (.slice wa wn_ wc_)=.agg #[iv m,.slice ga gn gc,iv m,.slice ua un uc,.slice wa wn_ wc_] by show Value.agg #[iv t.gen.width,_,iv t.kill.width,_,_]=_;rw [hot.gen.width,hot.kill.width]];have HOT:=Zh hot;have HTA:=Zh hta;have HK29:=Zh (show DrK B bt z q m p w W29_ (.slice ka kn kc) (.slice va vn vc) k s5 (.slice da ds.length dc) (.slice ta ts.length tc) (.slice ba bs.length bc) (.slice g26 (ds.length+1) c26) (.slice ta ts.length tc) (.slice g28 (bs.length+1) c28) (ds++[k]) ts (bs++[s5]) from HK28.o.next htt htb);clear hot hta htt htb;clear hS0;have hS0:(fun w':World=>(((((w'.cell? ⟨q,0,none⟩=some (iv m)∧w'.cell? ⟨q,1,none⟩=some (.slice da ds.length dc))∧w'.cell? ⟨q,2,none⟩=some (.slice ta ts.length tc))∧w'.cell? ⟨q,3,none⟩=some (.slice ba bs.length bc))∧w'.cell? ⟨p,0,none⟩=some (iv m))∧w'.cell? ⟨p,1,none⟩=some (.slice va vn vc))) W29_:=HK29.o.cells;refine⟨_,rfl,fun _=>hS0,?_⟩;refine Zo 16 ?_;obtain⟨W30_,hW30⟩:=Ze (W29_.alloc (.cells #[iv m,.slice ga gn gc,iv m,.slice ua un uc,.slice wa wn_ wc_] FNA));refine Qs 16 (some 60) (.slice (some ⟨W29_.heap.size,0,none⟩) 1 1) W30_ rfl (by kernel_rfl) ?rva30 rfl ?_
        case rva30=>rw [←hW30];go_simp
        have HK30:=Zh (show DrK B bt z q m p w W30_ _ _ _ _ _ _ _ _ _ _ _ _ _ by rw [←hW30];exact HK29.o.alloc _);have EF30:=Zh (show Qg W30_ FNA 5 (.slice (some ⟨W29_.heap.size,0,none⟩) 1 1) [iv m,.slice ga gn gc,iv m,.slice ua un uc,.slice wa wn_ wc_] by rw [←hW30];exact Qg.new [iv m,.slice ga gn gc,iv m,.slice ua un uc,.slice wa wn_ wc_] 1 rfl (by decide));have HTB:=Zh (show Qja W30_ (.slice ga gn gc) (.slice ua un uc) (.slice wa wn_ wc_) t by rw [←hW30];exact HTA.o.keep Qf.alloc Qf.alloc);clear hW30;clear hS0;have hS0:(fun w':World=>(((((w'.cell? ⟨q,0,none⟩=some (iv m)∧w'.cell? ⟨q,1,none⟩=some (.slice da ds.length dc))∧w'.cell? ⟨q,2,none⟩=some (.slice ta ts.length tc))∧w'.cell? ⟨q,3,none⟩=some (.slice ba bs.length bc))∧w'.cell? ⟨p,0,none⟩=some (iv m))∧w'.cell? ⟨p,1,none⟩=some (.slice va vn vc))) W30_:=HK30.o.cells;refine⟨fun _=>hS0,?_⟩;refine Zo 17 ?_;obtain⟨xs31,ho31,hx31⟩:=HK30.o.tr;refine QAb 17 (some 61) rfl (by kernel_rfl) rfl _ _ 33 rfl (q+1) FNA _ 5 88 Tryz.underlying33 QFi rfl (by decide) (.slice ta ts.length tc) ts.length xs31.flatten ho31 (by kernel_rfl) (.slice (some ⟨W29_.heap.size,0,none⟩) 1 1) 1 [iv m,.slice ga gn gc,iv m,.slice ua un uc,.slice wa wn_ wc_] (by kernel_rfl) EF30.o rfl rfl (by unfold maxLen;omega) (by omega) HK30.o.qs ?_;intro g31 c31 W31_ hr31 hg31;have HK31:=Zh (show DrK B bt z q m p w W31_ (.slice ka kn kc) (.slice va vn vc) k s5 (.slice da ds.length dc) (.slice ta ts.length tc) (.slice ba bs.length bc) (.slice g26 (ds.length+1) c26) (.slice g31 (ts.length+1) c31) (.slice g28 (bs.length+1) c28) (ds++[k]) (ts++[t]) (bs++[s5]) from HK30.o.pushT (t:=t) HTB.o ho31 hx31 (by rw [HOT.o.gen.width,HOT.o.kill.width];exact hr31) hg31);clear ho31 hx31 hr31 hg31;clear hS0;have hS0:(fun w':World=>(((((w'.cell? ⟨q,0,none⟩=some (iv m)∧w'.cell? ⟨q,1,none⟩=some (.slice da ds.length dc))∧w'.cell? ⟨q,2,none⟩=some (.slice ta ts.length tc))∧w'.cell? ⟨q,3,none⟩=some (.slice ba bs.length bc))∧w'.cell? ⟨p,0,none⟩=some (iv m))∧w'.cell? ⟨p,1,none⟩=some (.slice va vn vc))) W31_:=HK31.o.cells;refine⟨fun _=>hS0,?_⟩;refine Zo 19 ?_;have HF:=Zh HK31.o.fin;have f1:=(Qa HK31.o.cur).2 1;have f2:=(Qa HK31.o.cur).2 2;have f3:=(Qa HK31.o.cur).2 3;obtain⟨d0,d1,d2,d3⟩:=QO HK31.o.cur;clear hS0;refine QQ 19 none (W31_.setCell ⟨q,1,none⟩ (.slice g26 (ds.length+1) c26)) rfl (by kernel_rfl) ?rs32 rfl ?_
        case rs32=>go_simp
        refine⟨fun h=>absurd h (by decide),?_⟩;refine Zo 20 ?_;refine Qs 20 (some 63) (.pointer (some ⟨q,3,none⟩)) (W31_.setCell ⟨q,1,none⟩ (.slice g26 (ds.length+1) c26)) rfl (by kernel_rfl) ?rp33 rfl ?_
        case rp33=>go_simp
        refine⟨fun h=>absurd h (by decide),?_⟩;refine Zo 21 ?_;refine QQ 21 none ((W31_.setCell ⟨q,1,none⟩ (.slice g26 (ds.length+1) c26)).setCell ⟨q,3,none⟩ (.slice g28 (bs.length+1) c28)) rfl (by kernel_rfl) ?rs34 rfl ?_
        case rs34=>go_simp
        refine⟨fun h=>absurd h (by decide),?_⟩;refine Zo 22 ?_;refine Qs 22 (some 64) (.pointer (some ⟨q,2,none⟩)) ((W31_.setCell ⟨q,1,none⟩ (.slice g26 (ds.length+1) c26)).setCell ⟨q,3,none⟩ (.slice g28 (bs.length+1) c28)) rfl (by kernel_rfl) ?rp35 rfl ?_
        case rp35=>go_simp
        refine⟨fun h=>absurd h (by decide),?_⟩;refine Zo 23 ?_;refine QQ 23 none (((W31_.setCell ⟨q,1,none⟩ (.slice g26 (ds.length+1) c26)).setCell ⟨q,3,none⟩ (.slice g28 (bs.length+1) c28)).setCell ⟨q,2,none⟩ (.slice g31 (ts.length+1) c31)) rfl (by kernel_rfl) ?rs36 rfl ?_
        case rs36=>go_simp
        refine⟨fun h=>absurd h (by decide),?_⟩;have hS0:=trivial;refine Qwa (by kernel_rfl) ?_ _;generalize hA:Act.put _ _ _=A0;simp only [Qba,Qaa,Zu,Zv,Zw] at hA;subst hA;clear hS0;go_wp2;go_roundw
        case rel=>exact⟨i+1,_,_,_,_,_,_,by omega,by go_num,HF.o,HSM.o.push HAK.o.1 HAK.o.2 HOT.o HE.o,⟨by rw [List.length_append,HL.o.1];rfl,by rw [List.length_append,HL.o.2.1];rfl,by rw [List.length_append,HL.o.2.2];rfl⟩⟩
        case measure=>simp [intOf];omega
      ·obtain⟨W37_,hW37⟩:=Ze (W0_.alloc (.cells #[iv m,.slice va vn vc] ST));refine Qs 8 (some 52) (.slice (some ⟨W0_.heap.size,0,none⟩) 1 1) W37_ rfl (by kernel_rfl) ?rva37 rfl ?_
       case rva37=>rw [←hW37];go_simp
       have HK37:=Zh (show DrK B bt z q m p w W37_ _ _ _ _ _ _ _ _ _ _ _ _ _ by rw [←hW37];exact HK0.o.alloc _);have ES37:=Zh (show Qg W37_ ST 2 (.slice (some ⟨W0_.heap.size,0,none⟩) 1 1) [iv m,.slice va vn vc] by rw [←hW37];exact Qg.new [iv m,.slice va vn vc] 1 rfl (by decide));clear hW37;clear hS0;have hS0:(fun w':World=>(((((w'.cell? ⟨q,0,none⟩=some (iv m)∧w'.cell? ⟨q,1,none⟩=some (.slice da ds.length dc))∧w'.cell? ⟨q,2,none⟩=some (.slice ta ts.length tc))∧w'.cell? ⟨q,3,none⟩=some (.slice ba bs.length bc))∧w'.cell? ⟨p,0,none⟩=some (iv m))∧w'.cell? ⟨p,1,none⟩=some (.slice va vn vc))) W37_:=HK37.o.cells;refine⟨fun _=>hS0,?_⟩;refine Zo 3 ?_;obtain⟨W38_,hW38⟩:=Ze (W37_.alloc (.cells #[.slice ka kn kc] IT));refine Qs 3 (some 47) (.slice (some ⟨W37_.heap.size,0,none⟩) 1 1) W38_ rfl (by kernel_rfl) ?rva38 rfl ?_
       case rva38=>rw [←hW38];go_simp
       have HK38:=Zh (show DrK B bt z q m p w W38_ _ _ _ _ _ _ _ _ _ _ _ _ _ by rw [←hW38];exact HK37.o.alloc _);have ES38:=Zh (show Qg W38_ ST 2 (.slice (some ⟨W0_.heap.size,0,none⟩) 1 1) [iv m,.slice va vn vc] by rw [←hW38];exact Qg.same ES37.o Qf.alloc);have EI38:=Zh (show Qg W38_ IT 1 (.slice (some ⟨W37_.heap.size,0,none⟩) 1 1) [.slice ka kn kc] by rw [←hW38];exact Qg.new [.slice ka kn kc] 1 rfl (by decide));clear hW38;clear hS0;have hS0:(fun w':World=>(((((w'.cell? ⟨q,0,none⟩=some (iv m)∧w'.cell? ⟨q,1,none⟩=some (.slice da ds.length dc))∧w'.cell? ⟨q,2,none⟩=some (.slice ta ts.length tc))∧w'.cell? ⟨q,3,none⟩=some (.slice ba bs.length bc))∧w'.cell? ⟨p,0,none⟩=some (iv m))∧w'.cell? ⟨p,1,none⟩=some (.slice va vn vc))) W38_:=HK38.o.cells;refine⟨fun _=>hS0,?_⟩;refine Zo 4 ?_;obtain⟨xs39,ho39,hx39⟩:=HK38.o.dp;refine QAb 4 (some 48) rfl (by kernel_rfl) rfl _ _ 32 rfl (q+1) IT _ 1 24 Tryz.underlying32 Qzg rfl (by decide) (.slice da ds.length dc) ds.length xs39.flatten ho39 (by kernel_rfl) (.slice (some ⟨W37_.heap.size,0,none⟩) 1 1) 1 [.slice ka kn kc] (by kernel_rfl) EI38.o rfl rfl (by unfold maxLen;omega) (by omega) HK38.o.qs ?_;intro g39 c39 W39_ hr39 hg39;have HK39:=Zh (show DrK B bt z q m p w W39_ (.slice ka kn kc) (.slice va vn vc) k s5 (.slice da ds.length dc) (.slice ta ts.length tc) (.slice ba bs.length bc) (.slice g39 (ds.length+1) c39) (.slice ta ts.length tc) (.slice ba bs.length bc) (ds++[k]) ts bs from HK38.o.pushD ho39 hx39 hr39 hg39);have ES39:=Zh (show Qg W39_ ST 2 (.slice (some ⟨W0_.heap.size,0,none⟩) 1 1) [iv m,.slice va vn vc] from Qg.same ES38.o (Qf.grown hg39 ho39 (show ST≠IT by decide) hbq));clear ho39 hx39 hr39 hg39;clear hS0;have hS0:(fun w':World=>(((((w'.cell? ⟨q,0,none⟩=some (iv m)∧w'.cell? ⟨q,1,none⟩=some (.slice da ds.length dc))∧w'.cell? ⟨q,2,none⟩=some (.slice ta ts.length tc))∧w'.cell? ⟨q,3,none⟩=some (.slice ba bs.length bc))∧w'.cell? ⟨p,0,none⟩=some (iv m))∧w'.cell? ⟨p,1,none⟩=some (.slice va vn vc))) W39_:=HK39.o.cells;refine⟨fun _=>hS0,?_⟩;refine Zl 18 (some 62) [] ?v40 hS0 ?run40 ?rest40
       case run40=>intro w hS;obtain⟨⟨⟨⟨⟨s0,s1⟩,s2⟩,s3⟩,s4⟩,s5⟩:=hS;go_simp;rfl
       refine Zo 9 ?_;obtain⟨xs41,ho41,hx41⟩:=HK39.o.bd;refine QAb 9 (some 53) rfl (by kernel_rfl) rfl _ _ 34 rfl (q+1) ST _ 2 32 Tryz.underlying34 Qwd rfl (by decide) (.slice ba bs.length bc) bs.length xs41.flatten ho41 (by kernel_rfl) (.slice (some ⟨W0_.heap.size,0,none⟩) 1 1) 1 [iv m,.slice va vn vc] (by kernel_rfl) ES39.o rfl rfl (by unfold maxLen;omega) (by omega) HK39.o.qs ?_;intro g41 c41 W41_ hr41 hg41;have HK41:=Zh (show DrK B bt z q m p w W41_ (.slice ka kn kc) (.slice va vn vc) k s5 (.slice da ds.length dc) (.slice ta ts.length tc) (.slice ba bs.length bc) (.slice g39 (ds.length+1) c39) (.slice ta ts.length tc) (.slice g41 (bs.length+1) c41) (ds++[k]) ts (bs++[s5]) from HK39.o.pushB HE.o.width HPN.o ho41 hx41 hr41 hg41);clear ho41 hx41 hr41 hg41;clear hS0;have hS0:(fun w':World=>(((((w'.cell? ⟨q,0,none⟩=some (iv m)∧w'.cell? ⟨q,1,none⟩=some (.slice da ds.length dc))∧w'.cell? ⟨q,2,none⟩=some (.slice ta ts.length tc))∧w'.cell? ⟨q,3,none⟩=some (.slice ba bs.length bc))∧w'.cell? ⟨p,0,none⟩=some (iv m))∧w'.cell? ⟨p,1,none⟩=some (.slice va vn vc))) W41_:=HK41.o.cells;refine⟨fun _=>hS0,?_⟩;refine Zo 15 ?_;refine Qla 15 (some 59) 27 #[.pointer (some ⟨bt,0,none⟩),iv m] rfl (by kernel_rfl) (by kernel_rfl) rfl ?_;refine(QWh m (by omega) _ HK41.o.tape).mono ?_;rintro e W42_ ⟨t,gu,ku,cu,rfl,hot,hta,htt,htb⟩;obtain⟨ga,gn,gc,rfl⟩:=hta.gen.shape;obtain⟨ua,un,uc,rfl⟩:=hta.kill.shape;obtain⟨wa,wn_,wc_,rfl⟩:∃a n c,cu=.slice a n c:=by obtain⟨a,c,h,-⟩:=hta.cops.cell;exact⟨_,_,_,h⟩
       rw [show trV t (.slice ga gn gc) (.slice ua un uc) (.slice wa wn_ wc_)=.agg #[iv m,.slice ga gn gc,iv m,.slice ua un uc,.slice wa wn_ wc_] by show Value.agg #[iv t.gen.width,_,iv t.kill.width,_,_]=_;rw [hot.gen.width,hot.kill.width]];have HOT:=Zh hot;have HTA:=Zh hta;have HK42:=Zh (show DrK B bt z q m p w W42_ (.slice ka kn kc) (.slice va vn vc) k s5 (.slice da ds.length dc) (.slice ta ts.length tc) (.slice ba bs.length bc) (.slice g39 (ds.length+1) c39) (.slice ta ts.length tc) (.slice g41 (bs.length+1) c41) (ds++[k]) ts (bs++[s5]) from HK41.o.next htt htb);clear hot hta htt htb;clear hS0;have hS0:(fun w':World=>(((((w'.cell? ⟨q,0,none⟩=some (iv m)∧w'.cell? ⟨q,1,none⟩=some (.slice da ds.length dc))∧w'.cell? ⟨q,2,none⟩=some (.slice ta ts.length tc))∧w'.cell? ⟨q,3,none⟩=some (.slice ba bs.length bc))∧w'.cell? ⟨p,0,none⟩=some (iv m))∧w'.cell? ⟨p,1,none⟩=some (.slice va vn vc))) W42_:=HK42.o.cells;refine⟨_,rfl,fun _=>hS0,?_⟩;refine Zo 16 ?_;obtain⟨W43_,hW43⟩:=Ze (W42_.alloc (.cells #[iv m,.slice ga gn gc,iv m,.slice ua un uc,.slice wa wn_ wc_] FNA));refine Qs 16 (some 60) (.slice (some ⟨W42_.heap.size,0,none⟩) 1 1) W43_ rfl (by kernel_rfl) ?rva43 rfl ?_
       case rva43=>rw [←hW43];go_simp
       have HK43:=Zh (show DrK B bt z q m p w W43_ _ _ _ _ _ _ _ _ _ _ _ _ _ by rw [←hW43];exact HK42.o.alloc _);have EF43:=Zh (show Qg W43_ FNA 5 (.slice (some ⟨W42_.heap.size,0,none⟩) 1 1) [iv m,.slice ga gn gc,iv m,.slice ua un uc,.slice wa wn_ wc_] by rw [←hW43];exact Qg.new [iv m,.slice ga gn gc,iv m,.slice ua un uc,.slice wa wn_ wc_] 1 rfl (by decide));have HTB:=Zh (show Qja W43_ (.slice ga gn gc) (.slice ua un uc) (.slice wa wn_ wc_) t by rw [←hW43];exact HTA.o.keep Qf.alloc Qf.alloc);clear hW43;clear hS0;have hS0:(fun w':World=>(((((w'.cell? ⟨q,0,none⟩=some (iv m)∧w'.cell? ⟨q,1,none⟩=some (.slice da ds.length dc))∧w'.cell? ⟨q,2,none⟩=some (.slice ta ts.length tc))∧w'.cell? ⟨q,3,none⟩=some (.slice ba bs.length bc))∧w'.cell? ⟨p,0,none⟩=some (iv m))∧w'.cell? ⟨p,1,none⟩=some (.slice va vn vc))) W43_:=HK43.o.cells;refine⟨fun _=>hS0,?_⟩;refine Zo 17 ?_;obtain⟨xs44,ho44,hx44⟩:=HK43.o.tr;refine QAb 17 (some 61) rfl (by kernel_rfl) rfl _ _ 33 rfl (q+1) FNA _ 5 88 Tryz.underlying33 QFi rfl (by decide) (.slice ta ts.length tc) ts.length xs44.flatten ho44 (by kernel_rfl) (.slice (some ⟨W42_.heap.size,0,none⟩) 1 1) 1 [iv m,.slice ga gn gc,iv m,.slice ua un uc,.slice wa wn_ wc_] (by kernel_rfl) EF43.o rfl rfl (by unfold maxLen;omega) (by omega) HK43.o.qs ?_;intro g44 c44 W44_ hr44 hg44;have HK44:=Zh (show DrK B bt z q m p w W44_ (.slice ka kn kc) (.slice va vn vc) k s5 (.slice da ds.length dc) (.slice ta ts.length tc) (.slice ba bs.length bc) (.slice g39 (ds.length+1) c39) (.slice g44 (ts.length+1) c44) (.slice g41 (bs.length+1) c41) (ds++[k]) (ts++[t]) (bs++[s5]) from HK43.o.pushT (t:=t) HTB.o ho44 hx44 (by rw [HOT.o.gen.width,HOT.o.kill.width];exact hr44) hg44);clear ho44 hx44 hr44 hg44;clear hS0;have hS0:(fun w':World=>(((((w'.cell? ⟨q,0,none⟩=some (iv m)∧w'.cell? ⟨q,1,none⟩=some (.slice da ds.length dc))∧w'.cell? ⟨q,2,none⟩=some (.slice ta ts.length tc))∧w'.cell? ⟨q,3,none⟩=some (.slice ba bs.length bc))∧w'.cell? ⟨p,0,none⟩=some (iv m))∧w'.cell? ⟨p,1,none⟩=some (.slice va vn vc))) W44_:=HK44.o.cells;refine⟨fun _=>hS0,?_⟩;refine Zo 19 ?_;have HF:=Zh HK44.o.fin;have f1:=(Qa HK44.o.cur).2 1;have f2:=(Qa HK44.o.cur).2 2;have f3:=(Qa HK44.o.cur).2 3;obtain⟨d0,d1,d2,d3⟩:=QO HK44.o.cur;clear hS0;refine QQ 19 none (W44_.setCell ⟨q,1,none⟩ (.slice g39 (ds.length+1) c39)) rfl (by kernel_rfl) ?rs45 rfl ?_
       case rs45=>go_simp
       refine⟨fun h=>absurd h (by decide),?_⟩;refine Zo 20 ?_;refine Qs 20 (some 63) (.pointer (some ⟨q,3,none⟩)) (W44_.setCell ⟨q,1,none⟩ (.slice g39 (ds.length+1) c39)) rfl (by kernel_rfl) ?rp46 rfl ?_
       case rp46=>go_simp
       refine⟨fun h=>absurd h (by decide),?_⟩;refine Zo 21 ?_;refine QQ 21 none ((W44_.setCell ⟨q,1,none⟩ (.slice g39 (ds.length+1) c39)).setCell ⟨q,3,none⟩ (.slice g41 (bs.length+1) c41)) rfl (by kernel_rfl) ?rs47 rfl ?_
       case rs47=>go_simp
       refine⟨fun h=>absurd h (by decide),?_⟩;refine Zo 22 ?_;refine Qs 22 (some 64) (.pointer (some ⟨q,2,none⟩)) ((W44_.setCell ⟨q,1,none⟩ (.slice g39 (ds.length+1) c39)).setCell ⟨q,3,none⟩ (.slice g41 (bs.length+1) c41)) rfl (by kernel_rfl) ?rp48 rfl ?_
       case rp48=>go_simp
       refine⟨fun h=>absurd h (by decide),?_⟩;refine Zo 23 ?_;refine QQ 23 none (((W44_.setCell ⟨q,1,none⟩ (.slice g39 (ds.length+1) c39)).setCell ⟨q,3,none⟩ (.slice g41 (bs.length+1) c41)).setCell ⟨q,2,none⟩ (.slice g44 (ts.length+1) c44)) rfl (by kernel_rfl) ?rs49 rfl ?_
       case rs49=>go_simp
       refine⟨fun h=>absurd h (by decide),?_⟩;have hS0:=trivial;refine Qwa (by kernel_rfl) ?_ _;generalize hA:Act.put _ _ _=A0;simp only [Qba,Qaa,Zu,Zv,Zw] at hA;subst hA;clear hS0;go_wp2;go_roundw
       case rel=>exact⟨i+1,_,_,_,_,_,_,by omega,by go_num,HF.o,HSM.o.push HAK.o.1 HAK.o.2 HOT.o HE.o,⟨by rw [List.length_append,HL.o.1];rfl,by rw [List.length_append,HL.o.2.1];rfl,by rw [List.length_append,HL.o.2.2];rfl⟩⟩
       case measure=>simp [intOf];omega
    ·have t1:decide ((0:Int)<(d:Int))=true:=decide_eq_true (by omega);have HWD:=Zh (show wrap64 ((d:Int)-1)=((d-1:Nat):Int) from(IntWalk.wrap64_in _ (by have:=HD.o.len;omega)).trans (by omega));go_wp2_with (first
     |(go_at_call 16;refine(QMc HJ.o.tape n (by omega)).mono ?_;rintro e w3 ⟨x,x1,x2,rfl,ht3,hb3⟩;have J3:=Zh (HJ.o.next ht3 hb3);have K3:=Zh (HK.o.but HJ.o.tape hb3);have D3:=Zh (HD.o.ins hdp x1 (by omega:x<n));clear ht3 hb3)
     |(go_at_call 65;refine(Qyo k x _ _ K3.o HD.o.asc (by have:=HD.o.len;omega) (by have:=J3.o.zb;have:=Qb J3.o.res;omega)).mono ?_;rintro e w4 ⟨y4,rfl,K4,b4⟩;have J4:=Zh (J3.o.next (J3.o.tape.below b4) ((But.refl _ _).below b4));have K4:=Zh K4;clear b4 J3 K3))
     go_roundw
     case rel=>exact⟨d-1,_,congrArg (Value.int .i64) HWD.o,J4.o,K4.o,D3.o⟩
     case measure=>simp only [intOf];rw [HWD.o];omega
end
section
open Go.RowKit
variable [Base]
def Qhj (s t:QSet):Bool:=decide (s.width=t.width)&&decide (s.words=t.words)
theorem Qpk (s t:QSet) (u1 u2:Value) (w:World) (h1:Qi w u1 s.words) (h2:Qi w u2 t.words):Calls Tryz.prog 75 #[setV s u1,setV t u2] w (Qia (Qhj s t) w):=by
 have hud:∀b:Bool,(undef=Value.bool b)=False:=fun b=>by simp [undef]
 obtain⟨d,hd⟩:=Ze (Qhj s t);rw [hd];unfold Qhj at hd;have HD:=Zh hd;obtain⟨a1,c1,rfl,hm,-,-,hk1⟩:=h1.cell;obtain⟨a2,c2,rfl,-,-,-,hk2⟩:=h2.cell;obtain⟨n1,hn1⟩:=Ze s.words.length;obtain⟨n2,hn2⟩:=Ze t.words.length;rw [hn1] at hm h1 ⊢;rw [hn2] at h2 ⊢;obtain⟨W,hW⟩:=Ze ((w.alloc (.cells #[.int .i64 s.width,.slice a1 n1 c1] 52)).alloc (.cells #[.int .i64 t.width,.slice a2 n2 c2] 52));have B0:Below w.heap.size w W:=by rw [←hW];exact(Zb).alloc (by simp) _
 have HB1:W.heap[w.heap.size]? = some (.cells #[.int .i64 s.width,.slice a1 n1 c1] 52 (0,0)):=by rw [←hW];exact Qz _ (heap_alloc_new _ _)
 have HB2:W.heap[w.heap.size+1]? = some (.cells #[.int .i64 t.width,.slice a2 n2 c2] 52 (0,0)):=by rw [←hW];exact Qda _ _
 have H1:=Zh HB1;have H2:=Zh HB2;have HW:=Zh hW;have BB:=Zh B0;have R1:=Zh (h1.below B0);have R2:=Zh (h2.below B0);have HK1:=Zh hk1;have HK2:=Zh hk2;have HN1:=Zh hn1;have HN2:=Zh hn2;unfold maxLen at hm;clear hW HB1 HB2 B0 hn1 hn2 h1 h2 hk1 hk2 hd R1 R2;by_cases hw:s.width=t.width;rotate_left
 ·obtain rfl:d=false:=by rw [←HD.o];simp [hw]
  have q1:(s.width != t.width)=true:=by simpa using hw
  clear hw;go_enter Tryz.func75,Tryz.ntmps75;go_wp2;go_ret;exact⟨rfl,by rw [HW.o];exact BB.o⟩
 have q1:(s.width != t.width)=false:=by simpa using hw
 by_cases hl:n1=n2;rotate_left
 ·obtain rfl:d=false:=by
   rw [←HD.o];have:s.words≠t.words:=fun e=>hl (by rw [←HN1.o,←HN2.o,e])
   simp [this]
  have q2:((n1:Int) !=(n2:Int))=true:=by simp;omega
  clear hw hl;go_enter Tryz.func75,Tryz.ntmps75;go_wp2;go_ret;exact⟨rfl,by rw [HW.o];exact BB.o⟩
 subst hl;have HD2:=Zh (show decide (s.words=t.words)=d by rw [←HD.o];simp [hw]);have q2:((n1:Int) !=(n1:Int))=false:=by simp
 clear hw HD;go_enter Tryz.func75,Tryz.ntmps75;go_wp2_with fail;rw [show(w.alloc (.cells #[.int .i64 s.width,.slice a1 n1 c1] 52)).alloc (.cells #[.int .i64 t.width,.slice a2 n1 c2] 52)=W from HW.o];go_loopw [5] (fun y wr=>∃i:Nat,i≤n1∧y=.int .i64 i∧Hid (s.words.take i=t.words.take i)∧Hid (Below W.heap.size W wr)) (fun y _=>n1-(intOf y).toNat)
 case atStart=>exact⟨0,Nat.zero_le _,rfl,rfl,Below.refl _ _⟩
 case round=>
  obtain⟨i,hi,rfl,HE,HB⟩:=hrel;have G:=Zh (Qc H1.o HB.o (Qb H1.o));have K:=Zh (Qc H2.o HB.o (Qb H2.o));have x0:=(Qa G.o).1 0;have x1:=(Qa G.o).1 1;have y0:=(Qa K.o).1 0;have y1:=(Qa K.o).1 1;simp only [Zx,Zy,Zz] at x0 x1 y0 y1;by_cases hlt:i<n1
  ·obtain⟨x,hx⟩:∃x,s.words[i]? = some x:=⟨_,List.getElem?_eq_getElem (show i<s.words.length by have:=HN1.o;omega)⟩;obtain⟨y,hy⟩:∃y,t.words[i]? = some y:=⟨_,List.getElem?_eq_getElem (show i<t.words.length by have:=HN2.o;omega)⟩;obtain⟨b1,o1,rfl,hb1,-,hc1⟩:=HK1.o i x hx;obtain⟨b2,o2,rfl,hb2,-,hc2⟩:=HK2.o i y hy;have g1:=((BB.o.trans (HB.o.mono BB.o.size)).cell (p:=⟨b1,o1+i,none⟩) hb1).trans hc1;have g2:=((BB.o.trans (HB.o.mono BB.o.size)).cell (p:=⟨b2,o2+i,none⟩) hb2).trans hc2;have e1:(0:Int)≤(i:Int):=by omega
   have e2:(i:Int)<(n1:Int):=by omega
   have HX:=Zh hx;have HY:=Zh hy;clear hc1 hc2 hx hy HK1 HK2;by_cases hxy:x=y
   ·subst hxy;have q3:((x:Int) !=(x:Int))=false:=by simp
    have HE2:=Zh (show s.words.take (i+1)=t.words.take (i+1) by rw [List.take_add_one,List.take_add_one,HE.o,HX.o,HY.o]);go_wp2;go_quiet (fail);go_wp2;go_roundw
    case rel=>exact⟨i+1,by omega,by go_num,HE2,Qp HB.o _⟩
    case measure=>simp [intOf];omega
   ·have q3:((x:Int) !=(y:Int))=true:=by simp;omega
    obtain rfl:d=false:=by
     rw [←HD2.o];have:s.words≠t.words:=by
      intro e;have h1:=HX.o;rw [e,HY.o] at h1;injection h1 with h1
      exact hxy h1.symm
     simpa using this
    go_wp2;go_quiet (fail);go_wp2;go_ret;exact⟨rfl,Qp (BB.o.trans (HB.o.mono BB.o.size)) _⟩
  ·obtain rfl:i=n1:=by omega
   obtain rfl:d=true:=by
    rw [←HD2.o];have h:=HE.o;rw [List.take_of_length_le (by have:=HN1.o;omega),List.take_of_length_le (by have:=HN2.o;omega)] at h
    simpa using h
   go_wp2;go_ret;exact⟨rfl,BB.o.trans (HB.o.mono BB.o.size)⟩
end
section
open Go.RowKit
variable [Base]
theorem Qik {α:Type} [DecidableEq α] {a b:List α} {k:Nat} {x y:α} (ha:a[k]? = some x) (hb:b[k]? = some y) (h:a.take k=b.take k):(a.take (k+1)=b.take (k+1))↔x=y:=by
 rw [List.take_add_one,List.take_add_one,ha,hb,h];simp
theorem Qqs (a b:List Int) (u v:Value) (w:World) (hu:QJa w u a) (hv:QJa w v b):Calls Tryz.prog 59 #[u,v] w (Qia (decide (a=b)) w):=by
 obtain⟨ua,uc,rfl,hun,-,-,huc⟩:=hu.cell;obtain⟨va,vc,rfl,hvn,-,-,hvc⟩:=hv.cell;have HU:=Zh huc;have HV:=Zh hvc;obtain⟨n,hn⟩:=Ze a.length;obtain⟨m,hm⟩:=Ze b.length;rw [hn] at hun ⊢;rw [hm] at hvn ⊢;have HN:=Zh hn;have HM:=Zh hm;obtain⟨d,hd⟩:=Ze (decide (a=b));rw [hd];have HD:=Zh hd;clear huc hvc hu hv hn hm hd;unfold maxLen at hun hvn;by_cases hnm:n=m;rotate_left
 ·have t1:((n:Int) !=(m:Int))=true:=by simp;omega
  have HF:=Zh (show d=false by
   rw [←HD.o];simp only [decide_eq_false_iff_not];rintro rfl;exact hnm (HN.o.symm.trans HM.o))
  clear hnm;go_enter Tryz.func59,Tryz.ntmps59;go_wp2;go_ret;exact⟨by rw [HF.o];rfl,Below.refl _ _⟩
 subst hnm;have t1:((n:Int) !=(n:Int))=false:=by simp
 go_enter Tryz.func59,Tryz.ntmps59;go_wp2;go_loopw [5] (fun y wr=>∃k:Nat,k≤n∧y=.int .i64 k∧Hid (Below w.heap.size w wr)∧Hid (a.take k=b.take k)) (fun y _=>n-(intOf y).toNat)
 case atStart=>exact⟨0,Nat.zero_le _,rfl,Below.refl _ _,by unfold Hid;simp⟩
 case round=>
  obtain⟨k,hk,rfl,HB,HT⟩:=hrel;by_cases hlt:k<n
  ·obtain⟨x,hx⟩:∃x,a[k]? = some x:=⟨_,List.getElem?_eq_getElem (by rw [HN.o];exact hlt)⟩;obtain⟨y,hy⟩:∃y,b[k]? = some y:=⟨_,List.getElem?_eq_getElem (by rw [HM.o];exact hlt)⟩;obtain⟨xb,xo,rfl,hxb,g0⟩:=HU.o k x hx;obtain⟨yb,yo,rfl,hyb,g1⟩:=HV.o k y hy;have g0:=(HB.o.cell (p:=⟨xb,xo+k,none⟩) hxb).trans g0;have g1:=(HB.o.cell (p:=⟨yb,yo+k,none⟩) hyb).trans g1;have HS:=Zh (Qik hx hy HT.o);have HXY:=Zh (And.intro hx hy);clear hx hy;by_cases e:x=y
   ·have t2:(x != y)=false:=by simp [e]
    have HT2:=Zh (HS.o.2 e);clear e;go_wp2;go_quiet (fail);go_wp2;go_roundw
    case rel=>exact⟨k+1,by omega,by go_num,Qp HB.o _,HT2⟩
    case measure=>simp [intOf];omega
   ·have t2:(x != y)=true:=by simp [e]
    have HF:=Zh (show d=false by
     rw [←HD.o];simp only [decide_eq_false_iff_not];rintro rfl;have:=HXY.o.1.symm.trans HXY.o.2;injection this with this
     exact e this)
    clear e;go_wp2;go_quiet (fail);go_wp2;go_ret;exact⟨by rw [HF.o];rfl,Qp HB.o _⟩
  ·obtain rfl:k=n:=by omega
   have HF:=Zh (show d=true by
    rw [←HD.o];have h:=HT.o;rw [List.take_of_length_le (by rw [HN.o];exact Nat.le_refl _),List.take_of_length_le (by rw [HM.o];exact Nat.le_refl _)] at h
    simpa using h)
   go_wp2;go_ret;exact⟨by rw [HF.o];rfl,HB.o⟩
def eqTB (a b:Qw):Bool:=Qhj a.gen b.gen&&(Qhj a.kill b.kill&&decide (a.cops=b.cops))
theorem Qdm (f g:Qw) (fu fk fc gu gk gc:Value) (w:World) (hf:Qja w fu fk fc f) (hg:Qja w gu gk gc g):Calls Tryz.prog 20 #[trV f fu fk fc,trV g gu gk gc] w (Qia (eqTB f g) w):=by
 have HF:=Zh hf;have HG:=Zh hg;obtain⟨fua,fuc,rfl,-⟩:=hf.gen.cell;obtain⟨fka,fkc,rfl,-⟩:=hf.kill.cell;obtain⟨fca,fcc,rfl,hn,-,-,hfc⟩:=hf.cops.cell;obtain⟨gua,guc,rfl,-⟩:=hg.gen.cell;obtain⟨gka,gkc,rfl,-⟩:=hg.kill.cell;obtain⟨gca,gcc,rfl,hm,-,-,hgc⟩:=hg.cops.cell;simp only [trV];obtain⟨fun',h1⟩:∃n,f.gen.words.length=n:=⟨_,rfl⟩;obtain⟨fkn,h2⟩:=Ze f.kill.words.length;obtain⟨n,h3⟩:=Ze f.cops.length;obtain⟨gun,h4⟩:=Ze g.gen.words.length;obtain⟨gkn,h5⟩:=Ze g.kill.words.length;obtain⟨m,h6⟩:=Ze g.cops.length;rw [h1,h2,h3] at HF;rw [h4,h5,h6] at HG;rw [h3] at hn;rw [h6] at hm;rw [h1,h2,h3,h4,h5,h6];have HFC:=Zh hfc;have HGC:=Zh hgc;have HN:=Zh h3;have HM:=Zh h6;obtain⟨z,hz⟩:=Ze w.heap.size;obtain⟨W,hW⟩:=Ze ((w.alloc (.cells #[iv f.gen.width,.slice fua fun' fuc,iv f.kill.width,.slice fka fkn fkc,.slice fca n fcc] FNA)).alloc (.cells #[iv g.gen.width,.slice gua gun guc,iv g.kill.width,.slice gka gkn gkc,.slice gca m gcc] FNA));have HZ:=Zh hz;have BW:=Zh (show Below z w W by rw [←hW,←hz];exact(Zb).alloc (by simp) _);have HCEL:=Zh (show ∀wx,Below W.heap.size W wx→(wx.heap[z]? = some (.cells #[iv f.gen.width,.slice fua fun' fuc,iv f.kill.width,.slice fka fkn fkc,.slice fca n fcc] FNA (0,0))∧wx.heap[z+1]? = some (.cells #[iv g.gen.width,.slice gua gun guc,iv g.kill.width,.slice gka gkn gkc,.slice gca m gcc] FNA (0,0))) by
  have k1:W.heap[z]? = some (.cells #[iv f.gen.width,.slice fua fun' fuc,iv f.kill.width,.slice fka fkn fkc,.slice fca n fcc] FNA (0,0)):=by rw [←hW,←hz,Below.heap_alloc _ _ _ (by simp)];exact heap_alloc_new _ _
  have k2:W.heap[z+1]? = some (.cells #[iv g.gen.width,.slice gua gun guc,iv g.kill.width,.slice gka gkn gkc,.slice gca m gcc] FNA (0,0)):=by rw [←hW,←hz];exact Qda _ _
  exact fun wx b=>⟨Qc k1 b (Qb k1),Qc k2 b (Qb k2)⟩)
 have hWs:W.heap.size=z+2:=by rw [←hW,←hz];simp
 have HWW:=Zh hW;obtain⟨d,hd⟩:=Ze (eqTB f g);rw [hd];obtain⟨d1,hd1⟩:=Ze (Qhj f.gen g.gen);obtain⟨d2,hd2⟩:=Ze (Qhj f.kill g.kill);have HD:=Zh (show d=(d1&&(d2&&decide (f.cops=g.cops))) by rw [←hd,←hd1,←hd2];rfl);have K1:=Zh (show ∀wx,Below z w wx→Calls Tryz.prog 75 #[.agg #[iv f.gen.width,.slice fua fun' fuc],.agg #[iv g.gen.width,.slice gua gun guc]] wx (Qia d1 wx) from fun wx b=>by
  rw [←hd1];exact Qpk f.gen g.gen _ _ wx (HF.o.gen.below (HZ.o▸b)) (HG.o.gen.below (HZ.o▸b)))
 have K2:=Zh (show ∀wx,Below z w wx→Calls Tryz.prog 75 #[.agg #[iv f.kill.width,.slice fka fkn fkc],.agg #[iv g.kill.width,.slice gka gkn gkc]] wx (Qia d2 wx) from fun wx b=>by
  rw [←hd2];exact Qpk f.kill g.kill _ _ wx (HF.o.kill.below (HZ.o▸b)) (HG.o.kill.below (HZ.o▸b)))
 clear hf hg hfc hgc h1 h2 h3 h4 h5 h6 hW hd hd1 hd2;unfold maxLen at hn hm;obtain⟨⟨x0,x1,x2,x3,x4⟩,⟨y0,y1,y2,y3,y4⟩⟩:=And.imp QJ QJ (HCEL.o W (Below.refl _ _));go_enter Tryz.func20,Tryz.ntmps20;go_upto_region 1 with(fail)
 rw [show(w.alloc (.cells #[iv f.gen.width,.slice fua fun' fuc,iv f.kill.width,.slice fka fkn fkc,.slice fca n fcc] FNA)).alloc (.cells #[iv g.gen.width,.slice gua gun guc,iv g.kill.width,.slice gka gkn gkc,.slice gca m gcc] FNA)=W from HWW.o]
 try rw [hz]
 go_wp2_with fail;refine(K1.o W BW.o).mono ?_;rintro e w1 ⟨rfl,b1⟩;have B1:=Zh b1;have BZ1:=Zh (BW.o.trans (b1.mono (by omega)));clear b1 x0 x1 x2 x3 x4 y0 y1 y2 y3 y4;obtain⟨⟨x0,x1,x2,x3,x4⟩,⟨y0,y1,y2,y3,y4⟩⟩:=And.imp QJ QJ (HCEL.o w1 B1.o)
 cases d1 with
|false=>
  have HF2:=Zh (show d=false by rw [HD.o];rfl);go_wp2;go_ret;exact⟨by rw [HF2.o];rfl,by rw [HZ.o];exact BZ1.o⟩
|true=>
  go_wp2_with fail;refine(K2.o w1 BZ1.o).mono ?_;rintro e w2 ⟨rfl,b2⟩;have B2:=Zh (B1.o.trans (b2.mono B1.o.size));have BZ2:=Zh (BZ1.o.trans (b2.mono (by have:=BZ1.o.size;have:=HZ.o;omega)));clear b2 x0 x1 x2 x3 x4 y0 y1 y2 y3 y4;obtain⟨⟨x0,x1,x2,x3,x4⟩,⟨y0,y1,y2,y3,y4⟩⟩:=And.imp QJ QJ (HCEL.o w2 B2.o)
  cases d2 with
 |false=>
   have HF2:=Zh (show d=false by rw [HD.o];rfl);go_wp2;go_ret;exact⟨by rw [HF2.o];rfl,by rw [HZ.o];exact BZ2.o⟩
 |true=>
   by_cases hnm:n=m;rotate_left
   ·have t1:((n:Int) !=(m:Int))=true:=by simp;omega
    have HF2:=Zh (show d=false by
     rw [HD.o];have:¬f.cops=g.cops:=fun e=>hnm (by rw [←HN.o,←HM.o,e])
     simp [this])
    clear hnm;go_wp2;go_ret;exact⟨by rw [HF2.o];rfl,by rw [HZ.o];exact BZ2.o⟩
   subst hnm;have t1:((n:Int) !=(n:Int))=false:=by simp
   have HD2:=Zh (show d=decide (f.cops=g.cops) by rw [HD.o];simp);go_wp2;clear x0 x1 x2 x3 x4 y0 y1 y2 y3 y4 t1;go_loopw [5] (fun y wr=>∃k:Nat,k≤n∧y=.int .i64 k∧Hid (Below W.heap.size W wr)∧Hid (f.cops.take k=g.cops.take k)) (fun y _=>n-(intOf y).toNat)
   case atStart=>exact⟨0,Nat.zero_le _,rfl,B2.o,by unfold Hid;simp⟩
   case round=>
    obtain⟨k,hk,rfl,HB,HT⟩:=hrel;have HBZ:=Zh (show Below z w wr from BW.o.trans (HB.o.mono (by omega)));obtain⟨⟨x0,x1,x2,x3,x4⟩,⟨y0,y1,y2,y3,y4⟩⟩:=And.imp QJ QJ (HCEL.o wr HB.o);by_cases hlt:k<n
    ·obtain⟨⟨p1,p2⟩,hx⟩:∃x,f.cops[k]? = some x:=⟨_,List.getElem?_eq_getElem (by rw [HN.o];exact hlt)⟩;obtain⟨⟨q1,q2⟩,hy⟩:∃y,g.cops[k]? = some y:=⟨_,List.getElem?_eq_getElem (by rw [HM.o];exact hlt)⟩;obtain⟨xb,xo,rfl,hxb,g0,g1⟩:=HFC.o k _ hx;obtain⟨yb,yo,rfl,hyb,g2,g3⟩:=HGC.o k _ hy;simp only at g0 g1 g2 g3;have hxz:xb<z:=by have:=HZ.o;omega
     have hyz:yb<z:=by have:=HZ.o;omega
     have g0:=(HBZ.o.cell (p:=⟨xb,xo+k*2,none⟩) hxz).trans g0;have g1:=(HBZ.o.cell (p:=⟨xb,xo+k*2+1,none⟩) hxz).trans g1;have g2:=(HBZ.o.cell (p:=⟨yb,yo+k*2,none⟩) hyz).trans g2;have g3:=(HBZ.o.cell (p:=⟨yb,yo+k*2+1,none⟩) hyz).trans g3;have HS:=Zh (Qik hx hy HT.o);have HXY:=Zh (And.intro hx hy);clear hx hy;by_cases e:p1=q1∧p2=q2
     ·obtain⟨rfl,rfl⟩:=e;have HT2:=Zh (HS.o.2 rfl);go_wp2;go_quiet (fail);go_wp2;go_roundw
      case rel=>exact⟨k+1,by omega,by go_num,Qp HB.o _,HT2⟩
      case measure=>simp [intOf];omega
     ·have HF2:=Zh (show d=false by
       rw [HD2.o];simp only [decide_eq_false_iff_not];intro h;have h2:=HXY.o;rw [h] at h2;have:=h2.1.symm.trans h2.2;injection this with this
       injection this with e1 e2
       exact e ⟨e1,e2⟩)
      by_cases e1:p1=q1
      ·have e2:¬p2=q2:=fun h=>e ⟨e1,h⟩
       subst e1;clear e;go_wp2;go_quiet (fail);go_wp2;go_ret;exact⟨by rw [HF2.o];rfl,by rw [HZ.o];exact Qp HBZ.o _⟩
      ·clear e;go_wp2;go_quiet (fail);go_wp2;go_ret;exact⟨by rw [HF2.o];rfl,by rw [HZ.o];exact Qp HBZ.o _⟩
    ·obtain rfl:k=n:=by omega
     have HF2:=Zh (show d=true by
      rw [HD2.o];have h:=HT.o;rw [List.take_of_length_le (by rw [HN.o];exact Nat.le_refl _),List.take_of_length_le (by rw [HM.o];exact Nat.le_refl _)] at h
      simpa using h)
     go_wp2;go_ret;exact⟨by rw [HF2.o];rfl,by rw [HZ.o];exact HBZ.o⟩
end
end Go.Proofs.YtijekimobahgpaaGreatDoor
