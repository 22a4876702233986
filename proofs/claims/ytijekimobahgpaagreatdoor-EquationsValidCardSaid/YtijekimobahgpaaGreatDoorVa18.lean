/- A part of the proof. -/
import Derived.Test.YtijekimobahgpaaGreatDoorVa17
set_option linter.unusedVariables false
set_option linter.unusedSimpArgs false
set_option linter.unusedSectionVars false
set_option maxRecDepth 100000
set_option maxHeartbeats 16000000
namespace Go.Proofs.YtijekimobahgpaaGreatDoor
section
open Go.RowKit
variable [Base]
abbrev CpR:={c:Cp // 0≤c.1∧c.1≤1000}
instance:Inhabited CpR:=⟨⟨(0,0),by simp⟩⟩
def encR (x:CpR):List Value:=copV x.1
def cfR (x y:CpR):Int:=x.1.1-y.1.1
theorem ltR (x y:CpR):ltOf cfR x y=decide (x.1.1<y.1.1):=by
 unfold ltOf cfR;rw[decide_eq_decide];omega
theorem swoR:Go.Sort.SWO (ltOf cfR):=by
 refine⟨fun x=>?_,fun x y z h1 h2=>?_,fun x y z h1 h2=>?_⟩
 ·rw[ltR];simp
 ·rw[ltR] at h1 h2 ⊢;simp only[decide_eq_true_eq] at h1 h2 ⊢;omega
 ·rw[ltR] at h1 h2 ⊢;simp only[decide_eq_false_iff_not] at h1 h2 ⊢;omega
theorem QKk:∀(l:List Cp) (t:Nat) (c:Cp),l[t / 2]? = some c→(QHa l)[t]? = some (if t % 2=0 then iv c.1 else iv c.2)
|[],t,c,h=>by simp at h
|x::r,0,c,h=>by simp at h;subst h;rfl
|x::r,1,c,h=>by simp at h;subst h;rfl
|x::r,t+2,c,h=>by
  rw[show(t+2) / 2=t / 2+1 by omega,List.getElem?_cons_succ] at h
  have ih:=QKk r t c h
  rw[show(t+2) % 2=t % 2 by omega]
  simpa [QHa,copV] using ih
theorem QHk (d:List CpR)(t:Nat)(ht:t<d.length*2):(QHa (d.map Subtype.val))[t]? = some ((Go.Sort.flatK encR 2 d.toArray)[t]!):=by
 have hlt:t / 2<d.length:=by omega
 rw[Go.Sort.get_flatK _ _ _ _ (by simpa using ht)];have e:(d.map Subtype.val)[t / 2]? = some (d[t / 2]).1:=by simp[hlt]
 rw[QKk _ _ _ e];have e2:d.toArray[t / 2]! = d[t / 2]:=by simp[hlt]
 rw[e2];unfold encR copV;rcases Nat.mod_two_eq_zero_or_one t with h|h
 ·rw[h];rfl
 ·rw[h];rfl
theorem QJo {w:World}{n g:Nat}{F:Array Value}{os:Array Obj}{cur:Array Value}{t:TypeId}{fr:Nat×Nat}(hg:w.heap[g]? = some (.cells cur t fr)):
  (Sort.grow (Sort.putRow id (Sort.ahead w n) g 0 F) os).heap[g]? = some (.cells (Sort.putCells id 0 F cur) t fr):=by
 have hlt:=Qb hg;rw[Sort.heap_grow_old _ _ (by simpa using hlt)];unfold Sort.putRow Sort.mapBlock;simp[Array.getElem?_modify,Sort.ahead,hg,Sort.onCells]
theorem QOm {w:World}{n g k:Nat}{F:Array Value}{os:Array Obj}(hk:k<w.heap.size)(hne:k≠g):
  (Sort.grow (Sort.putRow id (Sort.ahead w n) g 0 F) os).heap[k]? = w.heap[k]?:=by
 rw[Sort.heap_grow_old _ _ (by simpa using hk)];unfold Sort.putRow Sort.mapBlock;simp[Array.getElem?_modify,Sort.ahead,Ne.symm hne]
theorem Qpt (a1 a2 b1 b2:Int)(ha:0≤a1∧a1≤1000)(hb:0≤b1∧b1≤1000)(w:World):
  Calls Tryz.prog 113 #[.agg #[iv a1,iv a2],.agg #[iv b1,iv b2]] w fun e w'=>e=.returned (iv (a1-b1))∧∃q os',w'=Sort.grow (w.drewN q) os':=by
 have hw:IntKind.i64.wrap (a1-b1)=a1-b1:=by apply IntWalk.i64_in <;> omega
 go_enter Tryz.func113,Tryz.ntmps113;go_wp2;go_ret;exact⟨rfl,0,_,by rw[Go.Sort.alloc_eq_grow,Go.Sort.alloc_eq_grow,Go.Sort.grow_grow];rfl⟩
theorem QLs (g off size:Nat)(w:World):CmpLays Tryz.prog 113 #[] encR 2 cfR g off size w:=
 fun _ _ _ _ x y=>Qpt x.1.1 x.1.2 y.1.1 y.1.2 x.2 y.2 _
theorem QIp (n:Nat)(W:World)(h:n≤12):Calls Tryz.prog 166 #[.int .u64 n] W fun e w'=>(∃l:Int,e=.returned (.int .i64 l))∧w'=W:=
 (Any.bits_Len Tryz.lays125 n W ZO ZO).mono fun _ _ ⟨he,hw⟩=>⟨⟨_,he⟩,hw⟩
theorem QFm (p:Option Addr)(cap:Nat)(fv:Value)(w:World):Calls Tryz.prog 208 #[.slice p 0 cap,iv 0,iv 0,fv] w fun e w'=>e=.returned (.tuple #[])∧w'=w:=by
 go_enter Tryz.func208,Tryz.ntmps208;go_wp2;refine wp_loop_rounds 1 ?_;rw[rounds_succ];go_wp2;go_end0;exact⟨rfl,rfl⟩
theorem Qhm (p:Option Addr)(cap:Nat)(lim:Int)(fv:Value)(w:World):Calls Tryz.prog 167 #[.slice p 0 cap,iv 0,iv 0,iv lim,fv] w fun e w'=>e=.returned (.tuple #[])∧w'=w:=by
 have K:=fun W=>QFm p cap fv W
 go_enter Tryz.func167,Tryz.ntmps167;go_wp2;refine wp_loop_rounds 1 ?_;rw[rounds_succ];go_wp2_with (go_at_call 208;refine(K _).mono ?_;rintro e w' ⟨rfl,rfl⟩)
 (try simp only[Exit.inBlock,Exit.then]);refine bodyPost_ret (results_none rfl _ _ _) rfl ?_
 exact⟨rfl,rfl⟩
theorem Qal (p:Option Addr)(cap:Nat)(fv:Value)(w:World):Calls Tryz.prog 112 #[.slice p 0 cap,fv] w fun e w'=>e=.returned (.tuple #[])∧w'=w:=by
 have K:=fun lim W=>Qhm p cap lim fv W
 have KL:=QIp 0 w ZO;go_enter Tryz.func112,Tryz.ntmps112;go_wp2_with (first|(go_at_call 166;refine KL.mono ?_;rintro e w' ⟨⟨l,rfl⟩,rfl⟩)|(go_at_call 167;refine(K _ _).mono ?_;rintro e w' ⟨rfl,rfl⟩));go_end0;exact⟨rfl,rfl⟩
theorem Qpq {z:Nat}(l:List Cp)(v:Value)(w:World)(hin:∀c∈l,0≤c.1∧c.1≤1000)(hl:l.length≤12)(ho:Qya z w v l):
  Calls Tryz.prog 112 #[v,.func (.func 113) #[] #[]] w
   fun e w'=>e=.returned (.tuple #[])∧∃l',Qya z w' v l'∧l'.Perm l∧(l'.Pairwise fun a b=>a.1≤b.1)∧w.grownBy w' v.ownBlock:=by
 obtain⟨h1,h2⟩:=ho;rcases h2 with⟨rfl,h0⟩|⟨g,cap,cur,rfl,hg,hh,hn,hc,hs,ht⟩
 ·have hl0:l=[]:=List.length_eq_zero_iff.1 h0;subst hl0;refine(Qal none 0 _ w).mono ?_;rintro e w' ⟨rfl,rfl⟩;exact⟨rfl,[],Qya.nil,List.Perm.nil,List.Pairwise.nil,⟨rfl,rfl,rfl,Nat.le_refl _,fun _ _ _=>rfl⟩⟩
 ·obtain⟨L,hL⟩:∃L:List CpR,L.map Subtype.val=l:=⟨l.pmap Subtype.mk hin,by simp[List.map_pmap]⟩;have hLl:L.length=l.length:=by rw[←hL,List.length_map]
  have hlt:=Qb hh;have hcur:∀j,j<l.length*2→cur[j]? =(QHa l)[j]?:=fun j hj=>by
   have e:(cur.toList.take (l.length*2))[j]? =(QHa l)[j]?:=by rw[ht]
   rw[List.getElem?_take_of_lt hj] at e
   simpa using e
  have hH:Go.Sort.HoldsK encR 2 w g 0 L.toArray:=fun j hj=>by
   have hj':j<l.length*2:=by simpa [hLl] using hj
   refine⟨?_,by simp[World.frozen?,hh]⟩;have h3:=QHk L j (by rw[hLl];exact hj');rw[hL,←hcur j hj'] at h3;simp only[Nat.zero_add,World.cell?,hh]
   simpa using h3
  have hcon:=AnyQ.slices_SortFunc_small Tryz.laysSlsf6 2 Tryz.isAgg119 Tryz.sizeOf119 encR (fun _=>rfl) (fun x v hv=>by simp[encR,copV] at hv;rcases hv with rfl|rfl <;> rfl) cfR 113 #[] g 0 cap L.toArray w (enters_of Tryz.func113 ZK rfl) (QLs g 0 _ w) hH hlt (by simp[hLl];omega) QIp
  change Calls Tryz.prog 112 #[.slice (some ⟨g,0,none⟩) L.length cap,_] _ _ at hcon
  rw[hLl] at hcon;refine hcon.mono ?_;rintro e w' ⟨rfl,n,os,rfl⟩;obtain⟨hp,hso⟩:=Go.Sort.insertionSort_holds swoR L.toArray 0 L.toArray.size (Nat.zero_le _) (Nat.le_refl _);obtain⟨R,hR⟩:∃R:List CpR,Go.Sort.insertionSort (ltOf cfR) L.toArray 0 L.toArray.size=R.toArray:=⟨_,(Array.toArray_toList).symm⟩;rw[hR] at hp hso ⊢;have hRl:R.length=L.length:=by simpa using hp.1
  have hperm:R.Perm L:=by
   have h3:=hp.2.2;have h4:(List.take L.length R).Perm L:=by simpa using h3
   rwa [List.take_of_length_le ZO] at h4
  refine⟨rfl,R.map Subtype.val,⟨?_,.inr ⟨g,cap,Sort.putCells id 0 (Go.Sort.flatK encR 2 R.toArray) cur,by rw[List.length_map,hRl,hLl],hg,QJo hh,by rw[List.length_map,hRl,hLl];exact hn,hc,by simp[Sort.putCells,hs],?_⟩⟩,?_,?_,?_⟩
  ·rw[QHa,List.length_flatten,List.map_map];have:∀l:List Cp,(l.map (List.length ∘ copV)).sum=l.length*2:=fun l=>by
    induction l with
   |nil=>rfl
   |cons c r ih=>simp[ih,copV];omega
   exact this _
  ·apply List.ext_getElem?;intro j;have hsz:cur.size=cap*2:=hs;rcases Nat.lt_or_ge j (R.length*2) with hj|hj
   ·rw[List.getElem?_take_of_lt (by rw[List.length_map];exact hj),QHk R j hj];have hjc:j<cur.size:=by omega
    simp[Sort.putCells,hjc,hj]
   ·rw[List.getElem?_eq_none (by rw[List.length_take,List.length_map];omega)];rw[List.getElem?_eq_none];have:∀l:List Cp,(QHa l).length=l.length*2:=fun l=>by
     induction l with
    |nil=>rfl
    |cons c r ih=>simp[QHa,copV] at ih ⊢;omega
    rw[this,List.length_map];exact hj
  ·rw[←hL];exact hperm.map _
  ·rw[List.pairwise_map,List.pairwise_iff_getElem];intro i j hi hj hij;have h3:=hso i j (Nat.zero_le _) hij (by simp;omega);have e1:R.toArray[i]! = R[i]:=by simp[hi]
   have e2:R.toArray[j]! = R[j]:=by simp[hj]
   rw[e1,e2] at h3;rw[ltR] at h3;simp only[decide_eq_false_iff_not] at h3;omega
  ·exact⟨rfl,rfl,rfl,by show _≤(Sort.grow (Sort.putRow id (Sort.ahead w n) g 0 _) os).heap.size;simp,fun k hk hne=>QOm hk fun e=>hne (by rw[e];rfl)⟩
end
section
open Go.RowKit
variable [Base]
theorem QOk:∀(l:List Cp) (c:Cp),Qxa (l++[c])=if l.getLast? = some c then Qxa l else Qxa l++[c]
|[],c=>by simp[Qxa]
|[x],c=>by
  by_cases h:x=c
  ·subst h;simp[Qxa]
  ·simp[Qxa,h]
|x::y::r,c=>by
  have ih:=QOk (y::r) c
  have e:(x::y::r).getLast? =(y::r).getLast?:=by simp[List.getLast?_cons]
  rw[e]
  show Qxa (x::(y::r++[c]))=_
  have e1:∀t,Qxa (x::y::t)=if x=y then Qxa (y::t) else x::Qxa (y::t):=fun t=>rfl
  rw[show(y::r)++[c]=y::(r++[c]) from rfl] at ih ⊢
  rw[e1,e1,ih]
  by_cases hxy:x=y
  ·rw[if_pos hxy,if_pos hxy]
  ·rw[if_neg hxy,if_neg hxy]
   split <;> simp
theorem QNk {l:List Cp}{i:Nat}{c d:Cp}(hi:l[i+1]? = some c)(hd:l[i]? = some d):Qxa (l.take (i+1+1))=if d=c then Qxa (l.take (i+1)) else Qxa (l.take (i+1))++[c]:=by
 have e1:l.take (i+1+1)=l.take (i+1)++[c]:=by rw[List.take_add_one,hi];rfl
 have e2:(l.take (i+1)).getLast? = some d:=by rw[List.take_add_one,hd];simp
 rw[e1,QOk,e2];by_cases h:d=c
 ·subst h;simp
 ·rw[if_neg h,if_neg (by simpa using h)]
theorem Qgn {l:List Cp}(h:l.length≤1):Qxa l=l:=by
 match l,h with
|[],_=>rfl
|[x],_=>rfl
theorem QSh {w0 w:World}{g o:Nat}{x:Value}(h:w0.grownBy w (some g)):w0.grownBy (w.setCell ⟨g,o,none⟩ x) (some g):=
 ⟨h.os,h.tape,h.output,by rw[World.size_setCell];exact h.size,fun k hk hne=>by rw[Below.heap_setCell _ _ _ _ (fun e=>hne (by rw[e]))];exact h.block k hk hne⟩
theorem QHo {w0 w:World}{g q:Nat}(h:w0.grownBy w (some g)):w0.grownBy (w.drewN q) (some g):=⟨h.os,h.tape,h.output,h.size,h.block⟩
structure Cmc (z g cap:Nat)(w0 wr:World)(m:List Cp):Prop where
 own:Qya z wr (.slice (some ⟨g,0,none⟩) m.length cap) m
 grown:w0.grownBy wr (some g)
theorem Cmc.drew {z g cap q:Nat}{w0 wr:World}{m:List Cp}(h:Cmc z g cap w0 wr m):Cmc z g cap w0 (wr.drewN q) m:=⟨h.own.below (Qp (Below.refl _ _) q),QHo h.grown⟩
theorem Cmc.put {z g cap k:Nat}{w0 wr:World}{m:List Cp}(h:Cmc z g cap w0 wr m)(hk:k<m.length)(c:Cp):Cmc z g cap w0 ((wr.setCell ⟨g,k*2,none⟩ (iv c.1)).setCell ⟨g,k*2+1,none⟩ (iv c.2)) (m.set k c):=by
 refine⟨?_,QSh (QSh h.grown)⟩;have h5:=Qvd (Qvd h.own (k*2) (iv c.1)) (k*2+1) (iv c.2);rw[show QHa m=(m.map copV).flatten from rfl,QTh (m.map copV) k _ _ (QJk m) (by rw[List.length_map];exact hk)] at h5;unfold Qya;rw[List.length_set];rw[show QHa (m.set k c)=((m.map copV).set k [iv c.1,iv c.2]).flatten by rw[QHa,List.map_set];rfl];exact h5
theorem Qtl (l:List Cp):(QHa l).length=l.length*2:=by
 induction l with
|nil=>rfl
|cons c r ih=>simp[QHa,copV] at ih ⊢;omega
theorem QUr {z g n k cap:Nat}{w:World}{m:List Cp}(h:w.ownsRow z CT 2 (.slice (some ⟨g,0,none⟩) n cap) n (QHa m))(hm:m.length=n)(hk:k≤n):Qya z w (.slice (some ⟨g,0,none⟩) k cap) (m.take k):=by
 have hlen:∀l:List Cp,(QHa l).length=l.length*2:=fun l=>by
  induction l with
 |nil=>rfl
 |cons c r ih=>simp[QHa,copV] at ih ⊢;omega
 have hl:(m.take k).length=k:=by rw[List.length_take];omega
 obtain⟨h1,h2⟩:=h;rcases h2 with⟨h2,-⟩|⟨g',cap',cur,e,hg,hh,hn,hc,hs,ht⟩
 ·cases h2
 ·injection e with e1 e2 e3
  injection e1 with e1
  injection e1 with e1
  subst e1 e3;unfold Qya;rw[hl];refine⟨by rw[hlen,hl],.inr ⟨g,cap,cur,rfl,hg,hh,by omega,hc,hs,?_⟩⟩;have h3:(cur.toList.take (n*2)).take (k*2)=(QHa m).take (k*2):=by rw[ht]
  rw[List.take_take,Nat.min_eq_left ZO] at h3;rw[h3];apply List.ext_getElem?;intro j;have get:∀(l:List Cp) (t:Nat),(QHa l)[t]? =(l[t / 2]?).map fun c=>if t % 2=0 then iv c.1 else iv c.2:=fun l=>by
   induction l with
  |nil=>intro t;simp[QHa]
  |cons c r ih=>
    intro t
    match t with
   |0=>rfl
   |1=>rfl
   |t+2=>
     rw[show(t+2) / 2=t / 2+1 by omega,show(t+2) % 2=t % 2 by omega,List.getElem?_cons_succ,←ih t];simp[QHa,copV]
  rw[get,List.getElem?_take,List.getElem?_take,get];by_cases hj:j<k*2
  ·rw[if_pos hj,if_pos ZO]
  ·rw[if_neg hj,if_neg ZO];rfl
theorem Qbh {z g n c:Nat}{T:TypeId}{sz:Nat}{xs:List Value}:∀(vs:List Value) {w:World} {o:Nat},xs.length≤o→w.ownsRow z T sz (.slice (some ⟨g,0,none⟩) n c) n xs→(w.setCells g o vs).ownsRow z T sz (.slice (some ⟨g,0,none⟩) n c) n xs
|[],_,_,_,h=>h
|v::r,w,o,ho,h=>by
  have h1:=Qvd h o v
  rw[List.set_eq_of_length_le ho] at h1
  exact Qbh r ZO h1
theorem QEf {w0:World}{g:Nat}:∀(vs:List Value) {w:World} {o:Nat},w0.grownBy w (some g)→w0.grownBy (w.setCells g o vs) (some g)
|[],_,_,h=>h
|v::r,w,o,h=>QEf r (QSh h)
theorem Cmc.cell {z g cap k:Nat}{w0 wr:World}{m:List Cp}{c:Cp}(h:Cmc z g cap w0 wr m)(hk:m[k]? = some c):wr.cell? ⟨g,k*2,none⟩=some (iv c.1)∧wr.cell? ⟨g,k*2+1,none⟩=some (iv c.2):=by
 obtain⟨a,cc,e,-,-,-,hc⟩:=h.own.at_.cell;obtain⟨b,off,e2,-,h1,h2⟩:=hc k c hk;injection e with e
 rw[e2] at e;injection e with e
 injection e with e e3
 subst e e3;rw[Nat.zero_add] at h1 h2;exact⟨h1,h2⟩
theorem Cmc.frz {z g cap:Nat}{w0 wr:World}{m:List Cp}(h:Cmc z g cap w0 wr m)(hz:Base.b≤z)(hm:0<m.length)(j:Nat):wr.frozen? ⟨g,j,none⟩=false:=by
 obtain⟨g',e,-,-,-,-,h5⟩:=QWd (show wr.ownsRow z CT 2 (.slice (some ⟨g,0,none⟩) m.length cap) m.length (QHa m) from h.own) hm hz;injection e with e
 injection e with e
 subst e;exact h5 j
theorem Qij (w:World)(ty:TypeId)(g o n c:Nat)(hn:0<n)(hc:∀j,j<n*2→(w.cell? ⟨g,o+j,none⟩).isSome=true)(hf:∀j,j<n*2→w.frozen? ⟨g,o+j,none⟩=false):
  (Builtin.clear_ #[53] ty #[.slice (some ⟨g,o,none⟩) n c]).run Tryz.prog w=.ok (.tuple #[]) (w.setCells g o (Builtin.zeroCells (Value.agg #[iv 0,iv 0]).cells n).toList):=by
 have hz:(Builtin.zeroCells (Value.agg #[iv 0,iv 0]).cells n).toList.length=n*2:=by simp[Builtin.zeroCells,Value.cells]
 have hst:=run_storeCells_cells (P:=Tryz.prog) g o (Builtin.zeroCells (Value.agg #[iv 0,iv 0]).cells n).toList 0 w (by rw[hz];simpa using hc) (by rw[hz];simpa using hf) (by
  intro v hv;simp[Builtin.zeroCells,Value.cells] at hv;obtain⟨a,ha,rfl⟩:=hv;rcases Nat.mod_two_eq_zero_or_one a with h|h <;> simp[h,Value.oneCell'])
 simp only[Nat.add_zero] at hst;obtain⟨m,rfl⟩:∃m,n=m+1:=⟨n-1,by omega⟩;simp[Builtin.clear_,run_underlying Tryz.underlying53,Tryz.zeroValue119,hst]
theorem Qfn {z:Nat}(l:List Cp)(v:Value)(w:World)(hl:l.length≤12)(ho:Qya z w v l)(hz:Base.b≤z):
  Calls Tryz.prog 114 #[v] w fun e w'=>∃u,e=.returned u∧QKc w' u (Qxa l)∧w.grownBy w' v.ownBlock:=by
 obtain⟨n,hn⟩:=Ze l.length;obtain⟨a,cap,hve,hnc,hcm⟩:=QXa ho;rw[hn] at hve hnc hl;subst hve;by_cases h2:n<2
 ·have HO:=Zh ho;have HC:=Zh (Qgn (l:=l) ZO);clear ho hn;go_enter Tryz.func114,Tryz.ntmps114;go_wp2;go_ret;exact⟨_,rfl,by rw[HC.o];exact HO.o.at_,⟨rfl,rfl,rfl,Nat.le_refl _,fun _ _ _=>rfl⟩⟩
 ·obtain⟨g,rfl,hgz,hgw,hgt,-,hfz⟩:=QWd (show w.ownsRow z CT 2 (.slice a n cap) n (QHa l) by have h3:=ho;unfold Qya at h3;rw[hn] at h3;exact h3) (show 0<n by omega) hz;have HM0:=Zh (show Cmc z g cap w w l from⟨by rw[hn];exact ho,⟨rfl,rfl,rfl,Nat.le_refl _,fun _ _ _=>rfl⟩⟩);have HN:=Zh hn;have hN1:=Zh (show Qxa (l.take 1)=l.take 1 from Qgn (by rw[List.length_take];omega));clear ho hn hfz hgt;go_enter Tryz.func114,Tryz.ntmps114;go_wp2;go_loopw [3] (fun y wr=>∃k:Nat,k+1≤n∧y=.int .i64 ((k:Int)+1)∧Hid (Cmc z g cap w wr l)∧Hid (Qxa (l.take (k+1))=l.take (k+1))) (fun y _=>n-(intOf y).toNat)
  case atStart=>exact⟨0,by omega,by go_num,HM0.o,hN1.o⟩
  case round=>
   obtain⟨k,hk,rfl,HM,HD⟩:=hrel;by_cases hlt:k+1<n
   ·obtain⟨⟨c1,c2⟩,hc⟩:∃c,l[k+1]? = some c:=⟨_,List.getElem?_eq_getElem (by rw[HN.o];exact hlt)⟩;obtain⟨⟨d1,d2⟩,hd⟩:∃c,l[k]? = some c:=⟨_,List.getElem?_eq_getElem (by rw[HN.o];omega)⟩;obtain⟨x0,x1⟩:=HM.o.cell hc;obtain⟨y0,y1⟩:=HM.o.cell hd;have HT:=Zh (QNk hc hd);simp only at x0 x1 y0 y1;have HC1:=Zh hc;clear hc hd;by_cases e:c1=d1∧c2=d2
    ·obtain⟨rfl,rfl⟩:=e;have HS:=Zh (show Qxa (l.take (k+1+1))=l.take (k+1) by rw[HT.o,if_pos rfl];exact HD.o);clear HD HT;go_wp2;go_quiet (fail);go_wp2;clear x0 x1 y0 y1;obtain⟨wo,rfl⟩:∃x:World,x=wr:=⟨_,rfl⟩;have hd13:decide ((k:Int)+1<(n:Int))=true:=by simp;omega
     simp only[hd13];clear hd13;go_loopw [3,5] (fun y3 y5 wr=>∃(kk j:Nat) (m:List Cp),y3=.int .i64 kk∧y5=.int .i64 ((j:Int)+1)∧k+1+(j+1)≤n∧kk≤k+1+j∧Hid (m.length=n)∧Hid (Cmc z g cap w wr m)∧Hid (m.take kk=Qxa (l.take (k+1+j+1)))∧Hid (∀i,k+1+j≤i→m[i]? = l[i]?)) (fun _ y _=>n-(intOf y).toNat)
     case atStart=>exact⟨k+1,0,l,by go_num,by go_num,by omega,by omega,HN.o,HM.o.drew,HS.o.symm,fun _ _=>rfl⟩
     case round=>
      obtain⟨kk,j,m,rfl,rfl,hj,hkk,HML,HMM,HMT,HMR⟩:=hrel;by_cases hlt2:k+1+(j+1)<n
      ·obtain⟨⟨u1,u2⟩,hu⟩:∃c,l[k+1+j+1]? = some c:=⟨_,List.getElem?_eq_getElem (by rw[HN.o];omega)⟩;obtain⟨⟨v1,v2⟩,hv⟩:∃c,l[k+1+j]? = some c:=⟨_,List.getElem?_eq_getElem (by rw[HN.o];omega)⟩;obtain⟨⟨o1,o2⟩,ho⟩:∃c,m[kk]? = some c:=⟨_,List.getElem?_eq_getElem (by rw[HML.o];omega)⟩;obtain⟨x0,x1⟩:=HMM.o.cell ((HMR.o (k+1+j+1) ZO).trans hu);obtain⟨y0,y1⟩:=HMM.o.cell ((HMR.o (k+1+j) ZO).trans hv);rw[show(k+1+j+1)*2=(k+1)*2+(j+1)*2 by omega] at x0 x1;rw[show(k+1+j)*2=(k+1)*2+j*2 by omega] at y0 y1;have HT:=Zh (QNk hu hv);simp only at x0 x1 y0 y1;have HU:=Zh hu;clear hu hv;by_cases e:u1=v1∧u2=v2
       ·obtain⟨rfl,rfl⟩:=e;have HS2:=Zh (show m.take kk=Qxa (l.take (k+1+(j+1)+1)) by
         rw[show k+1+(j+1)+1=k+1+j+1+1 by omega,HT.o,if_pos rfl];exact HMT.o)
        clear HT ho HMT;go_wp2;go_quiet (fail);go_wp2;go_roundw
        case rel=>exact⟨kk,j+1,m,rfl,by go_num,by omega,by omega,HML,HMM.o.drew,HS2,fun i hi=>HMR.o i ZO⟩
        case measure=>simp[intOf];omega
       ·have HS2:=Zh (show(m.set kk (u1,u2)).take (kk+1)=Qxa (l.take (k+1+(j+1)+1)) by
         rw[show k+1+(j+1)+1=k+1+j+1+1 by omega,HT.o,if_neg (fun h=>e (by injection h with h1 h2;exact⟨h1.symm,h2.symm⟩)),←HMT.o];have hlt3:kk<m.length:=by rw[HML.o];omega
         rw[List.take_add_one,List.getElem?_set_self hlt3,List.take_set_of_le (Nat.le_refl _)];rfl)
        obtain⟨p0,p1⟩:=HMM.o.cell ho;simp only at p0 p1;have fz:=HMM.o.frz hz (by rw[HML.o];omega);have f0:=fz (kk*2);have f1:=fz (kk*2+1);have HMP:=Zh (fun q=>(HMM.o.drew (q:=q)).put (k:=kk) (by rw[HML.o];omega) (u1,u2));have HMS:=Zh (show ∀i,k+1+(j+1)≤i→(m.set kk (u1,u2))[i]? = l[i]? from fun i hi=>by
         rw[List.getElem?_set_ne ZO];exact HMR.o i ZO)
        have HML2:=Zh (show(m.set kk (u1,u2)).length=n by rw[List.length_set];exact HML.o);clear HT ho fz HMT;by_cases e1:u1=v1
        ·have e2:¬u2=v2:=fun h=>e ⟨e1,h⟩
         subst e1;clear e;go_wp2;go_quiet (fail);go_wp2;go_roundw
         case rel=>exact⟨kk+1,j+1,_,by go_num,by go_num,by omega,by omega,HML2,HMP.o _,HS2,HMS⟩
         case measure=>simp[intOf];omega
        ·clear e;go_wp2;go_quiet (fail);go_wp2;go_roundw
         case rel=>exact⟨kk+1,j+1,_,by go_num,by go_num,by omega,by omega,HML2,HMP.o _,HS2,HMS⟩
         case measure=>simp[intOf];omega
      ·have he:k+1+j+1=n:=by omega
       have HE:=Zh (show m.take kk=Qxa l by
        have h:=HMT.o;have h2:l.take (k+1+j+1)=l:=List.take_of_length_le (by rw[HN.o];omega)
        rwa [h2] at h)
       have hcl:∀ty,(Builtin.clear_ #[53] ty #[.slice (some ⟨g,kk*2,none⟩) (n-kk) (cap-kk)]).run Tryz.prog wr=.ok (.tuple #[]) (wr.setCells g (kk*2) (Builtin.zeroCells (Value.agg #[iv 0,iv 0]).cells (n-kk)).toList):=fun ty=>
        Qij wr ty g (kk*2) (n-kk) (cap-kk) ZO (fun t ht=>by
         obtain⟨c,hc⟩:∃c,m[kk+t / 2]? = some c:=⟨_,List.getElem?_eq_getElem (by rw[HML.o];omega)⟩;obtain⟨c0,c1⟩:=HMM.o.cell hc;rcases Nat.mod_two_eq_zero_or_one t with h|h
         ·rw[show kk*2+t=(kk+t / 2)*2 by omega,c0];rfl
         ·rw[show kk*2+t=(kk+t / 2)*2+1 by omega,c1];rfl) (fun t _=>HMM.o.frz hz (by rw[HML.o];omega) _)
       have HR:=Zh (show QKc (wr.setCells g (kk*2) (Builtin.zeroCells (Value.agg #[iv 0,iv 0]).cells (n-kk)).toList) (.slice (some ⟨g,0,none⟩) kk cap) (Qxa l) by
        rw[←HE.o];have h1:=QUr (k:=kk) HMM.o.own rfl (by rw[HML.o];omega);have h2:(m.take kk).length=kk:=by rw[List.length_take,HML.o];omega
        have h3:=Qbh (Builtin.zeroCells (Value.agg #[iv 0,iv 0]).cells (n-kk)).toList (o:=kk*2) (by rw[Qtl,h2];exact Nat.le_refl _) (show wr.ownsRow z CT 2 (.slice (some ⟨g,0,none⟩) kk cap) kk (QHa (m.take kk)) by unfold Qya at h1;rwa [h2] at h1);exact Qg.of_owns h3)
       have HG:=Zh (QEf (Builtin.zeroCells (Value.agg #[iv 0,iv 0]).cells (n-kk)).toList (o:=kk*2) HMM.o.grown);clear he;go_wp2;go_ret;exact⟨_,rfl,HR.o,HG.o⟩
    ·have HS:=Zh (show Qxa (l.take (k+1+1))=l.take (k+1+1) by
      rw[HT.o,if_neg (fun h=>e (by injection h with h1 h2;exact⟨h1.symm,h2.symm⟩)),HD.o,List.take_add_one (i:=k+1),HC1.o];rfl)
     clear HD HT;by_cases e1:c1=d1
     ·have e2:¬c2=d2:=fun h=>e ⟨e1,h⟩
      subst e1;clear e;go_wp2;go_quiet (fail);go_wp2;go_roundw
      case rel=>exact⟨k+1,by omega,by go_num,HM.o.drew,HS⟩
      case measure=>simp[intOf];omega
     ·clear e;go_wp2;go_quiet (fail);go_wp2;go_roundw
      case rel=>exact⟨k+1,by omega,by go_num,HM.o.drew,HS⟩
      case measure=>simp[intOf];omega
   ·obtain rfl:k+1=n:=by omega
    have HE:=Zh (show Qxa l=l by
     have h:=HD.o
     rwa [List.take_of_length_le (by rw[HN.o];exact Nat.le_refl _)] at h)
    go_wp2;go_ret;exact⟨_,rfl,by rw[HE.o];have h:=HM.o.own.at_;rwa [HN.o] at h,HM.o.grown⟩
end
section
open Go.RowKit
variable [Base]
def QGu (l:List Qra)(er:Int)(w:World)(e:Ending)(w':World):Prop:=∃v,e=.returned (.tuple #[v,iv er])∧QTb w.heap.size w' v l∧Below w.heap.size w w'
def Qdg (n:Nat):List Qra:=(List.range n).map fun v:Nat=>(⟨-1,(v:Int)⟩:Qra)
theorem Qxn (n:Nat):Qdg (n+1)=Qdg n++[⟨-1,(n:Int)⟩]:=by
 unfold Qdg;rw[List.range_succ,List.map_append];rfl
theorem QEh (n:Nat):(Qdg n).length=n:=by simp[Qdg]
theorem Qjr {B:Nat}{w:World}(kw:KwIn B w)(hB:B≤w.heap.size)(p:List Qo)(v:Value)(h:QAa w v p)(hf:∀f∈p,∀b∈f.blocks,∀s∈b.stmts,FitS s)(kind:Int):
  Calls Tryz.prog 43 #[.agg #[v],iv kind] w (QGu (QC p kind) (Qxb p kind) w):=by
 obtain⟨z,hz⟩:=Ze w.heap.size;have hbz:Base.b≤z:=by have:=kw.bs;omega
 have HV:=Zh (fun (x:World) (b:Below z w x)=>QYh (kw.keep fun k hk=>b.block k ZO) (by have:=b.size;omega) p v (h.keep (Qf.below (hz▸b)) (Qf.below (hz▸b)) (Qf.below (hz▸b)) (Qf.below (hz▸b))) hf);have HVA:=Zh (fun (x:World) (b:Below z w x) hv=>QPi (kw.keep fun k hk=>b.block k ZO) (by have:=b.size;omega) p v (h.keep (Qf.below (hz▸b)) (Qf.below (hz▸b)) (Qf.below (hz▸b)) (Qf.below (hz▸b))) hf hv);have HDE:=Zh (fun (x:World) (b:Below z w x) vars vv hvv=>QIs (kw.keep fun k hk=>b.block k ZO) (by have:=b.size;omega) p v (h.keep (Qf.below (hz▸b)) (Qf.below (hz▸b)) (Qf.below (hz▸b)) (Qf.below (hz▸b))) hf vars vv hvv);obtain⟨a,c,rfl,hn,-⟩:=h.cell;obtain⟨n,hl⟩:=Ze p.length;rw[hl] at hn HV HVA HDE ⊢;obtain⟨W,hW⟩:=Ze (w.alloc (.cells #[.slice a n c] 25));have HPB:=Zh (show W.heap[z]? = some (.cells #[.slice a n c] 25 (0,0)) by rw[←hW,←hz];exact heap_alloc_new _ _);have BW:=Zh (show Below z w W by rw[←hW,←hz];exact Zb);have HWW:=Zh hW;have HZ:=Zh hz;obtain⟨er,her⟩:=Ze (QFa p);rw[her] at HV;have HER:=Zh her;clear h hW kw hf hl her;have x0:=(Qd HPB.o).1 0;simp at x0;obtain⟨F,hF⟩:=Ze (QC p kind);obtain⟨fe,hfe⟩:=Ze (Qxb p kind);have HFE:=Zh (show fe=if er≠0 then er else if kind<1∨4<kind then 3 else if 256<(QBc p kind).length then 7 else 0 by rw[←hfe,←HER.o];rfl);have HFF:=Zh (show F=if fe=0 then QBc p kind else [] by rw[←hfe,←hF];rfl);rw[hF,hfe];clear hF hfe;go_enter Tryz.func43,Tryz.ntmps43;go_upto_region 1 with(fail)
 rw[show w.alloc (.cells #[.slice a n c] 25)=W from HWW.o]
 try rw[hz]
 go_wp2_with fail;refine(HV.o W BW.o).mono ?_;rintro e w1 ⟨na,nb,nc,nd,rfl,b1⟩;have b2:=b1.trans (((Below.refl w1.heap.size w1).alloc (Nat.le_refl _) (.cells #[iv na,iv nb,iv nc,iv nd] 108)).mono b1.size);obtain⟨w2,hw2⟩:=Ze (w1.alloc (.cells #[iv na,iv nb,iv nc,iv nd] 108));have HW2:=Zh hw2;rw[hw2] at b2;have HP2:=Zh (Qc HPB.o b2 (Qb HPB.o));have zW:z≤W.heap.size:=by have:=BW.o.size;omega
 have HB2:=Zh (BW.o.trans (b2.mono zW));have zw2:z≤w2.heap.size:=by have:=HB2.o.size;omega
 clear b1 b2 hw2 x0 zW;by_cases he:er=0;rotate_left
 ·have hne:(er != 0)=true:=by simpa using he
  have H1:=Zh (show fe=er by rw[HFE.o,if_pos he]);have H2:=Zh (show F=[] by rw[HFF.o,if_neg (by rw[H1.o];exact he)]);clear he;go_wp2;refine bodyPost_ret (v:=.tuple #[.slice none 0 0,iv er]) (by simp[results,Tryz.results43,go_sem]) rfl ⟨.slice none 0 0,?_,?_,?_⟩
  ·rw[H1.o]
  ·rw[H2.o];exact QTb.nil
  ·rw[HZ.o];exact HW2.o▸HB2.o
 have hne:(er != 0)=false:=by simpa using he
 have HFE2:=Zh (show fe=if kind<1∨4<kind then 3 else if 256<(QBc p kind).length then 7 else 0 by rw[HFE.o,he];rfl);have HCK:=Zh (Qzb (show QFa p=0 by rw[HER.o,he]));clear he;go_upto_region 4 with(fail)
 rw[show w1.alloc (.cells #[iv na,iv nb,iv nc,iv nd] 108)=w2 from HW2.o];by_cases hk:kind<1∨4<kind
 ·have H1:=Zh (show fe=3 by rw[HFE2.o,if_pos hk]);have H2:=Zh (show F=[] by rw[HFF.o,if_neg (by rw[H1.o];omega)]);by_cases hk1:kind<1
  ·clear hk;go_wp2;refine bodyPost_ret (v:=.tuple #[.slice none 0 0,iv 3]) (by simp[results,Tryz.results43,go_sem]) rfl ⟨.slice none 0 0,?_,?_,?_⟩
   ·rw[H1.o]
   ·rw[H2.o];exact QTb.nil
   ·rw[HZ.o];exact HB2.o
  ·have hk4:4<kind:=by omega
   clear hk;go_wp2;refine bodyPost_ret (v:=.tuple #[.slice none 0 0,iv 3]) (by simp[results,Tryz.results43,go_sem]) rfl ⟨.slice none 0 0,?_,?_,?_⟩
   ·rw[H1.o]
   ·rw[H2.o];exact QTb.nil
   ·rw[HZ.o];exact HB2.o
 have HFE3:=Zh (show fe=if 256<(QBc p kind).length then 7 else 0 by rw[HFE2.o,if_neg hk]);have hk1:¬kind<1:=fun h=>hk (.inl h)
 have hk4:¬4<kind:=fun h=>hk (.inr h)
 have x0:=(Qd HP2.o).1 0;simp at x0;have KV:=Zh (HVA.o w2 HB2.o HCK.o.valid);clear hk;go_wp2_with fail;refine KV.o.mono ?_;rintro e w3 ⟨vv,rfl,hvo,b3⟩;have HVS:=Zh (show Qea w3 vv (QN p) from Qg.of_owns hvo);obtain⟨va,vc,rfl,-,-⟩:=QXa hvo;have hv64:=HCK.o.vars;obtain⟨vn,hvn⟩:=Ze ((QN p).length);rw[hvn] at HVS hv64 ⊢;have HVN:=Zh hvn;have HP3:=Zh (Qc HP2.o b3 (Qb HP2.o));have HB3:=Zh (HB2.o.trans (b3.mono zw2));have zw3:z≤w3.heap.size:=by have:=b3.size;omega
 clear b3 hvo x0 KV hvn;have x0:=(Qd HP3.o).1 0;simp at x0;by_cases hk:kind=1
 ·have HFL:=Zh (show QBc p kind=QUa (QN p) p (QR p) 0 by unfold QBc;rw[if_pos hk]);have HLN:=Zh (show(QBc p kind).length≤256 by rw[HFL.o];exact Nat.le_trans (QJg _ _ _ _) Qme);have H1:=Zh (show fe=0 by have:=HLN.o;rw[HFE3.o,if_neg ZO]);have H2:=Zh (show F=QBc p kind by rw[HFF.o,if_pos H1.o]);have KD:=Zh (HDE.o w3 HB3.o (QN p) _ HVS.o);rw[←HFL.o] at KD;obtain⟨G,hG⟩:=Ze (QBc p kind);rw[hG] at KD H2 HLN;obtain⟨gn,hgn⟩:=Ze G.length;have hg256:gn≤256:=hgn▸HLN.o;have HGN:=Zh hgn;have hk1':(kind==1)=true:=by simpa using hk
  clear hG hk hgn;go_wp2_with fail;refine KD.o.mono ?_;rintro e w4 ⟨u,rfl,hu,b4⟩;have HU:=Zh hu;obtain⟨ua,uc,rfl,-,-⟩:=QXa hu;rw[HGN.o] at HU ⊢;have HB4:=Zh (HB3.o.trans (b4.mono zw3));clear hu b4 x0;go_wp2;refine bodyPost_ret (v:=.tuple #[.slice ua gn uc,iv 0]) (by simp[results,Tryz.results43,go_sem]) rfl ⟨.slice ua gn uc,?_,?_,?_⟩
  ·rw[H1.o]
  ·rw[H2.o,HZ.o];exact Qjm HU.o zw3
  ·rw[HZ.o];exact HB4.o
 ·have HFL:=Zh (show QBc p kind=Qdg vn by unfold QBc Qdg;rw[if_neg hk,HVN.o]);have H1:=Zh (show fe=0 by rw[HFE3.o,HFL.o,QEh,if_neg ZO]);have H2:=Zh (show F=Qdg vn by rw[HFF.o,if_pos H1.o,HFL.o]);have hk1':(kind==1)=false:=by simpa using hk
  clear hk x0;go_wp2;go_loopw [9,34] (fun V y wr=>∃(k:Nat) (Y:Value),k≤vn∧Y=V∧y=.int .i64 k∧Hid (Below z w wr)∧z≤wr.heap.size∧Hid (QTb z wr Y (Qdg k))) (fun _ y _=>vn-(intOf y).toNat)
  case atStart=>exact⟨0,_,Nat.zero_le _,rfl,rfl,HB3.o,zw3,QTb.nil⟩
  case round=>
   obtain⟨k,V,hk,rfl,rfl,HB,hsr,HO⟩:=hrel;have hL:(Qdg k).length=k:=QEh k;by_cases hlt:k<vn
   ·have HVF:=Zh (Qxn k);go_wp2_with (at_builtin;refine QL [iv (-1),iv (k:Int)] rfl _ _ _ rfl z FT _ 2 16 Tryz.underlying101 QDk rfl ZO _ _ _ HO.o rfl rfl rfl rfl (by unfold maxLen;omega) ZO hsr ?_;intro g cap w6 ho hg hzg _;have HO6:=Zh (QTb.push (n:=⟨-1,(k:Int)⟩) ho);have HB6:=Zh (HB.o.trans (Below.of_grown hg HO.o hsr));clear ho hg hzg);go_roundw
    case rel=>exact⟨k+1,_,by omega,rfl,by go_num,HB6,by have:=HB6.o.size;omega,Zh (by rw[HVF.o];have h9:=HO6.o;rw[QEh] at h9;exact h9)⟩
    case measure=>simp[intOf];omega
   ·obtain rfl:k=vn:=by omega
    have HO2:=Zh HO.o;obtain⟨ua,uc,rfl,-,-⟩:=QXa HO.o;rw[hL] at HO2 ⊢;clear HO hL;go_wp2;refine bodyPost_ret (v:=.tuple #[.slice ua k uc,iv 0]) (by simp[results,Tryz.results43,go_sem]) rfl ⟨.slice ua k uc,?_,?_,?_⟩
    ·rw[H1.o]
    ·rw[H2.o,HZ.o];exact HO2.o
    ·rw[HZ.o];exact HB.o
end
section
open Go.RowKit
variable [Base]
abbrev TBT:TypeId:=106
def OwnI (z:Nat)(w:World)(v:Value)(l:List Int):Prop:=w.ownsRow z 3 1 v l.length (l.map iv)
theorem OwnI.ints {z:Nat}{w:World}{v:Value}{l:List Int}(h:OwnI z w v l):QJa w v l:=Qg.of_owns h
theorem OwnI.nil {z:Nat}{w:World}:OwnI z w (.slice none 0 0) []:=World.ownsRow_nil _ _ _ _
theorem OwnI.below {z:Nat}{w w':World}{v:Value}{l:List Int}(h:OwnI z w v l)(b:Below w.heap.size w w'):OwnI z w' v l:=QZd h b
theorem OwnI.push {z n:Nat}{w:World}{v:Value}{l:List Int}{x:Int}(hn:l.length=n)(h:w.ownsRow z 3 1 v (n+1) (l.map iv++[iv x])):OwnI z w v (l++[x]):=by
 unfold OwnI;rw[List.length_append,List.map_append,hn];exact h
theorem OwnI.shape {z:Nat}{w:World}{v:Value}{l:List Int}(h:OwnI z w v l):∃a c,v=.slice a l.length c∧l.length≤c∧c≤maxLen:=QXa h
def fofK (l:List Qra)(v:Int)(k:Nat):List Int:=rowF k fun i=>decide (Qyf l i=v)
theorem Qgr (l:List Qra)(v:Int)(k:Nat):fofK l v (k+1)=fofK l v k++(if Qyf l k=v then [(k:Int)] else []):=by
 unfold fofK rowF;rw[List.range_succ,List.filter_append,List.map_append]
 congr 1
 by_cases h:Qyf l k=v
 ·simp[h]
 ·simp[h]
theorem Qzs (l:List Qra)(v:Int)(k:Nat):(fofK l v k).length≤k:=Qbm _ _
theorem Qiq {l:List Qra}{k:Nat}{f:Qra}(h:l[k]? = some f):Qyf l k=f.var:=by unfold Qyf;rw[h];rfl
theorem QJt (kind:Int)(l:List Qra)(vars:List Str)(fv vv:Value)(x:Str)(w:World)(hl:Qqd w fv l)(hv:Qea w vv vars)(hn:l.length≤1000)(hbs:Base.b≤w.heap.size):
  Calls Tryz.prog 109 #[.agg #[iv kind,fv,vv],sv x] w (QWk (QGa l (idxI vars x)) w):=by
 have HF:=Zh hl;have HV:=Zh hv;obtain⟨fa,fc,rfl,-,-,-,hfc⟩:=hl.cell;obtain⟨va,vc,rfl,-,-⟩:=hv.cell;have HFC:=Zh hfc;obtain⟨n,hln⟩:=Ze l.length;obtain⟨vn,hvn⟩:=Ze vars.length;rw[hln] at HF hn;rw[hvn] at HV;rw[hln,hvn];have HL:=Zh hln;obtain⟨z,hz⟩:=Ze w.heap.size;have HZ:=Zh hz;obtain⟨W,hW⟩:=Ze (w.alloc (.cells #[iv kind,.slice fa n fc,.slice va vn vc] TBT));have HTB:=Zh (show W.heap[z]? = some (.cells #[iv kind,.slice fa n fc,.slice va vn vc] TBT (0,0)) by rw[←hW,←hz];exact heap_alloc_new _ _);have BW:=Zh (show Below z w W by rw[←hW,←hz];exact Zb);have HWW:=Zh hW;have hzb:Base.b≤z:=by omega
 obtain⟨ix,hix⟩:=Ze (idxI vars x);have KI:=Zh (show Calls Tryz.prog 160 #[.slice va vn vc,sv x] W (IntQ ix W) by
  rw[←hix];exact QBj vars _ x W (Qg.same HV.o (Qf.below (HZ.o▸BW.o))))
 rw[hix];clear hl hv hfc hln hvn hW hix;obtain⟨x0,x1,x2⟩:=QVa HTB.o;go_enter Tryz.func109,Tryz.ntmps109;go_upto_region 1 with(fail)
 rw[show w.alloc (.cells #[iv kind,.slice fa n fc,.slice va vn vc] TBT)=W from HWW.o]
 try rw[hz]
 go_wp2_with fail;refine KI.o.mono ?_;rintro e w1 ⟨rfl,b1⟩;have BW1:=Zh (BW.o.trans (b1.mono (by have:=Qb HTB.o;omega)));have HT1:=Zh (Qc HTB.o b1 (Qb HTB.o));clear b1 x0 x1 x2 KI;obtain⟨x0,x1,x2⟩:=QVa HT1.o;go_wp2;clear x0 x1 x2;go_loopw [6,16] (fun v y wr=>∃k:Nat,k≤n∧y=.int .i64 k∧Hid (Below z w wr)∧Hid (OwnI z wr v (fofK l ix k))) (fun _ y _=>n-(intOf y).toNat)
 case atStart=>exact⟨0,Nat.zero_le _,rfl,BW1.o,OwnI.nil⟩
 case round=>
  obtain⟨k,hk,rfl,HB,HO⟩:=hrel;rename_i v _;obtain⟨oa,oc,rfl,-⟩:=HO.o.shape;by_cases hlt:k<n
  ·obtain⟨f,hf⟩:∃f,l[k]? = some f:=⟨_,List.getElem?_eq_getElem (by rw[HL.o];exact hlt)⟩;obtain⟨fb,fo,rfl,hfb,g0,g1⟩:=HFC.o k f hf;have hfz:fb<z:=by omega
   have g0:=(HB.o.cell (p:=⟨fb,fo+k*2,none⟩) hfz).trans g0;have g1:=(HB.o.cell (p:=⟨fb,fo+k*2+1,none⟩) hfz).trans g1;have HS:=Zh (Qgr l ix k);rw[Qiq hf] at HS;obtain⟨fn,hfn⟩:=Ze f.node;obtain⟨fx,hfx⟩:=Ze f.var;rw[hfn] at g0;rw[hfx] at g1 HS;obtain⟨V1,hV1⟩:=Ze (wr.alloc (.cells #[iv fn,iv fx] FT));obtain⟨cb,hcb⟩:=Ze wr.heap.size;have B1:=Zh (show Below wr.heap.size wr V1 by rw[←hV1];exact Zb);have HCB:=Zh (show V1.heap[cb]? = some (.cells #[iv fn,iv fx] FT (0,0)) by rw[←hV1,←hcb];exact heap_alloc_new _ _);have HB1:=Zh (HB.o.trans (B1.o.mono (by have:=HB.o.size;omega)));have HO1:=Zh (HO.o.below B1.o);have HV1:=Zh hV1;have hD:(fofK l ix k).length≤1000:=by have:=Qzs l ix k;omega
   obtain⟨D,hDD⟩:=Ze (fofK l ix k);rw[hDD] at HS hD HO1 ⊢;clear hV1 hf hfn hfx hDD;go_upto_region 6 with(fail)
   try rw[hcb]
   rw[show wr.alloc (.cells #[iv fn,iv fx] FT)=V1 from HV1.o];clear g0 g1;obtain⟨c0,c1⟩:=Qq HCB.o;by_cases e:fx=ix
   ·have t1:(fx==ix)=true:=by simpa using e
    have HSS:=Zh (show fofK l ix (k+1)=D++[(k:Int)] by rw[HS.o,if_pos e]);clear e;have hzV:z≤V1.heap.size:=by have:=HB1.o.size;omega
    have PUSH:=Zh (show ∀g cap w',w'.ownsRow z 3 1 (.slice (some ⟨g,0,none⟩) (D.length+1) cap) (D.length+1) (D.map iv++[iv k])→V1.grownBy w' (Value.slice oa D.length oc).ownBlock →
      Below z w w'∧OwnI z w' (.slice (some ⟨g,0,none⟩) (D.length+1) cap) (D++[(k:Int)]) from fun g cap w' ho hg=>
     ⟨HB1.o.trans (Below.of_grown hg HO1.o hzV),OwnI.push rfl ho⟩)
    go_wp2_with (at_builtin;refine QL [iv k] rfl _ _ _ rfl z 3 _ 1 8 Tryz.underlying22 QRa rfl ZO _ _ _ HO1.o rfl rfl rfl rfl (by unfold maxLen;omega) ZO hzV ?_;intro g cap w9 ho hg hzg _;have HP9:=Zh (PUSH.o g cap w9 ho hg);clear ho hg hzg);have HO9:=Zh (HSS.o▸HP9.o.2);go_roundw
    case rel=>exact⟨k+1,by omega,by go_num,HP9.o.1,HO9.o⟩
    case measure=>simp[intOf];omega
   ·have t1:(fx==ix)=false:=by simpa using e
    have HO9:=Zh (show OwnI z V1 (.slice oa D.length oc) (fofK l ix (k+1)) by rw[HS.o,if_neg e,List.append_nil];exact HO1.o);clear e;go_wp2;go_roundw
    case rel=>exact⟨k+1,by omega,by go_num,HB1.o,HO9.o⟩
    case measure=>simp[intOf];omega
  ·obtain rfl:k=n:=by omega
   have HE:=Zh (show fofK l ix k=QGa l ix by unfold fofK QGa;rw[HL.o]);have HI:=Zh (show QJa wr (.slice oa (fofK l ix k).length oc) (QGa l ix) from HE.o▸HO.o.ints);go_wp2;go_ret;exact⟨_,rfl,HI.o,by rw[HZ.o];exact HB.o⟩
end
section
open Go.RowKit
variable [Base]
theorem Qho {l:List Qra}{k:Nat}{f:Qra}(h:l[k]? = some f):Qxc l k=f.node:=by unfold Qxc;rw[h];rfl
theorem QGq {l:List Qra}{i k:Nat}(hk:k<l.length)(h:Qxc l k=(i:Int))(hn:∀j,j<k→Qxc l j≠(i:Int)):ownF l i=(k:Int):=by
 unfold ownF;have e:(List.range l.length).find? (fun b=>decide (Qxc l b=(i:Int)))=some k:=by
  rw[List.find?_range_eq_some];exact⟨by simpa using h,List.mem_range.2 hk,fun j hj=>by simpa using hn j hj⟩
 rw[e]
theorem QHq {l:List Qra}{i:Nat}(hn:∀j,j<l.length→Qxc l j≠(i:Int)):ownF l i = -1:=by
 unfold ownF;have e:(List.range l.length).find? (fun b=>decide (Qxc l b=(i:Int)))=none:=by
  rw[List.find?_eq_none];intro x hx
  simpa using hn x (List.mem_range.1 hx)
 rw[e]
theorem Qpo (fn fx:Int)(q:Nat)(i:Int)(w:World)(hq:w.cell? ⟨q,0,none⟩=some (iv i))(hlt:q<w.heap.size):
  Calls Tryz.prog 111 #[.agg #[iv fn,iv fx],.pointer (some ⟨q,0,none⟩)] w (Qia (fn==i) w):=by
 obtain⟨W,hW⟩:=Ze (w.alloc (.cells #[iv fn,iv fx] FT));obtain⟨cb,hcb⟩:=Ze w.heap.size;have B1:=Zh (show Below w.heap.size w W by rw[←hW];exact Zb);have HCB:=Zh (show W.heap[cb]? = some (.cells #[iv fn,iv fx] FT (0,0)) by rw[←hW,←hcb];exact heap_alloc_new _ _);have q0:W.cell? ⟨q,0,none⟩=some (iv i):=(B1.o.cell (p:=⟨q,0,none⟩) hlt).trans hq;have HW:=Zh hW;clear hW hq hlt;go_enter Tryz.func111,Tryz.ntmps111;go_upto_region 1 with(fail)
 rw[show w.alloc (.cells #[iv fn,iv fx] FT)=W from HW.o]
 try rw[hcb]
 obtain⟨c0,c1⟩:=Qq HCB.o;go_wp2;go_ret;exact⟨rfl,B1.o⟩
theorem QTr (l:List Qra)(v:Value)(q:Nat)(i:Nat)(w:World)(h:Qqd w v l)(hq:w.cell? ⟨q,0,none⟩=some (iv i))(hlt:q<w.heap.size):
  Calls Tryz.prog 110 #[v,.func (.func 111) #[] #[.pointer (some ⟨q,0,none⟩)]] w (IntQ (ownF l i) w):=by
 obtain⟨a,c,rfl,hn,-,-,hc⟩:=h.cell;have HC:=Zh hc;obtain⟨n,hl⟩:=Ze l.length;rw[hl] at hn ⊢;have HL:=Zh hl;have HQ:=Zh (And.intro hq hlt);clear hc h hl hq hlt;unfold maxLen at hn;go_enter Tryz.func110,Tryz.ntmps110;go_wp2;go_loopw [8] (fun y wr=>∃k:Nat,k≤n∧y=.int .i64 k∧Hid (Below w.heap.size w wr)∧Hid (∀j,j<k→Qxc l j≠(i:Int))) (fun y _=>n-(intOf y).toNat)
 case atStart=>exact⟨0,Nat.zero_le _,rfl,Below.refl _ _,fun j hj=>by omega⟩
 case round=>
  obtain⟨k,hk,rfl,HB,HA⟩:=hrel;by_cases hlt:k<n
  ·obtain⟨f,hf⟩:∃f,l[k]? = some f:=⟨_,List.getElem?_eq_getElem (by rw[HL.o];exact hlt)⟩;obtain⟨fb,fo,rfl,hfb,g0,g1⟩:=HC.o k f hf;have g0:=(HB.o.cell (p:=⟨fb,fo+k*2,none⟩) hfb).trans g0;have g1:=(HB.o.cell (p:=⟨fb,fo+k*2+1,none⟩) hfb).trans g1;obtain⟨fn,hfn⟩:=Ze f.node;have HNF:=Zh ((Qho hf).trans hfn);rw[hfn] at g0;have K:=Zh (Qpo fn f.var q i wr ((HB.o.cell (p:=⟨q,0,none⟩) HQ.o.2).trans HQ.o.1) (by have:=HB.o.size;have:=HQ.o.2;omega));clear hf hfn;by_cases e:fn=(i:Int)
   ·have t1:(fn==(i:Int))=true:=by simpa using e
    have HE:=Zh (show ownF l i=(k:Int) from QGq (by rw[HL.o];exact hlt) (HNF.o.trans e) HA.o);rw[t1] at K;clear e t1;go_wp2_with fail;refine K.o.mono ?_;rintro e w' ⟨rfl,b⟩;have HB2:=Zh (HB.o.trans (b.mono HB.o.size));clear b g0 g1;go_wp2;go_ret;exact⟨Qob HE.o.symm,HB2.o⟩
   ·have t1:(fn==(i:Int))=false:=by simpa using e
    have HA2:=Zh (show ∀j,j<k+1→Qxc l j≠(i:Int) from fun j hj=>by
     rcases Nat.lt_or_eq_of_le (Nat.le_of_lt_succ hj) with h|h
     ·exact HA.o j h
     ·subst h;rw[HNF.o];exact e)
    rw[t1] at K;clear e t1;go_wp2_with fail;refine K.o.mono ?_;rintro e w' ⟨rfl,b⟩;have HB2:=Zh (HB.o.trans (b.mono HB.o.size));clear b g0 g1;go_wp2;go_roundw
    case rel=>exact⟨k+1,by omega,by go_num,HB2,HA2⟩
    case measure=>simp[intOf];omega
  ·have HE:=Zh (show ownF l i = -1 from QHq fun j hj=>HA.o j (by rw[HL.o] at hj;omega));go_wp2;go_ret;exact⟨Qob HE.o.symm,HB.o⟩
end
end Go.Proofs.YtijekimobahgpaaGreatDoor
