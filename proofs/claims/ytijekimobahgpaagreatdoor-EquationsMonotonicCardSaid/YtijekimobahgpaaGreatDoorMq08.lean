/- A part of the proof. -/
import Derived.Test.YtijekimobahgpaaGreatDoorMq07
import Derived.Test.YtijekimobahgpaaGreatDoorProg
import Derived.Shelf.Sort.Plain
import Derived.Shelf.Slices.In.SortNone
set_option linter.unusedVariables false
set_option linter.unusedSimpArgs false
set_option linter.unusedSectionVars false
set_option maxRecDepth 100000
set_option maxHeartbeats 16000000
namespace Go.Proofs.YtijekimobahgpaaGreatDoor
section
open Go.RowKit
variable [Base]
theorem Qns:laidOutB Tryz.prog=true:=by kernel_rfl
theorem QLq:(match Tryz.prog.underlying NT with|some (.array _ _)|some (.struct _)=>true|_=>false)=true:=by kernel_rfl
theorem Qqm:(NT:TypeId)<Tryz.prog.types.size:=of_decide_eq_true (by kernel_rfl)
theorem QCt:Tryz.prog.keyTypeAt 3 NT=true:=by kernel_rfl
theorem Qgs:Tryz.prog.keyType NT=true:=by kernel_rfl
theorem Qrj:Tryz.prog.cellsOf NT=4:=by kernel_rfl
theorem QYq:Tryz.prog.cellsOf 3=1:=by kernel_rfl
theorem Qfs:WideMaps.KeyLaw Tryz.prog NT:=deep_law_laid Qns (m:=3) (by omega) Qqm QCt QLq
theorem Qgo:Maps.Keyed Tryz.prog NT:=Maps.Keyed.of_law Qfs
def fitI (x:Int):Prop:=-4611686018427387904≤x∧x≤4611686018427387904
def fitN (n:Qx):Prop:=fitI n.kind∧fitI n.fn∧fitI n.bl∧fitI n.st
theorem Qdu {x:Int} (h:fitI x):(Lit.int .i64 x).wf=true:=by
 unfold fitI at h;unfold Lit.wf;simp [IntKind.min,IntKind.max,IntKind.bits,IntKind.signed];omega
theorem Qkh {x:Int} (h:fitI x) (d:Nat):Tryz.prog.keyLits (d+1) 3 [iv x]=some [.int .i64 x]:=by
 unfold Program.keyLits;rw [Tryz.underlying3];simp [Qdu h]
theorem Qhs (n:Qx) (h:fitN n):∃l,keyOf Tryz.prog NT (QEp n)=some l:=by
 obtain⟨a,b,c,d⟩:=n;obtain⟨h1,h2,h3,h4⟩:=h;obtain⟨k,hk⟩:∃k,Tryz.prog.types.size=k+1:=Nat.exists_eq_succ_of_ne_zero (Nat.ne_of_gt (Nat.lt_of_le_of_lt (Nat.zero_le _) Qqm));have e:Tryz.prog.keyLits (Tryz.prog.types.size+1) NT [iv a,iv b,iv c,iv d]=some [.int .i64 a,.int .i64 b,.int .i64 c,.int .i64 d]:=by
  rw [hk];unfold Program.keyLits;rw [Tryz.underlying108];simp [Qrj,QYq,Qkh h1,Qkh h2,Qkh h3,Qkh h4]
 refine⟨.string (keyBytes [.int .i64 a,.int .i64 b,.int .i64 c,.int .i64 d]),?_⟩;unfold keyOf QEp;rw [Tryz.underlying108];have hf:(Value.agg #[iv a,iv b,iv c,iv d]).formed Tryz.prog NT=true:=by
  unfold Value.formed;rw [Tryz.underlying108];simp [Qrj]
 simp only [Qgs,hf,Bool.and_self,if_true];show((Tryz.prog.keyLits (Tryz.prog.types.size+1) NT [iv a,iv b,iv c,iv d]).map fun ls=>Lit.string (keyBytes ls))=_;rw [e];rfl
noncomputable def QDp:KeyE Tryz.prog NT Qx where
 enc:=QEp
 ok:=fitN
 keyed:=Qgo
 of:=Qhs
 inj:=fun a b h=>by
  obtain⟨a1,a2,a3,a4⟩:=a
  obtain⟨b1,b2,b3,b4⟩:=b
  unfold QEp at h
  simp only [Value.agg.injEq] at h
  simpa using h
theorem Qkp:Tryz.prog.underlying 156=some (.map NT 3):=Tryz.underlying156
theorem zeroI (w:World):(zeroValue 3).run Tryz.prog w=.ok (.int .i64 0) w:=by kernel_rfl
def numN (N:List Qx) (n:Qx):Int:=if n∈N then idxI N n else 0
def NumM (w:World) (b n:Nat) (N:List Qx):Prop:=∃th,MapG QDp Qwo w b n (numN N) th
theorem NumM.below {w w':World} {b n:Nat} {l:List Qx} (h:NumM w b n l) (hb:Below w.heap.size w w'):NumM w' b n l:=by
 obtain⟨th,h⟩:=h;exact⟨th,h.below hb⟩
theorem NumM.lt {w:World} {b n:Nat} {l:List Qx} (h:NumM w b n l):b<w.heap.size:=by
 obtain⟨th,h⟩:=h;exact h.lt
theorem NumM.isMap {w:World} {b n:Nat} {l:List Qx} (h:NumM w b n l):∃es c,w.heap[b]? = some (.map es c):=by
 obtain⟨th,h⟩:=h;exact h.isMap
theorem NumM.block {w w':World} {b n:Nat} {l:List Qx} (h:NumM w b n l) (hb:w'.heap[b]? = w.heap[b]?):NumM w' b n l:=by
 obtain⟨th,h⟩:=h;exact⟨th,h.block hb⟩
theorem NumM.look {w:World} {b n:Nat} {l:List Qx} (h:NumM w b n l) {x:Qx} (hx:fitN x):(Instr.lookup 156 (.map (some b)) (.agg #[iv x.kind,iv x.fn,iv x.bl,iv x.st]) false).run Tryz.prog w=.ok (.int .i64 (numN l x)) w:=by
 obtain⟨th,h⟩:=h;exact h.look Qkp (zeroI w) hx
theorem Qds (n:Qx):numN [] n=0:=by simp [numN]
theorem QJq {N:List Qx} {k:Nat} {x:Qx} (hx:N[k]? = some x) (hn:N.Nodup) (q:Qx):numN (N.take (k+1)) q=if q=x then (k:Int) else numN (N.take k) q:=by
 have ht:=Qgd hx;have e:N.take (k+1)=N.take k++[x]:=by rw [List.take_add_one,hx];rfl
 by_cases h:q=x
 ·subst h;rw [if_pos rfl];have hm:q∈N.take (k+1):=by rw [e];simp
  unfold numN;rw [if_pos hm];exact Qse (by rw [e,List.getElem?_append_right (by rw [ht.2];exact Nat.le_refl _),ht.2];simp) (by
   rw [e,List.take_append_of_le_length (by rw [ht.2];exact Nat.le_refl _),List.take_of_length_le (by rw [ht.2];exact Nat.le_refl _)];rw [ht.1] at hn;intro hm2;exact(List.nodup_append.1 hn).2.2 q hm2 q (by simp) rfl)
 ·rw [if_neg h];unfold numN;by_cases hm:q∈N.take k
  ·rw [if_pos (by rw [e];simp [hm]),if_pos hm];obtain⟨j,hj,hjx⟩:=Qgc hm;rw [hj];unfold idxI at hj ⊢;rw [if_pos hm] at hj;rw [if_pos (by rw [e];simp [hm]),e,List.idxOf_append,if_pos hm];exact hj
  ·rw [if_neg (by rw [e];simp [hm,h]),if_neg hm]
end
section
structure GrE (n:Nat) (E:List (Nat×Nat)) (S P:List (List Int)):Prop where
 sl:S.length=n
 pl:P.length=n
 rng:∀e∈E,e.1<n∧e.2<n
 sn:∀(i:Nat) (r:List Int),S[i]? = some r→r.Nodup∧∀x:Int,x∈r↔∃j:Nat,x=j∧(i,j)∈E
 pn:∀(j:Nat) (r:List Int),P[j]? = some r→r.Nodup∧∀x:Int,x∈r↔∃i:Nat,x=i∧(i,j)∈E
theorem GrE.nil (n:Nat):GrE n [] (List.replicate n []) (List.replicate n []):=by
 refine⟨by simp,by simp,by simp,fun i r h=>?_,fun i r h=>?_⟩
 ·obtain rfl:r=[]:=List.eq_of_mem_replicate (List.mem_of_getElem? h);simp
 ·obtain rfl:r=[]:=List.eq_of_mem_replicate (List.mem_of_getElem? h);simp
theorem GrE.same {n:Nat} {E:List (Nat×Nat)} {S P:List (List Int)} (h:GrE n E S P) {a b:Nat} {r:List Int} (hr:S[a]? = some r) (hb:(b:Int)∈r):GrE n (E++[(a,b)]) S P:=by
 have hin:(a,b)∈E:=by
  obtain⟨j,hj,hm⟩:=((h.sn a r hr).2 b).1 hb;obtain rfl:b=j:=by omega
  exact hm
 have hmem:∀e:Nat×Nat,e∈E++[(a,b)]↔e∈E:=fun e=>by
  constructor
  ·intro he;rcases List.mem_append.1 he with he|he
   ·exact he
   ·obtain rfl:e=(a,b):=by simpa using he
    exact hin
  ·exact fun he=>List.mem_append.2 (.inl he)
 refine⟨h.sl,h.pl,fun e he=>h.rng e ((hmem e).1 he),fun i r hr=>⟨(h.sn i r hr).1,fun x=>?_⟩,fun i r hr=>⟨(h.pn i r hr).1,fun x=>?_⟩⟩
 ·rw [(h.sn i r hr).2 x];exact⟨fun ⟨j,e,m⟩=>⟨j,e,(hmem _).2 m⟩,fun ⟨j,e,m⟩=>⟨j,e,(hmem _).1 m⟩⟩
 ·rw [(h.pn i r hr).2 x];exact⟨fun ⟨j,e,m⟩=>⟨j,e,(hmem _).2 m⟩,fun ⟨j,e,m⟩=>⟨j,e,(hmem _).1 m⟩⟩
theorem GrE.add {n:Nat} {E:List (Nat×Nat)} {S P:List (List Int)} (h:GrE n E S P) {a b:Nat} (ha:a<n) (hbn:b<n) {r q:List Int} (hr:S[a]? = some r) (hq:P[b]? = some q) (hb:(b:Int)∉r):GrE n (E++[(a,b)]) (S.set a (r++[(b:Int)])) (P.set b (q++[(a:Int)])):=by
 have hnin:(a,b)∉E:=fun hm=>hb (((h.sn a r hr).2 b).2 ⟨b,rfl,hm⟩)
 refine⟨by simp [h.sl],by simp [h.pl],fun e he=>?_,fun i s hs=>?_,fun j s hs=>?_⟩
 ·rcases List.mem_append.1 he with he|he
  ·exact h.rng e he
  ·obtain rfl:e=(a,b):=by simpa using he
   exact⟨ha,hbn⟩
 ·by_cases hi:a=i
  ·subst hi;rw [List.getElem?_set_self (by rw [h.sl];exact ha)] at hs;injection hs with hs
   subst hs;obtain⟨h1,h2⟩:=h.sn a r hr;refine⟨List.nodup_append.2 ⟨h1,by simp,fun x hx y hy e=>?_⟩,fun x=>?_⟩
   ·simp at hy;subst hy;exact hb (e▸hx)
   ·rw [List.mem_append,h2 x];constructor
    ·rintro(⟨j,e,m⟩|hx)
     ·exact⟨j,e,List.mem_append.2 (.inl m)⟩
     ·exact⟨b,by simpa using hx,by simp⟩
    ·rintro⟨j,e,m⟩;rcases List.mem_append.1 m with m|m
     ·exact .inl ⟨j,e,m⟩
     ·simp at m;subst m;exact .inr (by simp [e])
  ·rw [List.getElem?_set_ne hi] at hs;obtain⟨h1,h2⟩:=h.sn i s hs;refine⟨h1,fun x=>?_⟩;rw [h2 x];constructor
   ·rintro⟨j,e,m⟩;exact⟨j,e,List.mem_append.2 (.inl m)⟩
   ·rintro⟨j,e,m⟩;rcases List.mem_append.1 m with m|m
    ·exact⟨j,e,m⟩
    ·simp at m;exact absurd m.1.symm hi
 ·by_cases hj:b=j
  ·subst hj;rw [List.getElem?_set_self (by rw [h.pl];exact hbn)] at hs;injection hs with hs
   subst hs;obtain⟨h1,h2⟩:=h.pn b q hq;refine⟨List.nodup_append.2 ⟨h1,by simp,fun x hx y hy e=>?_⟩,fun x=>?_⟩
   ·simp at hy;subst hy;subst e;obtain⟨i,e,m⟩:=(h2 _).1 hx;obtain rfl:a=i:=by omega
    exact hnin m
   ·rw [List.mem_append,h2 x];constructor
    ·rintro(⟨j,e,m⟩|hx)
     ·exact⟨j,e,List.mem_append.2 (.inl m)⟩
     ·exact⟨a,by simpa using hx,by simp⟩
    ·rintro⟨j,e,m⟩;rcases List.mem_append.1 m with m|m
     ·exact .inl ⟨j,e,m⟩
     ·simp at m;subst m;exact .inr (by simp [e])
  ·rw [List.getElem?_set_ne hj] at hs;obtain⟨h1,h2⟩:=h.pn j s hs;refine⟨h1,fun x=>?_⟩;rw [h2 x];constructor
   ·rintro⟨i,e,m⟩;exact⟨i,e,List.mem_append.2 (.inl m)⟩
   ·rintro⟨i,e,m⟩;rcases List.mem_append.1 m with m|m
    ·exact⟨i,e,m⟩
    ·simp at m;exact absurd m.2.symm hj
theorem GrE.slen {n:Nat} {E:List (Nat×Nat)} {S P:List (List Int)} (h:GrE n E S P) {i:Nat} {r:List Int} (hr:S[i]? = some r):r.length≤n:=by
 obtain⟨h1,h2⟩:=h.sn i r hr;have:=QGf (b:=(List.range n).map fun k:Nat=>(k:Int)) h1 fun x hx=>by
  obtain⟨j,rfl,m⟩:=(h2 x).1 hx;exact List.mem_map.2 ⟨j,List.mem_range.2 (h.rng _ m).2,rfl⟩
 simpa using this
theorem GrE.plen {n:Nat} {E:List (Nat×Nat)} {S P:List (List Int)} (h:GrE n E S P) {i:Nat} {r:List Int} (hr:P[i]? = some r):r.length≤n:=by
 obtain⟨h1,h2⟩:=h.pn i r hr;have:=QGf (b:=(List.range n).map fun k:Nat=>(k:Int)) h1 fun x hx=>by
  obtain⟨j,rfl,m⟩:=(h2 x).1 hx;exact List.mem_map.2 ⟨j,List.mem_range.2 (h.rng _ m).1,rfl⟩
 simpa using this
end
section
open Go.RowKit
variable [Base]
abbrev IT:TypeId:=22
abbrev IN:TypeId:=3
abbrev BT:TypeId:=158
theorem QCo (l:List Int) (v:Value) (x:Int) (w:World) (h:QJa w v l):
  Calls Tryz.prog 194 #[v,iv x] w (fun e w'=>e=.returned (iv (idxI l x))∧w'=w):=by
 obtain⟨a,c,rfl,hn,-,-,hc⟩:=h.cell;have HC:=Zh hc;obtain⟨n,hl⟩:=Ze l.length;rw [hl] at hn ⊢;have HL:=Zh hl;clear hc h hl;unfold maxLen at hn;go_enter Tryz.func194,Tryz.ntmps194;go_wp2;go_loopw [8] (fun y wr=>∃k:Nat,k≤n∧y=.int .i64 k∧w=wr∧Hid (x∉l.take k)) (fun y _=>n-(intOf y).toNat)
 case atStart=>exact⟨0,Nat.zero_le _,rfl,rfl,by unfold Hid;simp⟩
 case round=>
  obtain⟨k,hk,rfl,rfl,HNI⟩:=hrel;by_cases hlt:k<n
  ·obtain⟨y,hy⟩:∃y,l[k]? = some y:=⟨_,List.getElem?_eq_getElem (by rw [HL.o];exact hlt)⟩;obtain⟨b1,o1,rfl,hb1,g1⟩:=HC.o k y hy;by_cases hxy:y=x
   ·subst hxy;have HK:=Zh (show idxI l y=(k:Int) from Qse hy HNI.o);clear hy;go_wp2;go_ret;exact⟨Qob HK.o.symm,rfl⟩
   ·have HN1:=Zh (show x∉l.take (k+1) by
     rw [List.take_add_one,hy];intro h;rcases List.mem_append.1 h with h|h
     ·exact HNI.o h
     ·simp at h;exact hxy h.symm)
    have he1:(x==y)=false:=by simpa using fun e=>hxy (Eq.symm e)
    clear hy hxy;go_wp2;go_roundw
    case rel=>exact⟨k+1,by omega,by go_num,(by first|rfl|trivial),HN1⟩
    case measure=>simp [intOf];omega
  ·have HK:=Zh (show idxI l x = -1 by
    unfold idxI;rw [if_neg (fun h=>HNI.o (by rwa [List.take_of_length_le (by rw [HL.o];omega)]))])
   go_wp2;go_ret;exact⟨Qob HK.o.symm,rfl⟩
theorem Qdk (l:List Int) (v:Value) (x:Int) (w:World) (h:QJa w v l):
  Calls Tryz.prog 161 #[v,iv x] w (fun e w'=>e=.returned (.bool (decide (x∈l)))∧w'=w):=by
 have K:=Zh (QCo l v x w h);have HD:=Zh (show decide (x∈l)=decide (0≤idxI l x) by
  unfold idxI;by_cases hm:x∈l
  ·rw [if_pos hm];simp [hm]
  ·rw [if_neg hm];simp [hm])
 obtain⟨a,c,rfl,-⟩:=h.cell;obtain⟨i,hi⟩:=Ze (idxI l x);rw [hi] at K HD;rw [HD.o];clear h hi HD;go_enter Tryz.func161,Tryz.ntmps161;go_wp2_with fail;refine K.o.mono ?_;rintro e w' ⟨rfl,rfl⟩;go_wp2;go_ret;exact⟨rfl,rfl⟩
structure QRd (z:Nat) (w:World) (vs:List Value) (R:List (List Int)):Prop where
 len:vs.length=R.length
 own:∀(i:Nat) (v:Value) (r:List Int),vs[i]? = some v→R[i]? = some r→w.ownsRow z IN 1 v r.length (r.map iv)
 apart:∀(i j:Nat) (v u:Value) (b:Nat),i≠j→vs[i]? = some v→vs[j]? = some u→v.ownBlock=some b→u.ownBlock≠some b
theorem Qnj {w w':World} {base:Nat} {e:TypeId} {size:Nat} {v:Value} {n:Nat} {xs:List Value} (h:w.ownsRow base e size v n xs) (hb:∀b c fr,v.ownBlock=some b→w.heap[b]? = some (.cells c e fr)→w'.heap[b]? = w.heap[b]?):w'.ownsRow base e size v n xs:=by
 obtain⟨h1,h2⟩:=h;refine⟨h1,?_⟩;rcases h2 with h2|⟨g,cap,cur,e1,e2,e3,e4⟩
 ·exact .inl h2
 ·exact .inr ⟨g,cap,cur,e1,e2,(hb g cur (0,0) (by rw [e1];rfl) e3).trans e3,e4⟩
theorem QRd.keep {z:Nat} {w w':World} {vs:List Value} {R:List (List Int)} (h:QRd z w vs R) (hb:∀(b:Nat) (c:Array Value) (fr:Nat×Nat),w.heap[b]? = some (Obj.cells c IN fr)→w'.heap[b]? = w.heap[b]?):QRd z w' vs R:=
 ⟨h.len,fun i v r hv hr=>Qnj (h.own i v r hv hr) fun b c fr _ hc=>hb b c fr hc,h.apart⟩
theorem QZn {w:World} {base:Nat} {e:TypeId} {size:Nat} {v:Value} {n b:Nat} {xs:List Value} (h:w.ownsRow base e size v n xs) (hb:v.ownBlock=some b):b<w.heap.size∧base≤b:=by
 rcases h.2 with⟨rfl,_⟩|⟨g,cap,cur,rfl,hg,hh,_⟩
 ·simp [Value.ownBlock] at hb
 ·simp [Value.ownBlock] at hb;subst hb;exact⟨Qb hh,hg⟩
theorem QRd.push {z g cap:Nat} {w w5:World} {vs:List Value} {R:List (List Int)} {i:Nat} {v:Value} {r:List Int} {x:Int} (h:QRd z w vs R) (hv:vs[i]? = some v) (hr:R[i]? = some r)
  (ho:w5.ownsRow z IN 1 (.slice (some ⟨g,0,none⟩) (r.length+1) cap) (r.length+1) (r.map iv++[iv x])) (hg:w.grownBy w5 v.ownBlock) (hn:v.ownBlock=some g∨w.heap.size≤g):
  QRd z w5 (vs.set i (.slice (some ⟨g,0,none⟩) (r.length+1) cap)) (R.set i (r++[x])):=by
 have hi:i<vs.length:=(List.getElem?_eq_some_iff.1 hv).1;refine⟨by simp [h.len],fun j u s hu hs=>?_,fun j k u y b hne hu hy hb=>?_⟩
 ·by_cases hij:i=j
  ·subst hij;rw [List.getElem?_set_self hi] at hu;rw [List.getElem?_set_self (by rw [←h.len];exact hi)] at hs;injection hu with hu
   injection hs with hs
   subst hu hs
   simpa using ho
  ·rw [List.getElem?_set_ne hij] at hu hs;refine Qnj (h.own j u s hu hs) fun b c fr hb _=>hg.block b (QZn (h.own j u s hu hs) hb).1 ?_
   intro e;exact h.apart i j v u b hij hv hu e.symm hb
 ·have key:∀q t,i≠q→vs[q]? = some t→t.ownBlock≠some g:=fun q t hq ht e=>by
   obtain⟨s,hs⟩:∃s,R[q]? = some s:=⟨_,List.getElem?_eq_getElem (by rw [←h.len];exact(List.getElem?_eq_some_iff.1 ht).1)⟩;rcases hn with hn|hn
   ·exact h.apart i q v t g hq hv ht hn e
   ·have:=(QZn (h.own q t s ht hs) e).1;omega
  by_cases hij:i=j
  ·subst hij;rw [List.getElem?_set_self hi] at hu;injection hu with hu
   subst hu;rw [List.getElem?_set_ne hne] at hy;simp [Value.ownBlock] at hb;subst hb;exact key k y hne hy
  ·rw [List.getElem?_set_ne hij] at hu;by_cases hik:i=k
   ·subst hik;rw [List.getElem?_set_self hi] at hy;injection hy with hy
    subst hy;intro e;simp [Value.ownBlock] at e;subst e;exact key j u hij hu hb
   ·rw [List.getElem?_set_ne hik] at hy;exact h.apart j k u y b hne hu hy hb
structure Qbb (z:Nat) (w w':World):Prop where
 below:Below z w w'
 same:∀T,T≠IT→T≠IN→Qf T w w'
theorem Qbb.refl (z:Nat) (w:World) (h:z≤w.heap.size):Qbb z w w:=⟨(Below.refl _ _).mono h,fun _ _ _=>Qf.refl⟩
theorem Qbb.trans {z:Nat} {a b c:World} (h:Qbb z a b) (k:Qbb z b c):Qbb z a c:=⟨h.below.trans k.below,fun T h1 h2=>(h.same T h1 h2).trans (k.same T h1 h2)⟩
theorem Qbb.of {z:Nat} {w w':World} (h:Below w.heap.size w w') (hz:z≤w.heap.size):Qbb z w w':=⟨h.mono hz,fun _ _ _=>Qf.below h⟩
structure Bld (z bt sb pb mb:Nat) (nv:Value) (N:List Qx) (S P:List (List Int)) (w:World):Prop where
 zs:z≤bt∧z≤sb∧z≤pb∧z≤mb
 bl:w.heap[bt]? = some (.cells #[nv,.slice (some ⟨sb,0,none⟩) N.length N.length,.slice (some ⟨pb,0,none⟩) N.length N.length,.map (some mb)] BT (0,0))
 mp:NumM w mb N.length N
 ne:sb≠pb
 rows:∃vs us:List Value,w.heap[sb]? = some (.cells vs.toArray IT (0,0))∧w.heap[pb]? = some (.cells us.toArray IT (0,0))∧vs.length=N.length∧us.length=N.length∧S.length=N.length∧QRd z w (vs++us) (S++P)
theorem Bld.keep {z bt sb pb mb:Nat} {nv:Value} {N:List Qx} {S P:List (List Int)} {w w':World} (h:Bld z bt sb pb mb nv N S P w) (hb:∀k,k<w.heap.size→w'.heap[k]? = w.heap[k]?):Bld z bt sb pb mb nv N S P w':=by
 obtain⟨vs,us,h1,h2,h3,h4,h5,h6⟩:=h.rows;exact⟨h.zs,(hb _ (Qb h.bl)).trans h.bl,h.mp.block (hb _ h.mp.lt),h.ne,vs,us,(hb _ (Qb h1)).trans h1,(hb _ (Qb h2)).trans h2,h3,h4,h5,h6.keep fun b c fr hc=>hb b (Qb hc)⟩
theorem Bld.below {z bt sb pb mb:Nat} {nv:Value} {N:List Qx} {S P:List (List Int)} {w w':World} (h:Bld z bt sb pb mb nv N S P w) (b:Below w.heap.size w w'):Bld z bt sb pb mb nv N S P w':=h.keep b.block
theorem QSl {w:World} {b i:Nat} {vs:List Value} {t:TypeId} {fr:Nat×Nat} (h:w.heap[b]? = some (.cells vs.toArray t fr)) (x:Value):(w.setCell ⟨b,i,none⟩ x).heap[b]? = some (.cells (vs.set i x).toArray t fr):=by
 simp [World.setCell,Array.getElem?_modify,h]
theorem Qnf {w:World} {b k o:Nat} (h:b≠k) (x:Value):(w.setCell ⟨b,o,none⟩ x).heap[k]? = w.heap[k]?:=by
 simp [World.setCell,Array.getElem?_modify,h]
theorem QPf {c:Array Value} {t:TypeId} {f:Nat×Nat} (h:t≠IN):∀c' fr,Obj.cells c t f≠.cells c' IN fr:=by
 intro c' fr e;injection e with _ e
 exact h e
theorem Bld.grow {z bt sb pb mb g cap i:Nat} {nv v:Value} {N:List Qx} {S P:List (List Int)} {w w5:World} {vs us:List Value} {r:List Int} {x:Int} (hbs:Base.b≤z) (h:Bld z bt sb pb mb nv N S P w)
  (h1:w.heap[sb]? = some (.cells vs.toArray IT (0,0))) (h2:w.heap[pb]? = some (.cells us.toArray IT (0,0))) (h3:vs.length=N.length) (h4:us.length=N.length) (h6:QRd z w (vs++us) (S++P))
  (hv:(vs++us)[i]? = some v) (hr:(S++P)[i]? = some r)
  (ho:w5.ownsRow z IN 1 (.slice (some ⟨g,0,none⟩) (r.length+1) cap) (r.length+1) (r.map iv++[iv x])) (hg:w.grownBy w5 v.ownBlock) (hn:v.ownBlock=some g∨w.heap.size≤g) (hz:z≤w.heap.size):
  w5.heap[bt]? = w.heap[bt]?∧w5.heap[sb]? = w.heap[sb]?∧w5.heap[pb]? = w.heap[pb]?∧NumM w5 mb N.length N∧QRd z w5 ((vs++us).set i (.slice (some ⟨g,0,none⟩) (r.length+1) cap)) ((S++P).set i (r++[x]))∧Qbb z w w5:=by
 have own:=h6.own i v r hv hr;obtain⟨es,c0,hm⟩:=h.mp.isMap;refine⟨hg.block _ (Qb h.bl) (Qdb own h.bl (QPf (by decide))),hg.block _ (Qb h1) (Qdb own h1 (QPf (by decide))),hg.block _ (Qb h2) (Qdb own h2 (QPf (by decide))),h.mp.block (hg.block _ (Qb hm) (Qdb own hm (by intro c fr e;cases e))),h6.push hv hr ho hg hn,?_⟩;exact⟨Below.of_grown hg own hz,fun T _ hT=>Qf.grown hg own hT hbs⟩
theorem QXg {z b o:Nat} {w:World} {vs:List Value} {R:List (List Int)} {c:Array Value} {fr:Nat×Nat} (h:QRd z w vs R) (hb:w.heap[b]? = some (.cells c IT fr)) (x:Value):QRd z (w.setCell ⟨b,o,none⟩ x) vs R:=
 h.keep fun k c' fr' hc=>Qnf (by rintro rfl;rw [hb] at hc;injection hc with hc;injection hc with _ hc;exact absurd hc (by decide)) x
theorem Qnh {z b o:Nat} {w w':World} {c:Array Value} (h:Qbb z w w') (hb:w'.heap[b]? = some (.cells c IT (0,0))) (hz:z≤b) (hbs:Base.b≤z) (x:Value):Qbb z w (w'.setCell ⟨b,o,none⟩ x):=
 ⟨h.below.setCell (p:=⟨b,o,none⟩) hz _,fun T h1 h2=>(h.same T h1 h2).trans (Qf.setCell (U:=IT) (Qv hb (Nat.le_trans hbs hz)) h1)⟩
theorem Bld.rowS {z bt sb pb mb:Nat} {nv:Value} {N:List Qx} {S P:List (List Int)} {w:World} (hbs:Base.b≤z) (h:Bld z bt sb pb mb nv N S P w) (hz:z≤w.heap.size) {a:Nat} (ha:a<N.length):
  ∃v r,S[a]? = some r∧w.cell? ⟨sb,a,none⟩=some v∧w.ownsRow z IN 1 v r.length (r.map iv)∧∀g cap w5 x,w5.ownsRow z IN 1 (.slice (some ⟨g,0,none⟩) (r.length+1) cap) (r.length+1) (r.map iv++[iv x])→w.grownBy w5 v.ownBlock→(v.ownBlock=some g∨w.heap.size≤g) →
   (w5.heap[bt]? = w.heap[bt]?∧w5.heap[sb]? = w.heap[sb]?)∧Bld z bt sb pb mb nv N (S.set a (r++[x])) P (w5.setCell ⟨sb,a,none⟩ (.slice (some ⟨g,0,none⟩) (r.length+1) cap))∧Qbb z w (w5.setCell ⟨sb,a,none⟩ (.slice (some ⟨g,0,none⟩) (r.length+1) cap)):=by
 obtain⟨vs,us,h1,h2,h3,h4,h5,h6⟩:=h.rows;obtain⟨v,hv⟩:∃v,vs[a]? = some v:=⟨_,List.getElem?_eq_getElem (by rw [h3];exact ha)⟩;obtain⟨r,hr⟩:∃r,S[a]? = some r:=⟨_,List.getElem?_eq_getElem (by rw [h5];exact ha)⟩;have hv2:(vs++us)[a]? = some v:=by rw [List.getElem?_append_left (by rw [h3];exact ha)];exact hv
 have hr2:(S++P)[a]? = some r:=by rw [List.getElem?_append_left (by rw [h5];exact ha)];exact hr
 refine⟨v,r,hr,?_,h6.own a v r hv2 hr2,fun g cap w5 x ho hg hn=>?_⟩
 ·have:=(Qd h1).1 a;rw [this]
  simpa using hv
 ·obtain⟨k1,k2,k3,k4,k5,k6⟩:=h.grow hbs h1 h2 h3 h4 h6 hv2 hr2 ho hg hn hz;have s5:=k2.trans h1;have p5:=k3.trans h2;obtain⟨es,c0,hm⟩:=k4.isMap;have hms:sb≠mb:=by rintro rfl;rw [s5] at hm;cases hm
  have hbs2:sb≠bt:=by
   rintro rfl;rw [k1.trans h.bl] at s5;injection s5 with s5
   injection s5 with _ s5
   exact absurd s5 (by decide)
  refine⟨⟨k1,k2⟩,⟨h.zs,(Qnf hbs2 _).trans (k1.trans h.bl),k4.block (Qnf hms _),h.ne,vs.set a (.slice (some ⟨g,0,none⟩) (r.length+1) cap),us,QSl s5 _,(Qnf h.ne _).trans p5,by simpa using h3,h4,by simpa using h5,?_⟩,Qnh k6 s5 h.zs.2.1 hbs _⟩;have:=QXg (o:=a) k5 s5 (.slice (some ⟨g,0,none⟩) (r.length+1) cap);rw [List.set_append_left _ _ (by rw [h3];exact ha),List.set_append_left _ _ (by rw [h5];exact ha)] at this;exact this
theorem Bld.rowP {z bt sb pb mb:Nat} {nv:Value} {N:List Qx} {S P:List (List Int)} {w:World} (hbs:Base.b≤z) (h:Bld z bt sb pb mb nv N S P w) (hz:z≤w.heap.size) {a:Nat} (ha:a<N.length):
  ∃v r,P[a]? = some r∧w.cell? ⟨pb,a,none⟩=some v∧w.ownsRow z IN 1 v r.length (r.map iv)∧∀g cap w5 x,w5.ownsRow z IN 1 (.slice (some ⟨g,0,none⟩) (r.length+1) cap) (r.length+1) (r.map iv++[iv x])→w.grownBy w5 v.ownBlock→(v.ownBlock=some g∨w.heap.size≤g) →
   (w5.heap[bt]? = w.heap[bt]?∧w5.heap[pb]? = w.heap[pb]?)∧Bld z bt sb pb mb nv N S (P.set a (r++[x])) (w5.setCell ⟨pb,a,none⟩ (.slice (some ⟨g,0,none⟩) (r.length+1) cap))∧Qbb z w (w5.setCell ⟨pb,a,none⟩ (.slice (some ⟨g,0,none⟩) (r.length+1) cap)):=by
 obtain⟨vs,us,h1,h2,h3,h4,h5,h6⟩:=h.rows;have h7:P.length=N.length:=by have:=h6.len;simp at this;omega
 obtain⟨v,hv⟩:∃v,us[a]? = some v:=⟨_,List.getElem?_eq_getElem (by rw [h4];exact ha)⟩;obtain⟨r,hr⟩:∃r,P[a]? = some r:=⟨_,List.getElem?_eq_getElem (by rw [h7];exact ha)⟩;have hv2:(vs++us)[N.length+a]? = some v:=by rw [List.getElem?_append_right (by omega),h3,Nat.add_sub_cancel_left];exact hv
 have hr2:(S++P)[N.length+a]? = some r:=by rw [List.getElem?_append_right (by omega),h5,Nat.add_sub_cancel_left];exact hr
 refine⟨v,r,hr,?_,h6.own _ v r hv2 hr2,fun g cap w5 x ho hg hn=>?_⟩
 ·have:=(Qd h2).1 a;rw [this]
  simpa using hv
 ·obtain⟨k1,k2,k3,k4,k5,k6⟩:=h.grow hbs h1 h2 h3 h4 h6 hv2 hr2 ho hg hn hz;have s5:=k2.trans h1;have p5:=k3.trans h2;obtain⟨es,c0,hm⟩:=k4.isMap;have hms:pb≠mb:=by rintro rfl;rw [p5] at hm;cases hm
  have hbs2:pb≠bt:=by
   rintro rfl;rw [k1.trans h.bl] at p5;injection p5 with p5
   injection p5 with _ p5
   exact absurd p5 (by decide)
  refine⟨⟨k1,k3⟩,⟨h.zs,(Qnf hbs2 _).trans (k1.trans h.bl),k4.block (Qnf hms _),h.ne,vs,us.set a (.slice (some ⟨g,0,none⟩) (r.length+1) cap),(Qnf h.ne.symm _).trans s5,QSl p5 _,h3,by simpa using h4,h5,?_⟩,Qnh k6 p5 h.zs.2.2.1 hbs _⟩;have:=QXg (o:=a) k5 p5 (.slice (some ⟨g,0,none⟩) (r.length+1) cap);rw [List.set_append_right _ _ (by omega),List.set_append_right _ _ (by omega),h3,h5,Nat.add_sub_cancel_left] at this;exact this
section
variable {P:Program} {ops:Array Oper} {Q:Exit→Act→World→Prop} {md:Region.Mode} {S:World→Prop}
theorem Qgi {st:Nat} (i:Nat) (d:Option Tmp) {oi:Oper} {fuel:Nat} {listed:Array Bool} {a:Act} {w E:World} (news:List Value) (e:TypeId) (hE:w.alloc (.cells news.toArray e)=E) (hi:ops[i]? = some oi)
  (hr:Region.ready md ops listed=[i]) (hwant:Region.wanted oi (yielded ops a.tmps)=true) (hd:oi.dst=d) (s x:Operand) (t:TypeId)
  (ho:oi.op=.call { callee:=.builtin .append,args:=#[s,x],argTypes:=#[t,t] })
  (base:Nat) (z:Value) (size bytes:Nat) (ht:P.underlying t=some (.slice e)) (hin:(P.info? e).map (fun i=>(i.zero,i.size,i.bytes))=some (some z,size,bytes))
  (hzs:z.cells.size=size) (hsz:0<size) (v:Value) (n:Nat) (xs:List Value) (hown:w.ownsRow base e size v n xs) (hs:a.eval s=v)
  (hx:a.eval x=.slice (some ⟨w.heap.size,0,none⟩) 1 1) (hl:news.length=size) (h1:news.all Value.oneCell'=true)
  (h63:n+1≤maxLen) (hbytes:(n+1)*bytes≤140737488355328) (hbase:base≤w.heap.size)
  (h:∀g cap w',w'.ownsRow base e size (.slice (some ⟨g,0,none⟩) (n+1) cap) (n+1) (xs++news)→w.grownBy w' v.ownBlock→(v.ownBlock=some g∨w.heap.size≤g) →
   (i≠st→S w')∧Qma P md ops Q S st fuel (listed.setIfInBounds i true) (a.put d (.slice (some ⟨g,0,none⟩) (n+1) cap)) w'):
  Qma P md ops Q S st (fuel+1) listed a E:=by
 subst hd hE;obtain⟨ii,hi',hz,hs1,hs2⟩:=info_parts hin;refine Qhi i hi hr hwant ?_;refine wp_append_lies _ s x t ho base e ii z size bytes ht hi' hz hs1 hs2 hzs hsz v n xs hs (hown.alloc _) ⟨w.heap.size,0,none⟩ 1 1 news hx (by omega)
  QPk (fun u hu=>List.all_eq_true.1 h1 u hu) (by omega) h63 hbytes (by simp;omega) _ rfl ?_
 intro g cap w' h2 h3 h4 h5;have ha:=World.grownBy_alloc w (.cells news.toArray e) v.ownBlock;refine h g cap w' h2 ⟨h3.os.trans ha.os,h3.tape.trans ha.tape,h3.output.trans ha.output,Nat.le_trans ha.size h3.size,fun k hk hn=>(h3.block k (Nat.lt_of_lt_of_le hk ha.size) hn).trans (ha.block k hk hn)⟩ ?_;rcases h4 with h4|h4
 ·exact .inl h4
 ·exact .inr (by rw [h4];simp)
end
end
section
open Go.RowKit
variable [Base]
def BldE (z bt sb pb mb:Nat) (nv:Value) (N:List Qx) (E:List (Nat×Nat)) (w:World):Prop:=∃S P,Bld z bt sb pb mb nv N S P w∧GrE N.length E S P
theorem BldE.below {z bt sb pb mb:Nat} {nv:Value} {N:List Qx} {E:List (Nat×Nat)} {w w':World} (h:BldE z bt sb pb mb nv N E w) (b:Below w.heap.size w w'):BldE z bt sb pb mb nv N E w':=by
 obtain⟨S,P,h1,h2⟩:=h;exact⟨S,P,h1.below b,h2⟩
def EdgeQ (z bt sb pb mb:Nat) (nv:Value) (N:List Qx) (E:List (Nat×Nat)) (w:World) (e:Ending) (w':World):Prop:=e=.returned (.tuple #[])∧BldE z bt sb pb mb nv N E w'∧Qbb z w w'
theorem QWm {z bt sb pb mb:Nat} {nv:Value} {N:List Qx} {E:List (Nat×Nat)} {w:World} (hbs:Base.b≤z) (hN:N.length≤256) (h:BldE z bt sb pb mb nv N E w) (a b:Nat) (ha:a<N.length) (hb:b<N.length):
  Calls Tryz.prog 99 #[.pointer (some ⟨bt,0,none⟩),iv a,iv b] w (EdgeQ z bt sb pb mb nv N (E++[(a,b)]) w):=by
 obtain⟨S,P,hB,hE⟩:=h;have hz:z≤w.heap.size:=by have:=Qb hB.bl;have:=hB.zs;omega
 obtain⟨v,r,hr,c1,own,grow⟩:=hB.rowS hbs hz ha;have hrl:=hE.slen hr;have hlt:bt<w.heap.size:=Qb hB.bl;have hls:sb<w.heap.size:=by obtain⟨vs,us,h1,_⟩:=hB.rows;exact Qb h1
 have hlp:pb<w.heap.size:=by obtain⟨vs,us,_,h1,_⟩:=hB.rows;exact Qb h1
 obtain⟨SC,hSC⟩:∃c,w.heap[sb]? = some (.cells c IT (0,0)):=by obtain⟨vs,us,h1,_⟩:=hB.rows;exact⟨_,h1⟩
 have HF1:=Zh hSC;have KC:=Zh (Qdk r v b w (show QJa w v r from Qg.of_owns own));have OWN:=Zh own;have GROW:=Zh grow;have HB:=Zh hB;have HE:=Zh hE;have HR:=Zh hr;have KZ:=Zh (Qbb.refl z w hz);obtain⟨x0,x1,x2,x3⟩:=Qt hB.bl;obtain⟨n,hn⟩:=Ze N.length;obtain⟨rl,hrl2⟩:=Ze r.length;rw [hn] at x1 x2 ha hb hN hrl;rw [hrl2] at hrl OWN GROW;have HN:=Zh hn;have hia:(a:Int)<(n:Int):=by omega
 have hib:(b:Int)<(n:Int):=by omega
 clear hB hE hr own grow hn hSC hrl2;go_enter Tryz.func99,Tryz.ntmps99;go_wp2_with fail;refine KC.o.mono ?_;rintro e w' ⟨rfl,rfl⟩;by_cases hm:(b:Int)∈r
 ·have hd:decide ((b:Int)∈r)=true:=by simpa using hm
  have HQ:=Zh (show BldE z bt sb pb mb nv N (E++[(a,b)]) w' from⟨S,P,HB.o,HE.o.same HR.o hm⟩);clear hm;rw [hd];go_wp2;exact bodyPost_ret (v:=.tuple #[]) (by simp [results,Tryz.results99,go_sem]) rfl ⟨rfl,HQ.o,KZ.o⟩
 ·have hd:decide ((b:Int)∈r)=false:=by simpa using hm
  have HM:=Zh hm;rw [hd];clear hm hd KC;go_upto_region 1 with(fail)
  refine QK (S:=fun w'=>w'.cell? ⟨bt,1,none⟩=some (.slice (some ⟨sb,0,none⟩) n n)∧w'.cell? ⟨sb,a,none⟩=some v) (st:=18) (by kernel_rfl) ?_;have hS0:(fun w':World=>w'.cell? ⟨bt,1,none⟩=some (.slice (some ⟨sb,0,none⟩) n n)∧w'.cell? ⟨sb,a,none⟩=some v) _:=⟨x1,c1⟩;refine Zd 0 (some 16) ?v1 hS0 ?run1 ?rest1
  case run1=>intro w hS;obtain⟨s0,s1⟩:=hS;go_simp;rfl
  refine Zd 1 (some 17) ?v2 hS0 ?run2 ?rest2
  case run2=>intro w hS;obtain⟨s0,s1⟩:=hS;go_simp;rfl
  refine Zd 2 (some 18) ?v3 hS0 ?run3 ?rest3
  case run3=>intro w hS;obtain⟨s0,s1⟩:=hS;go_simp;rfl
  refine Zd 3 (some 19) ?v4 hS0 ?run4 ?rest4
  case run4=>intro w hS;obtain⟨s0,s1⟩:=hS;go_simp;rfl
  refine Zd 4 (some 20) ?v5 hS0 ?run5 ?rest5
  case run5=>intro w hS;obtain⟨s0,s1⟩:=hS;go_simp;rfl
  refine Zd 5 (some 21) ?v6 hS0 ?run6 ?rest6
  case run6=>intro w hS;obtain⟨s0,s1⟩:=hS;go_simp;rfl
  refine Zd 6 (some 22) ?v7 hS0 ?run7 ?rest7
  case run7=>intro w hS;obtain⟨s0,s1⟩:=hS;go_simp;rfl
  refine Zd 7 (some 23) ?v8 hS0 ?run8 ?rest8
  case run8=>intro w hS;obtain⟨s0,s1⟩:=hS;go_simp;rfl
  refine Zd 8 (some 24) ?v9 hS0 ?run9 ?rest9
  case run9=>intro w hS;obtain⟨s0,s1⟩:=hS;go_simp;rfl
  refine Zd 9 (some 25) ?v10 hS0 ?run10 ?rest10
  case run10=>intro w hS;obtain⟨s0,s1⟩:=hS;go_simp;rfl
  refine Zd 10 (some 26) ?v11 hS0 ?run11 ?rest11
  case run11=>intro w hS;obtain⟨s0,s1⟩:=hS;go_simp;rfl
  refine Zd 11 (some 27) ?v12 hS0 ?run12 ?rest12
  case run12=>intro w hS;obtain⟨s0,s1⟩:=hS;go_simp;rfl
  refine Zd 12 (some 28) ?v13 hS0 ?run13 ?rest13
  case run13=>intro w hS;obtain⟨s0,s1⟩:=hS;go_simp;rfl
  refine Zd 13 (some 29) ?v14 hS0 ?run14 ?rest14
  case run14=>intro w hS;obtain⟨s0,s1⟩:=hS;go_simp;rfl
  refine Zd 14 (some 30) ?v15 hS0 ?run15 ?rest15
  case run15=>intro w hS;obtain⟨s0,s1⟩:=hS;go_simp;rfl
  refine QW 15 (some 31) (.slice (some ⟨w'.heap.size,0,none⟩) 1 1) ((w'.drewN 1).alloc (.cells #[iv (b:Int)] IN)) rfl (by kernel_rfl) (by kernel_rfl) ?rva1 rfl (fun _=>?sa1) ?_
  case rva1=>go_simp
  case sa1=>exact⟨(World.cell?_of_block (Below.heap_alloc _ _ _ (by show bt<w'.heap.size;omega))).trans hS0.1,(World.cell?_of_block (Below.heap_alloc _ _ _ (by show sb<w'.heap.size;omega))).trans hS0.2⟩
  clear hS0;refine Qgi 16 (some 32) (w:=w'.drewN 1) [iv (b:Int)] IN rfl rfl (by kernel_rfl) (by kernel_rfl) rfl _ _ IT rfl z _ 1 8 Tryz.underlying22 QRa rfl (by decide) v _ _ OWN.o (by kernel_rfl) (by kernel_rfl) rfl rfl (by unfold maxLen;omega) (by omega) hz ?_;intro g cap v5 ho hg hn;have G1:=Zh (GROW.o g cap v5 (b:Int) ho ⟨hg.os,hg.tape,hg.output,hg.size,hg.block⟩ hn);clear ho hg hn;have y1:=(World.cell?_of_block (a:=⟨bt,1,none⟩) G1.o.1.1).trans x1;have z1:=(World.cell?_of_block (a:=⟨sb,a,none⟩) G1.o.1.2).trans c1;have f1:=G1.o.1.2.trans HF1.o;have hS0:(fun w':World=>w'.cell? ⟨bt,1,none⟩=some (.slice (some ⟨sb,0,none⟩) n n)∧w'.cell? ⟨sb,a,none⟩=some v) v5:=⟨y1,z1⟩;refine⟨fun _=>hS0,?_⟩;refine Zd 17 (some 33) ?v16 hS0 ?run16 ?rest16
  case run16=>intro w hS;obtain⟨s0,s1⟩:=hS;go_simp;rfl
  have fz:=(Qa f1).2 a;refine Qeb 18 none (v5.setCell ⟨sb,a,none⟩ (.slice (some ⟨g,0,none⟩) (rl+1) cap)) rfl (by kernel_rfl) (by kernel_rfl) ?rs1 rfl (fun h=>absurd rfl h) ?_
  case rs1=>go_simp
  refine Qu (by kernel_rfl) ?_ _;generalize hA:Act.put _ _ _=A0;simp only [Qba,Qaa,Zu,Zv,Zw] at hA;subst hA;have HB2:=Zh G1.o.2.1;have KE2:=Zh G1.o.2.2;obtain⟨w2,hw2⟩:=Ze (v5.setCell ⟨sb,a,none⟩ (.slice (some ⟨g,0,none⟩) (rl+1) cap));rw [hw2] at HB2 KE2 ⊢;clear hw2 G1 y1 z1 f1 fz hS0 x0 x1 x2 x3 c1 HF1;have hz2:z≤w2.heap.size:=by have:=KE2.o.below.size;omega
  obtain⟨u,q,hq,c2,own2,grow2⟩:=HB2.o.rowP hbs hz2 (a:=b) (by have:=HN.o;omega);have hql:=HE.o.plen hq;obtain⟨ql,hql2⟩:=Ze q.length;have hlt2:bt<w2.heap.size:=Qb HB2.o.bl;have hlp2:pb<w2.heap.size:=by obtain⟨vs,us,_,h1,_⟩:=HB2.o.rows;exact Qb h1
  obtain⟨PC,hPC⟩:∃c,w2.heap[pb]? = some (.cells c IT (0,0)):=by obtain⟨vs,us,_,h1,_⟩:=HB2.o.rows;exact⟨_,h1⟩
  have HF2:=Zh hPC;have HQ2:=Zh hq;have OWN2:=Zh own2;have GROW2:=Zh grow2;obtain⟨x0,x1,x2,x3⟩:=Qt HB2.o.bl;rw [HN.o] at x1 x2 hql;rw [hql2] at hql OWN2 GROW2;clear hq own2 grow2 hPC hql2;obtain⟨g1,hg1⟩:∃g1:Nat,g=g1:=⟨_,rfl⟩;obtain⟨cap1,hc1⟩:∃c1:Nat,cap=c1:=⟨_,rfl⟩;subst hg1 hc1;clear OWN GROW;go_upto_region 2 with(fail)
  refine QK (S:=fun w'=>w'.cell? ⟨bt,2,none⟩=some (.slice (some ⟨pb,0,none⟩) n n)∧w'.cell? ⟨pb,b,none⟩=some u) (st:=18) (by kernel_rfl) ?_;have hS0:(fun w':World=>w'.cell? ⟨bt,2,none⟩=some (.slice (some ⟨pb,0,none⟩) n n)∧w'.cell? ⟨pb,b,none⟩=some u) _:=⟨x2,c2⟩;refine Zd 0 (some 34) ?v17 hS0 ?run17 ?rest17
  case run17=>intro w hS;obtain⟨s0,s1⟩:=hS;go_simp;rfl
  refine Zd 1 (some 35) ?v18 hS0 ?run18 ?rest18
  case run18=>intro w hS;obtain⟨s0,s1⟩:=hS;go_simp;rfl
  refine Zd 2 (some 36) ?v19 hS0 ?run19 ?rest19
  case run19=>intro w hS;obtain⟨s0,s1⟩:=hS;go_simp;rfl
  refine Zd 3 (some 37) ?v20 hS0 ?run20 ?rest20
  case run20=>intro w hS;obtain⟨s0,s1⟩:=hS;go_simp;rfl
  refine Zd 4 (some 38) ?v21 hS0 ?run21 ?rest21
  case run21=>intro w hS;obtain⟨s0,s1⟩:=hS;go_simp;rfl
  refine Zd 5 (some 39) ?v22 hS0 ?run22 ?rest22
  case run22=>intro w hS;obtain⟨s0,s1⟩:=hS;go_simp;rfl
  refine Zd 6 (some 40) ?v23 hS0 ?run23 ?rest23
  case run23=>intro w hS;obtain⟨s0,s1⟩:=hS;go_simp;rfl
  refine Zd 7 (some 41) ?v24 hS0 ?run24 ?rest24
  case run24=>intro w hS;obtain⟨s0,s1⟩:=hS;go_simp;rfl
  refine Zd 8 (some 42) ?v25 hS0 ?run25 ?rest25
  case run25=>intro w hS;obtain⟨s0,s1⟩:=hS;go_simp;rfl
  refine Zd 9 (some 43) ?v26 hS0 ?run26 ?rest26
  case run26=>intro w hS;obtain⟨s0,s1⟩:=hS;go_simp;rfl
  refine Zd 10 (some 44) ?v27 hS0 ?run27 ?rest27
  case run27=>intro w hS;obtain⟨s0,s1⟩:=hS;go_simp;rfl
  refine Zd 11 (some 45) ?v28 hS0 ?run28 ?rest28
  case run28=>intro w hS;obtain⟨s0,s1⟩:=hS;go_simp;rfl
  refine Zd 12 (some 46) ?v29 hS0 ?run29 ?rest29
  case run29=>intro w hS;obtain⟨s0,s1⟩:=hS;go_simp;rfl
  refine Zd 13 (some 47) ?v30 hS0 ?run30 ?rest30
  case run30=>intro w hS;obtain⟨s0,s1⟩:=hS;go_simp;rfl
  refine Zd 14 (some 48) ?v31 hS0 ?run31 ?rest31
  case run31=>intro w hS;obtain⟨s0,s1⟩:=hS;go_simp;rfl
  refine QW 15 (some 49) (.slice (some ⟨w2.heap.size,0,none⟩) 1 1) ((w2.drewN 1).alloc (.cells #[iv (a:Int)] IN)) rfl (by kernel_rfl) (by kernel_rfl) ?rva2 rfl (fun _=>?sa2) ?_
  case rva2=>go_simp
  case sa2=>exact⟨(World.cell?_of_block (Below.heap_alloc _ _ _ (by show bt<w2.heap.size;omega))).trans hS0.1,(World.cell?_of_block (Below.heap_alloc _ _ _ (by show pb<w2.heap.size;omega))).trans hS0.2⟩
  clear hS0;refine Qgi 16 (some 50) (w:=w2.drewN 1) [iv (a:Int)] IN rfl rfl (by kernel_rfl) (by kernel_rfl) rfl _ _ IT rfl z _ 1 8 Tryz.underlying22 QRa rfl (by decide) u _ _ OWN2.o (by kernel_rfl) (by kernel_rfl) rfl rfl (by unfold maxLen;omega) (by omega) hz2 ?_;intro g cap v5 ho hg hn;have G2:=Zh (GROW2.o g cap v5 (a:Int) ho ⟨hg.os,hg.tape,hg.output,hg.size,hg.block⟩ hn);clear ho hg hn;have y2:=(World.cell?_of_block (a:=⟨bt,2,none⟩) G2.o.1.1).trans x2;have z2:=(World.cell?_of_block (a:=⟨pb,b,none⟩) G2.o.1.2).trans c2;have f2:=G2.o.1.2.trans HF2.o;have hS0:(fun w':World=>w'.cell? ⟨bt,2,none⟩=some (.slice (some ⟨pb,0,none⟩) n n)∧w'.cell? ⟨pb,b,none⟩=some u) v5:=⟨y2,z2⟩;refine⟨fun _=>hS0,?_⟩;refine Zd 17 (some 51) ?v32 hS0 ?run32 ?rest32
  case run32=>intro w hS;obtain⟨s0,s1⟩:=hS;go_simp;rfl
  have fz:=(Qa f2).2 b;refine Qeb 18 none (v5.setCell ⟨pb,b,none⟩ (.slice (some ⟨g,0,none⟩) (ql+1) cap)) rfl (by kernel_rfl) (by kernel_rfl) ?rs2 rfl (fun h=>absurd rfl h) ?_
  case rs2=>go_simp
  refine Qu (by kernel_rfl) ?_ _;generalize hA:Act.put _ _ _=A0;simp only [Qba,Qaa,Zu,Zv,Zw] at hA;subst hA;have HFIN:=Zh (show BldE z bt sb pb mb nv N (E++[(a,b)]) (v5.setCell ⟨pb,b,none⟩ (.slice (some ⟨g,0,none⟩) (ql+1) cap)) from⟨_,_,G2.o.2.1,HE.o.add (by have:=HN.o;omega) (by have:=HN.o;omega) HR.o HQ2.o HM.o⟩);have KFIN:=Zh (KE2.o.trans G2.o.2.2);clear y2 z2 f2 fz hS0 x0 x1 x2 x3 c2;go_wp2;exact bodyPost_end (v:=.tuple #[]) (by simp [results,Tryz.results99,go_sem]) rfl ⟨rfl,HFIN.o,KFIN.o⟩
end
section
open Go.RowKit
variable [Base]
theorem QOo (y x:Str) (v:Value) (nb:Nat) (w:World) (hx:w.heap[nb]? = some (.cells #[sv x] TS (0,0))):
  Calls Tryz.prog 196 #[.agg #[sv y,v],.pointer (some ⟨nb,0,none⟩)] w (Qia (decide (y=x)) w):=by
 have hlt:=Qb hx;have c0:=((Below.refl w.heap.size w).alloc (Nat.le_refl _) (.cells #[sv y,v] 92)).cell (p:=⟨nb,0,none⟩) hlt;have x0:=(Qd hx).1 0;simp at x0;rw [x0] at c0;by_cases hyx:y=x
 ·subst hyx;have hd:decide (y=y)=true:=by simp
  rw [hd];clear hd;go_enter Tryz.func196,Tryz.ntmps196;go_wp2;go_ret;exact⟨by simp,Zb⟩
 ·have hd:decide (y=x)=false:=by simpa using hyx
  have he:(y==x)=false:=by simpa using hyx
  have HNE:=Zh hyx;rw [hd];clear hd hyx;go_enter Tryz.func196,Tryz.ntmps196;go_wp2;go_ret;exact⟨by(first|(simp [he];done)|(simp;exact HNE.o)),Zb⟩
theorem Qpl (l:List QI) (v:Value) (x:Str) (nb:Nat) (w:World) (h:QOc w v l) (hx:w.heap[nb]? = some (.cells #[sv x] TS (0,0))):
  Calls Tryz.prog 195 #[v,.func (.func 196) #[] #[.pointer (some ⟨nb,0,none⟩)]] w (IntQ (idxI (l.map QI.name) x) w):=by
 obtain⟨a,c,rfl,hn,hc⟩:=h.cell;have HC:=Zh hc;obtain⟨n,hl⟩:=Ze l.length;rw [hl] at hn ⊢;have HL:=Zh hl;obtain⟨L,hL⟩:=Ze (l.map QI.name);rw [hL];have HLL:=Zh hL;have HLN:=Zh (show L.length=n by rw [←hL,List.length_map,hl]);have HX:=Zh hx;clear hc h hl hL hx;unfold maxLen at hn;go_enter Tryz.func195,Tryz.ntmps195;go_wp2;go_loopw [8] (fun y wr=>∃k:Nat,k≤n∧y=.int .i64 k∧Hid (Below w.heap.size w wr)∧Hid (x∉L.take k)) (fun y _=>n-(intOf y).toNat)
 case atStart=>exact⟨0,Nat.zero_le _,rfl,Below.refl _ _,by unfold Hid;simp⟩
 case round=>
  obtain⟨k,hk,rfl,HB,HNI⟩:=hrel;by_cases hlt:k<n
  ·obtain⟨f,hf⟩:∃f,l[k]? = some f:=⟨_,List.getElem?_eq_getElem (by rw [HL.o];exact hlt)⟩;obtain⟨fb,off,bv,rfl,hfb,g0,g1,hbl⟩:=HC.o k f hf;have g0:=(HB.o.cell (p:=⟨fb,off+k*2,none⟩) hfb).trans g0;have g1:=(HB.o.cell (p:=⟨fb,off+k*2+1,none⟩) hfb).trans g1;obtain⟨ba,bc,rfl,-,-⟩:=hbl.cell;obtain⟨bn,hbn⟩:=Ze (List.length f.stmts);rw [hbn] at g1;have HY:=Zh (show L[k]? = some f.name by rw [←HLL.o,List.getElem?_map,hf];rfl);obtain⟨y,hy⟩:=Ze f.name;rw [hy] at g0 HY;have K:=Zh (QOo y x (.slice ba bn bc) nb wr ((HB.o.block nb (Qb HX.o)).trans HX.o));clear hf hbl hbn hy;go_wp2_with fail;refine K.o.mono ?_;rintro e w2 ⟨rfl,b2⟩;have HB2:=Zh (HB.o.trans (b2.mono HB.o.size));clear b2 g0 g1 K HB;by_cases hxy:y=x
   ·subst hxy;have HK:=Zh (show idxI L y=(k:Int) from Qse HY.o HNI.o);have hd:decide (y=y)=true:=by simp
    rw [hd];clear hd;go_wp2;go_ret;exact⟨Qob HK.o.symm,HB2.o⟩
   ·have HN1:=Zh (show x∉L.take (k+1) by
     rw [List.take_add_one,HY.o];intro h;rcases List.mem_append.1 h with h|h
     ·exact HNI.o h
     ·simp at h;exact hxy h.symm)
    have hd:decide (y=x)=false:=by simpa using hxy
    rw [hd];clear hd hxy;go_wp2;go_roundw
    case rel=>exact⟨k+1,by omega,by go_num,HB2,HN1⟩
    case measure=>simp [intOf];omega
  ·have HK:=Zh (show idxI L x = -1 by
    unfold idxI;rw [if_neg (fun h=>HNI.o (by rwa [List.take_of_length_le (by rw [HLN.o];omega)]))])
   go_wp2;go_ret;exact⟨Qob HK.o.symm,HB.o⟩
theorem Qkq (y x:Str) (v:Value) (nb:Nat) (w:World) (op:Int) (dn:Str) (u t:Value) (hx:w.heap[nb]? = some (.cells #[iv op,sv dn,u,t] 94 (0,0))) (tl:List Str) (ht:Qea w t (x::tl)):
  Calls Tryz.prog 164 #[.agg #[sv y,v],.pointer (some ⟨nb,0,none⟩)] w (Qia (decide (y=x)) w):=by
 have hlt:=Qb hx;obtain⟨ta,tc,rfl,-,htc⟩:=ht.cell;obtain⟨tb,toff,rfl,htb,g1⟩:=htc 0 x rfl;obtain⟨tn,htn⟩:∃n,(x::tl).length=n+1:=⟨tl.length,rfl⟩;rw [htn] at hx;have AL:=(Below.refl w.heap.size w).alloc (Nat.le_refl _) (.cells #[sv y,v] 89);have hx2:=(AL.block nb hlt).trans hx;have c0:=(AL.cell (p:=⟨tb,toff,none⟩) htb).trans (by simpa using g1);have n0:=heap_alloc_new w (.cells #[sv y,v] 89);obtain⟨W,hW⟩:=Ze (w.alloc (.cells #[sv y,v] 89));have HW:=Zh hW;rw [hW] at hx2 c0 n0;have BW:=Zh (hW▸AL);obtain⟨s0,s1,s2,s3⟩:=Qt hx2;obtain⟨m0,m1⟩:=Qq n0;obtain⟨q,hq⟩:=Ze w.heap.size;have HQ:=Zh hq;rw [hq] at m0 m1;clear hW AL hx hx2 n0 htn g1 htc ht htb;go_enter Tryz.func164,Tryz.ntmps164;go_upto_region 1 with(fail)
 rw [show w.alloc (.cells #[sv y,v] 89)=W from HW.o]
 try rw [hq]
 clear hq;by_cases hyx:y=x
 ·subst hyx;have hd:decide (y=y)=true:=by simp
  rw [hd];clear hd;go_region;go_wp2;go_ret;exact⟨by simp,Qp BW.o 1⟩
 ·have hd:decide (y=x)=false:=by simpa using hyx
  have he:(y==x)=false:=by simpa using hyx
  have HNE:=Zh hyx;rw [hd];clear hd hyx;go_region;go_wp2;go_ret;exact⟨by(first|(simp [he];done)|(simp;exact HNE.o)),Qp BW.o 1⟩
theorem QHm (l:List Qo) (v:Value) (x:Str) (nb:Nat) (w:World) (h:QAa w v l) (op:Int) (dn:Str) (u t:Value) (hx:w.heap[nb]? = some (.cells #[iv op,sv dn,u,t] 94 (0,0))) (tl:List Str) (ht:Qea w t (x::tl)):
  Calls Tryz.prog 163 #[v,.func (.func 164) #[] #[.pointer (some ⟨nb,0,none⟩)]] w (IntQ (idxI (l.map Qo.name) x) w):=by
 obtain⟨a,c,rfl,hn,hc⟩:=h.cell;have HC:=Zh hc;obtain⟨n,hl⟩:=Ze l.length;rw [hl] at hn ⊢;have HL:=Zh hl;obtain⟨L,hL⟩:=Ze (l.map Qo.name);rw [hL];have HLL:=Zh hL;have HLN:=Zh (show L.length=n by rw [←hL,List.length_map,hl]);have HX:=Zh hx;have HT:=Zh ht;clear hc h hl hL hx ht;unfold maxLen at hn;go_enter Tryz.func163,Tryz.ntmps163;go_wp2;go_loopw [8] (fun y wr=>∃k:Nat,k≤n∧y=.int .i64 k∧Hid (Below w.heap.size w wr)∧Hid (x∉L.take k)) (fun y _=>n-(intOf y).toNat)
 case atStart=>exact⟨0,Nat.zero_le _,rfl,Below.refl _ _,by unfold Hid;simp⟩
 case round=>
  obtain⟨k,hk,rfl,HB,HNI⟩:=hrel;by_cases hlt:k<n
  ·obtain⟨f,hf⟩:∃f,l[k]? = some f:=⟨_,List.getElem?_eq_getElem (by rw [HL.o];exact hlt)⟩;obtain⟨fb,off,bv,rfl,hfb,g0,g1,hbl⟩:=HC.o k f hf;have g0:=(HB.o.cell (p:=⟨fb,off+k*2,none⟩) hfb).trans g0;have g1:=(HB.o.cell (p:=⟨fb,off+k*2+1,none⟩) hfb).trans g1;obtain⟨ba,bc,rfl,-,-⟩:=hbl.cell;obtain⟨bn,hbn⟩:=Ze (List.length f.blocks);rw [hbn] at g1;have HY:=Zh (show L[k]? = some f.name by rw [←HLL.o,List.getElem?_map,hf];rfl);obtain⟨y,hy⟩:=Ze f.name;rw [hy] at g0 HY;have K:=Zh (Qkq y x (.slice ba bn bc) nb wr op dn u t ((HB.o.block nb (Qb HX.o)).trans HX.o) tl (HT.o.same (Qf.below HB.o)));clear hf hbl hbn hy;go_wp2_with fail;refine K.o.mono ?_;rintro e w2 ⟨rfl,b2⟩;have HB2:=Zh (HB.o.trans (b2.mono HB.o.size));clear b2 g0 g1 K HB;by_cases hxy:y=x
   ·subst hxy;have HK:=Zh (show idxI L y=(k:Int) from Qse HY.o HNI.o);have hd:decide (y=y)=true:=by simp
    rw [hd];clear hd;go_wp2;go_ret;exact⟨Qob HK.o.symm,HB2.o⟩
   ·have HN1:=Zh (show x∉L.take (k+1) by
     rw [List.take_add_one,HY.o];intro h;rcases List.mem_append.1 h with h|h
     ·exact HNI.o h
     ·simp at h;exact hxy h.symm)
    have hd:decide (y=x)=false:=by simpa using hxy
    rw [hd];clear hd hxy;go_wp2;go_roundw
    case rel=>exact⟨k+1,by omega,by go_num,HB2,HN1⟩
    case measure=>simp [intOf];omega
  ·have HK:=Zh (show idxI L x = -1 by
    unfold idxI;rw [if_neg (fun h=>HNI.o (by rwa [List.take_of_length_le (by rw [HLN.o];omega)]))])
   go_wp2;go_ret;exact⟨Qob HK.o.symm,HB.o⟩
theorem Qfp {z bt sb pb mb:Nat} {nv:Value} {N:List Qx} {E:List (Nat×Nat)} {w:World} (h:BldE z bt sb pb mb nv N E w) (a b c d:Int) (hf:fitN ⟨a,b,c,d⟩):
  Calls Tryz.prog 100 #[.pointer (some ⟨bt,0,none⟩),iv a,iv b,iv c,iv d] w (fun e w'=>e=.returned (iv (numN N ⟨a,b,c,d⟩))∧w'=w):=by
 obtain⟨S,P,hB,-⟩:=h;obtain⟨x0,x1,x2,x3⟩:=Qt hB.bl;have hlk:=hB.mp.look hf;simp only at hlk;obtain⟨r,hr⟩:=Ze (numN N ⟨a,b,c,d⟩);rw [hr] at hlk ⊢;obtain⟨n,hn⟩:=Ze N.length;rw [hn] at x1 x2;clear hB hf hr hn;go_enter Tryz.func100,Tryz.ntmps100;go_wp2;go_ret;exact⟨rfl,rfl⟩
end
section
open Go.RowKit
variable [Base]
def numT (N:List Qx) (n:Qx):Nat:=(numN N n).toNat
theorem QLc (N:List Qx) (n:Qx):numN N n=((numT N n:Nat):Int):=by
 unfold numT numN
 split
 ·rename_i h;obtain⟨k,hk,-⟩:=Qgc h;rw [hk];simp
 ·rfl
theorem QEc {N:List Qx} {n:Qx} (h:n∈N):numT N n<N.length∧N[numT N n]? = some n:=by
 obtain⟨k,hk,hn⟩:=Qgc h;have e:numT N n=k:=by unfold numT numN;rw [if_pos h,hk];simp
 rw [e];exact⟨(List.getElem?_eq_some_iff.1 hn).1,hn⟩
theorem QIj {p:List Qo} (hc:Ckd p) {n x y:Qx} (hn:n∈QB p 0) (h:(x,y)∈QU p n):x∈QB p 0∧y∈QB p 0:=by
 have h1:(x,y)∈Qva p (QB p 0):=List.mem_flatten.2 ⟨_,List.mem_map.2 ⟨n,hn,rfl⟩,h⟩;obtain⟨h2,h3⟩:=(Qsh hc x y).1 h1;exact⟨h2,Qum hc h2 h3⟩
theorem Qir {z bt sb pb mb:Nat} {nv:Value} {N:List Qx} {E:List (Nat×Nat)} {w0 w:World} (hz:w0.heap.size=z) (b0:Below z w0 w) (h:BldE z bt sb pb mb nv N E w) (p:List Qo) (v:Value) (hp:QAa w0 v p) (i:Nat) (f:Qo) (hf:p[i]? = some f) (hbl:f.blocks.length≤1000) (hpl:p.length≤1000) (x:Str):
  Calls Tryz.prog 162 #[.pointer (some ⟨bt,0,none⟩),.agg #[v],iv i,sv x] w (IntQ (numN N ⟨3,i,idxI (QPb f) x,0⟩) w):=by
 obtain⟨a,c,rfl,hn,hc⟩:=hp.cell;obtain⟨fb,off,bv,rfl,hfb,-,g1,hb⟩:=hc i f hf;obtain⟨n,hl⟩:=Ze p.length;have hin:(i:Int)<(n:Int):=by have:=(List.getElem?_eq_some_iff.1 hf).1;omega
 rw [hl] at hn hpl ⊢;obtain⟨q,hq⟩:=Ze w.heap.size;have zq:z≤q:=by have:=b0.size;omega
 obtain⟨W,hW⟩:=Ze ((w.alloc (.cells #[.slice (some ⟨fb,off,none⟩) n c] 25)).alloc (.cells #[sv x] TS));have BW:=Zh (show Below q w W by rw [←hW,←hq];exact(Zb).alloc (by simp) _);have HP:=show W.heap[q]? = some (.cells #[.slice (some ⟨fb,off,none⟩) n c] 25 (0,0)) by rw [←hW,←hq];exact Qfa _ (heap_alloc_new _ _)
 have HX:=Zh (show W.heap[q+1]? = some (.cells #[sv x] TS (0,0)) by rw [←hW,←hq];have:=heap_alloc_new (w.alloc (.cells #[.slice (some ⟨fb,off,none⟩) n c] 25)) (.cells #[sv x] TS);rwa [World.size_alloc] at this);have BZ:=Zh (b0.trans (BW.o.mono zq));have g1:=(BZ.o.cell (p:=⟨fb,off+i*2+1,none⟩) (by show fb<z;omega)).trans g1;have HBL:=Zh (hb.keep (Qf.below (hz▸BZ.o)) (Qf.below (hz▸BZ.o)) (Qf.below (hz▸BZ.o)));obtain⟨ba,bc,rfl,-,-⟩:=hb.cell;obtain⟨bn,hbn⟩:=Ze (List.length f.blocks);rw [hbn] at g1 HBL hbl;have K:=Zh (Qpl f.blocks (.slice ba bn bc) x (q+1) W HBL.o HX.o);have hidx:-1≤idxI (QPb f) x∧idxI (QPb f) x≤1000:=by
  by_cases hm:x∈QPb f
  ·obtain⟨k,hk,hkx⟩:=Qgc hm;have h1:=(List.getElem?_eq_some_iff.1 hkx).1;unfold QPb at h1;rw [List.length_map] at h1;omega
  ·rw [QLp hm];omega
 obtain⟨ix,hix⟩:=Ze (idxI (QPb f) x);rw [show idxI (f.blocks.map QI.name) x=ix from hix] at K;rw [hix] at hidx ⊢;have x0:=(Qd HP).1 0;simp at x0;have HWW:=Zh hW;have HQ:=Zh hq;have HH:=Zh (h.below (hq.symm▸BW.o));have hil:(i:Int)≤1000:=by omega
 clear h hp hc hf hb hW hbn hix HP hl;go_enter Tryz.func162,Tryz.ntmps162;go_upto_region 1 with(fail)
 rw [show(w.alloc (.cells #[.slice (some ⟨fb,off,none⟩) n c] 25)).alloc (.cells #[sv x] TS)=W from HWW.o]
 try rw [hq]
 clear hq;go_wp2_with fail;refine K.o.mono ?_;rintro e w2 ⟨rfl,b2⟩;have HH2:=Zh (HH.o.below b2);have B2:=Zh (BW.o.trans (b2.mono (by have:=BW.o.size;have:=HQ.o;omega)));have KA:=Zh (Qfp HH2.o 3 i ix 0 ⟨by unfold fitI;dsimp only;omega,by unfold fitI;dsimp only;omega,by unfold fitI;dsimp only;omega,by unfold fitI;dsimp only;omega⟩);clear b2 x0 g1 K;go_wp2_with fail;refine KA.o.mono ?_;rintro e w3 ⟨rfl,rfl⟩;go_wp2;go_ret;exact⟨rfl,by rw [HQ.o];exact B2.o⟩
end
section
open Go.RowKit
variable [Base]
def numE (N:List Qx) (e:Qx×Qx):Nat×Nat:=(numT N e.1,numT N e.2)
def StmtG (z bt sb pb mb:Nat) (nv:Value) (N:List Qx) (E:List (Nat×Nat)) (w:World) (e:Ending) (w':World):Prop:=e=.returned (.tuple #[])∧BldE z bt sb pb mb nv N E w'∧Qbb z w w'
theorem Qbr {z bt sb pb mb:Nat} {nv:Value} {E:List (Nat×Nat)} {w0 w:World} (hbs:Base.b≤z) (hz:w0.heap.size=z) (b0:Below z w0 w) (p:List Qo) (v:Value) (hp:QAa w0 v p) (hck:QFa p=0)
  (h:BldE z bt sb pb mb nv (QB p 0) E w) {i k j:Nat} {f:Qo} {b:QI} {s:QD} (hat:At p i k j f b s) (u t:Value) (hu:∃a n c,u=.slice a n c) (ht:Qea w0 t s.targets):
  Calls Tryz.prog 101 #[.pointer (some ⟨bt,0,none⟩),.agg #[v],.agg #[iv 3,iv i,iv k,iv j],.agg #[iv s.op,sv s.dfn,u,t]] w
   (StmtG z bt sb pb mb nv (QB p 0) (E++(QU p ⟨3,i,k,j⟩).map (numE (QB p 0))) w):=by
 have hc:=Qzb hck;have hN256:(QB p 0).length≤256:=by rw [←Qne hck];exact Qme
 have hfew:=QUc hc.valid;have hi8:i<p.length:=(List.getElem?_eq_some_iff.1 hat.hf).1;have hk16:k<f.blocks.length:=(List.getElem?_eq_some_iff.1 hat.hb).1;have hj32:j<b.stmts.length:=(List.getElem?_eq_some_iff.1 hat.hs).1;have hf16:=hfew.2 f hat.fm;have hb32:=hf16.2 b hat.bm;have n3:=hat.node3;obtain⟨N,hN⟩:=Ze (QB p 0);have HNN:=Zh hN;have HED:=Zh (fun (x y:Qx) (he:(x,y)∈QU p ⟨3,i,k,j⟩)=>QIj hc n3 he);rw [hN] at h hN256 n3 HED ⊢;have HD:=Zh (hat.d 3);have HAT:=Zh hat;have HCK:=Zh hc;have hfi:∀x:Int,-1≤x→x≤1000→fitI x:=fun x h1 h2=>by unfold fitI;omega
 have HFIT:=Zh hfi;have KFI:=Zh (fun (x:World) (bx:Below z w0 x) (hB:BldE z bt sb pb mb nv N (E) x)=>True.intro);obtain⟨ua,un,uc,rfl⟩:=hu;obtain⟨ta,tc,rfl,h63,htc⟩:=ht.cell;obtain⟨tn,htn⟩:=Ze s.targets.length;have HTT:=Zh ht;rw [htn] at HTT h63 ⊢;unfold maxLen at h63;have HTC:=Zh htc;have HTN:=Zh htn;obtain⟨a,c,rfl,hn,-⟩:=hp.cell;obtain⟨n,hl⟩:=Ze p.length;have HPP:=Zh hp;have HFI:=Zh (fun (E':List (Nat×Nat)) (x:World) (bx:Below z w0 x) (hB:BldE z bt sb pb mb nv N E' x) (y:Str)=>Qir hz bx hB p _ hp i f hat.hf (by omega) (by omega) y);rw [hl] at HPP HFI hn hi8 hfew ⊢;obtain⟨q,hq⟩:=Ze w.heap.size;have zq:z≤q:=by have:=b0.size;omega
 obtain⟨op,hop⟩:=Ze s.op;obtain⟨dn,hdn⟩:=Ze s.dfn;rw [hop,hdn];have HOP:=Zh hop;obtain⟨W,hW⟩:=Ze (((w.alloc (.cells #[.slice a n c] 25)).alloc (.cells #[iv 3,iv i,iv k,iv j] NT)).alloc (.cells #[iv op,sv dn,.slice ua un uc,.slice ta tn tc] 94));have BW:=Zh (show Below q w W by rw [←hW,←hq];exact((Zb).alloc (by simp) _).alloc (by simp;omega) _);have HP:=Zh (show W.heap[q]? = some (.cells #[.slice a n c] 25 (0,0)) by rw [←hW,←hq];exact Qfa _ (Qfa _ (heap_alloc_new _ _)));have HNB:=Zh (show W.heap[q+1]? = some (.cells #[iv 3,iv i,iv k,iv j] NT (0,0)) by
  rw [←hW,←hq];have:=heap_alloc_new (w.alloc (.cells #[.slice a n c] 25)) (.cells #[iv 3,iv i,iv k,iv j] NT);rw [World.size_alloc] at this;exact Qfa _ this)
 have HSB:=Zh (show W.heap[q+1+1]? = some (.cells #[iv op,sv dn,.slice ua un uc,.slice ta tn tc] 94 (0,0)) by
  rw [←hW,←hq];have:=heap_alloc_new ((w.alloc (.cells #[.slice a n c] 25)).alloc (.cells #[iv 3,iv i,iv k,iv j] NT)) (.cells #[iv op,sv dn,.slice ua un uc,.slice ta tn tc] 94)
  rwa [World.size_alloc,World.size_alloc] at this)
 have HB:=Zh (h.below (hq.symm▸BW.o));have KE:=Zh (show Qbb z w W from Qbb.of (hq.symm▸BW.o) (by omega));have BZ:=Zh b0;have HWW:=Zh hW;have HQ:=Zh hq;have hlk:=Zh (show ∀m,(Instr.lookup 156 (.map (some mb)) (.agg #[iv 3,iv i,iv k,iv j]) false).run Tryz.prog (W.drewN m)=.ok (.int .i64 (numN N ⟨3,i,k,j⟩)) (W.drewN m) from fun m=>by
  obtain⟨S,P,hB,-⟩:=HB.o;exact(hB.keep (w':=W.drewN m) fun _ _=>rfl).mp.look (x:=⟨3,i,k,j⟩) ⟨hfi 3 (by omega) (by omega),hfi (i:Int) (by omega) (by omega),hfi (k:Int) (by omega) (by omega),hfi (j:Int) (by omega) (by omega)⟩)
 obtain⟨x3,hlt⟩:W.cell? ⟨bt,3,none⟩=some (.map (some mb))∧bt<W.heap.size:=by
  obtain⟨S,P,hB,-⟩:=HB.o;exact⟨(Qt hB.bl).2.2.2,Qb hB.bl⟩
 obtain⟨hh,hhh⟩:∃m:Nat,numT N ⟨3,i,k,j⟩=m:=⟨_,rfl⟩;have HH:=Zh hhh;have hhl:hh<N.length:=hhh▸(QEc n3).1;rw [show numN N ⟨3,i,k,j⟩=(hh:Int) by rw [QLc,hhh]] at hlk;have KAT:=Zh (fun (E':List (Nat×Nat)) (x:World) (hB:BldE z bt sb pb mb nv N E' x) a b c d hf=>Qfp hB a b c d hf);have KED:=Zh (fun (E':List (Nat×Nat)) (x:World) (hB:BldE z bt sb pb mb nv N E' x) a b ha hb=>QWm hbs hN256 hB a b ha hb);have HFW:=Zh hfew;have HF16:=Zh hf16;have HN3:=Zh n3;obtain⟨nx,hnx⟩:∃m:Nat,numT N ⟨3,i,k,j+1⟩=m:=⟨_,rfl⟩;have HNX:=Zh hnx;have hk17:k≤16:=by omega
 have hj33:j≤32:=by omega
 have hi9:i≤8:=by omega
 have HST:=Zh (hc.stmt hat.fm hat.bm);obtain⟨nd,hnd⟩:∃x:Qx,(⟨3,i,k,j⟩:Qx)=x:=⟨_,rfl⟩;have HE7:=Zh (show op=7∨op=8→QU p nd=s.targets.map fun t=>(nd,⟨3,i,blkI f t,0⟩) from fun h=>by
  have h7:(Qec p nd).op=7∨(Qec p nd).op=8:=by rw [←hnd,HD.o,hop];exact h
  unfold QU;rw [if_neg (by rw [←hnd];show ¬((3:Int)=1);omega),if_pos (by rw [←hnd]),if_pos h7,←hnd,HD.o];dsimp only;rw [hat.fn])
 have HE9:=Zh (show op=9→QU p nd=[(nd,⟨2,i,-1,-1⟩)] from fun h=>by
  unfold QU;rw [if_neg (by rw [←hnd];show ¬((3:Int)=1);omega),if_pos (by rw [←hnd]),if_neg (by rw [←hnd,HD.o,hop];omega),if_pos (by rw [←hnd,HD.o,hop];exact h),←hnd])
 have HE3:=Zh (show op=3→QU p nd=[(nd,⟨1,fnI p (tgt s),-1,-1⟩),(⟨2,fnI p (tgt s),-1,-1⟩,⟨4,i,k,j⟩),(⟨4,i,k,j⟩,⟨3,i,k,j+1⟩)] from fun h=>by
  unfold QU;rw [if_neg (by rw [←hnd];show ¬((3:Int)=1);omega),if_pos (by rw [←hnd]),if_neg (by rw [←hnd,HD.o,hop];omega),if_neg (by rw [←hnd,HD.o,hop];omega),if_pos (by rw [←hnd,HD.o,hop];exact h),←hnd,HD.o])
 have HE0:=Zh (show op≠7→op≠8→op≠9→op≠3→QU p nd=[(nd,⟨3,i,k,j+1⟩)] from fun h1 h2 h3 h4=>by
  unfold QU;rw [if_neg (by rw [←hnd];show ¬((3:Int)=1);omega),if_pos (by rw [←hnd]),if_neg (by rw [←hnd,HD.o,hop];omega),if_neg (by rw [←hnd,HD.o,hop];omega),if_neg (by rw [←hnd,HD.o,hop];omega),←hnd])
 have HCAL:=Zh (show op=3→∃g:Nat,fnI p (tgt s)=g∧g<n∧∃tl,s.targets=tgt s::tl from fun h=>by
  obtain⟨g,f',h1,h2,-⟩:=hc.callee hat (by rw [hop];exact h);obtain⟨t0,h3⟩:=QZi ((hc.stmt hat.fm hat.bm).2 s hat.sm) (by rw [hop];exact h);exact⟨g,h1,by have:=(List.getElem?_eq_some_iff.1 h2).1;omega,[],by unfold tgt;rw [h3];rfl⟩)
 rw [hnd] at HED HH HN3 ⊢;have HND:=Zh hnd;have HSB2:=Zh (HST.o.2 s hat.sm);clear b0 h hp ht htc htn hc hfew hW hhh hl hat hf16 hb32 n3 hfi hN hnx HST hop hdn hnd;obtain⟨d0,d1,d2,d3⟩:=Qt HNB.o;go_enter Tryz.func101,Tryz.ntmps101;go_upto_region 1 with(fail)
 rw [show((w.alloc (.cells #[.slice a n c] 25)).alloc (.cells #[iv 3,iv i,iv k,iv j] NT)).alloc (.cells #[iv op,sv dn,.slice ua un uc,.slice ta tn tc] 94)=W from HWW.o]
 try rw [hq]
 have hl1:(Instr.lookup 156 (.map (some mb)) (.agg #[iv 3,iv i,iv k,iv j]) false).run Tryz.prog W.drew=.ok (.int .i64 (hh:Int)) W.drew:=hlk.o 1;go_region;obtain⟨W1,hW1⟩:=Ze W.drew;have HB1:=Zh (show BldE z bt sb pb mb nv N E W1 by
  obtain⟨S,P,h1,h2⟩:=HB.o;exact⟨S,P,h1.keep fun k _=>by rw [←hW1];rfl,h2⟩)
 have HP1:=Zh (show W1.heap[q]? = some (.cells #[.slice a n c] 25 (0,0)) from hW1▸HP.o);have HNB1:=Zh (show W1.heap[q+1]? = some (.cells #[iv 3,iv i,iv k,iv j] NT (0,0)) from hW1▸HNB.o);have HSB1:=Zh (show W1.heap[q+1+1]? = some (.cells #[iv op,sv dn,.slice ua un uc,.slice ta tn tc] 94 (0,0)) from hW1▸HSB.o);have KE1:=Zh (show Qbb z w W1 by rw [←hW1];exact KE.o.trans ⟨Qp ((Below.refl _ _).mono (by have:=BW.o.size;have:=HQ.o;omega)) 1,fun _ _ _=>Qf.drewN⟩);rw [hW1];clear hW1 hl1 d0 d1 d2 d3 x3 hlt;obtain⟨d0,d1,d2,d3⟩:=Qt HNB1.o;have KA1:=Zh (KAT.o E W1 HB1.o 3 i k (j+1) ⟨HFIT.o 3 (by omega) (by omega),HFIT.o (i:Int) (by omega) (by omega),HFIT.o (k:Int) (by omega) (by omega),HFIT.o ((j:Int)+1) (by omega) (by omega)⟩);rw [show numN N ⟨3,i,k,(j:Int)+1⟩=(nx:Int) by rw [QLc,←HNX.o]] at KA1;go_wp2_with fail;refine KA1.o.mono ?_;rintro e w2 ⟨rfl,rfl⟩;obtain⟨s0,s1,s2,s3⟩:=Qt HSB1.o;have x0:=(Qd HP1.o).1 0;simp at x0;clear KA1;have BZ1:=Zh (BZ.o.trans KE1.o.below);have BZ1zw:z≤w2.heap.size:=by have:=BZ1.o.size;omega
 by_cases h7:op=7
 ·have HEE:=Zh (HE7.o (by omega));obtain⟨Ta,hTa⟩:=Ze s.targets;rw [hTa] at HEE HTC HTN;subst h7;clear hTa;go_wp2;clear s0 s1 s2 s3 d0 d1 d2 d3 x0;go_loopw [41] (fun y wr=>∃m:Nat,m≤tn∧y=.int .i64 m∧Hid (BldE z bt sb pb mb nv N (E++(Ta.take m).map (fun t=>numE N (nd,⟨3,i,blkI f t,0⟩))) wr)∧Hid (Qbb z w2 wr)) (fun y _=>tn-(intOf y).toNat)
  case atStart=>exact⟨0,Nat.zero_le _,rfl,by unfold Hid;simpa using HB1.o,Qbb.refl z w2 BZ1zw⟩
  case round=>
   obtain⟨m,hm,rfl,HBm,HKm⟩:=hrel;by_cases hlt:m<tn
   ·obtain⟨t,ht⟩:∃t,Ta[m]? = some t:=⟨_,List.getElem?_eq_getElem (by rw [HTN.o];exact hlt)⟩;obtain⟨b1,o1,rfl,hb1,g1⟩:=HTC.o m t ht;have BZm:=Zh (BZ1.o.trans HKm.o.below);have g1:=(BZm.o.cell (p:=⟨b1,o1+m,none⟩) (by show b1<z;omega)).trans g1;have HPm:=Zh ((HKm.o.same _ (by decide) (by decide)).own HP1.o);have HNm:=Zh ((HKm.o.same _ (by decide) (by decide)).own HNB1.o);obtain⟨d0,d1,d2,d3⟩:=Qt HNm.o;have x0:=(Qd HPm.o).1 0;simp at x0;have KF:=Zh (HFI.o _ wr BZm.o HBm.o t);obtain⟨x,hx⟩:∃m:Nat,numT N ⟨3,i,blkI f t,0⟩=m:=⟨_,rfl⟩;have hxl:x<N.length:=hx▸(QEc (HED.o nd ⟨3,i,blkI f t,0⟩ (by rw [HEE.o];exact List.mem_map.2 ⟨t,List.mem_of_getElem? ht,rfl⟩)).2).1;rw [show numN N ⟨3,i,idxI (QPb f) t,0⟩=(x:Int) by rw [QLc];show((numT N ⟨3,i,blkI f t,0⟩:Nat):Int)=_;rw [hx]] at KF;have HSN:=Zh (show(Ta.take (m+1)).map (fun t=>numE N (nd,⟨3,i,blkI f t,0⟩))=(Ta.take m).map (fun t=>numE N (nd,⟨3,i,blkI f t,0⟩))++[(hh,x)] by rw [List.take_add_one,ht,List.map_append];simp [numE,HH.o,hx]);have zm:z≤wr.heap.size:=by have:=BZm.o.size;omega
    clear ht hx;go_wp2_with fail;refine KF.o.mono ?_;rintro e w3 ⟨rfl,b3⟩;have KE:=Zh (KED.o _ w3 (HBm.o.below b3) hh x hhl hxl);have K3:=Zh (HKm.o.trans (Qbb.of b3 zm));clear b3 d0 d1 d2 d3 x0 g1 KF;go_wp2_with fail;refine KE.o.mono ?_;rintro e w4 ⟨rfl,hb4,k4⟩;have HB4:=Zh (show BldE z bt sb pb mb nv N (E++(Ta.take (m+1)).map (fun t=>numE N (nd,⟨3,i,blkI f t,0⟩))) w4 by rw [HSN.o,←List.append_assoc];exact hb4);have K4:=Zh (K3.o.trans k4);clear hb4 k4 KE;go_wp2;go_roundw
    case rel=>exact⟨m+1,by omega,by go_num,HB4,K4⟩
    case measure=>simp [intOf];omega
   ·have HFIN:=Zh (show BldE z bt sb pb mb nv N (E++(QU p nd).map (numE N)) wr by
     rw [HEE.o,List.map_map,←show Ta.take m=Ta from List.take_of_length_le (by rw [HTN.o];omega)];exact HBm.o)
    have KFIN:=Zh (KE1.o.trans HKm.o);go_wp2;exact bodyPost_end (v:=.tuple #[]) (by simp [results,Tryz.results101,go_sem]) rfl ⟨rfl,HFIN.o,KFIN.o⟩
 by_cases h8:op=8
 ·have HEE:=Zh (HE7.o (by omega));obtain⟨Ta,hTa⟩:=Ze s.targets;rw [hTa] at HEE HTC HTN;subst h8;clear hTa;go_wp2;clear s0 s1 s2 s3 d0 d1 d2 d3 x0;go_loopw [41] (fun y wr=>∃m:Nat,m≤tn∧y=.int .i64 m∧Hid (BldE z bt sb pb mb nv N (E++(Ta.take m).map (fun t=>numE N (nd,⟨3,i,blkI f t,0⟩))) wr)∧Hid (Qbb z w2 wr)) (fun y _=>tn-(intOf y).toNat)
  case atStart=>exact⟨0,Nat.zero_le _,rfl,by unfold Hid;simpa using HB1.o,Qbb.refl z w2 BZ1zw⟩
  case round=>
   obtain⟨m,hm,rfl,HBm,HKm⟩:=hrel;by_cases hlt:m<tn
   ·obtain⟨t,ht⟩:∃t,Ta[m]? = some t:=⟨_,List.getElem?_eq_getElem (by rw [HTN.o];exact hlt)⟩;obtain⟨b1,o1,rfl,hb1,g1⟩:=HTC.o m t ht;have BZm:=Zh (BZ1.o.trans HKm.o.below);have g1:=(BZm.o.cell (p:=⟨b1,o1+m,none⟩) (by show b1<z;omega)).trans g1;have HPm:=Zh ((HKm.o.same _ (by decide) (by decide)).own HP1.o);have HNm:=Zh ((HKm.o.same _ (by decide) (by decide)).own HNB1.o);obtain⟨d0,d1,d2,d3⟩:=Qt HNm.o;have x0:=(Qd HPm.o).1 0;simp at x0;have KF:=Zh (HFI.o _ wr BZm.o HBm.o t);obtain⟨x,hx⟩:∃m:Nat,numT N ⟨3,i,blkI f t,0⟩=m:=⟨_,rfl⟩;have hxl:x<N.length:=hx▸(QEc (HED.o nd ⟨3,i,blkI f t,0⟩ (by rw [HEE.o];exact List.mem_map.2 ⟨t,List.mem_of_getElem? ht,rfl⟩)).2).1;rw [show numN N ⟨3,i,idxI (QPb f) t,0⟩=(x:Int) by rw [QLc];show((numT N ⟨3,i,blkI f t,0⟩:Nat):Int)=_;rw [hx]] at KF;have HSN:=Zh (show(Ta.take (m+1)).map (fun t=>numE N (nd,⟨3,i,blkI f t,0⟩))=(Ta.take m).map (fun t=>numE N (nd,⟨3,i,blkI f t,0⟩))++[(hh,x)] by rw [List.take_add_one,ht,List.map_append];simp [numE,HH.o,hx]);have zm:z≤wr.heap.size:=by have:=BZm.o.size;omega
    clear ht hx;go_wp2_with fail;refine KF.o.mono ?_;rintro e w3 ⟨rfl,b3⟩;have KE:=Zh (KED.o _ w3 (HBm.o.below b3) hh x hhl hxl);have K3:=Zh (HKm.o.trans (Qbb.of b3 zm));clear b3 d0 d1 d2 d3 x0 g1 KF;go_wp2_with fail;refine KE.o.mono ?_;rintro e w4 ⟨rfl,hb4,k4⟩;have HB4:=Zh (show BldE z bt sb pb mb nv N (E++(Ta.take (m+1)).map (fun t=>numE N (nd,⟨3,i,blkI f t,0⟩))) w4 by rw [HSN.o,←List.append_assoc];exact hb4);have K4:=Zh (K3.o.trans k4);clear hb4 k4 KE;go_wp2;go_roundw
    case rel=>exact⟨m+1,by omega,by go_num,HB4,K4⟩
    case measure=>simp [intOf];omega
   ·have HFIN:=Zh (show BldE z bt sb pb mb nv N (E++(QU p nd).map (numE N)) wr by
     rw [HEE.o,List.map_map,←show Ta.take m=Ta from List.take_of_length_le (by rw [HTN.o];omega)];exact HBm.o)
    have KFIN:=Zh (KE1.o.trans HKm.o);go_wp2;exact bodyPost_end (v:=.tuple #[]) (by simp [results,Tryz.results101,go_sem]) rfl ⟨rfl,HFIN.o,KFIN.o⟩
 by_cases h9:op=9
 ·have HEE:=Zh (HE9.o h9);obtain⟨ex,hex⟩:∃m:Nat,numT N ⟨2,i,-1,-1⟩=m:=⟨_,rfl⟩;have hel:ex<N.length:=hex▸(QEc (HED.o nd ⟨2,i,-1,-1⟩ (by rw [HEE.o];simp)).2).1;have KA:=Zh (KAT.o E w2 HB1.o 2 i (-1) (-1) ⟨HFIT.o 2 (by omega) (by omega),HFIT.o (i:Int) (by omega) (by omega),HFIT.o (-1) (by omega) (by omega),HFIT.o (-1) (by omega) (by omega)⟩);rw [show numN N ⟨2,i,-1,-1⟩=(ex:Int) by rw [QLc,hex]] at KA;have HEL:=Zh (show(QU p nd).map (numE N)=[(hh,ex)] by rw [HEE.o];simp [numE,HH.o,hex]);have KE:=Zh (KED.o E w2 HB1.o hh ex hhl hel);clear hex;subst h9;go_wp2_with fail;refine KA.o.mono ?_;rintro e w3 ⟨rfl,rfl⟩;go_wp2_with fail;refine KE.o.mono ?_;rintro e w4 ⟨rfl,hb4,k4⟩;have HFIN:=Zh (show BldE z bt sb pb mb nv N (E++(QU p nd).map (numE N)) w4 by rw [HEL.o];exact hb4);have KFIN:=Zh (KE1.o.trans k4);clear hb4 k4;go_wp2;exact bodyPost_end (v:=.tuple #[]) (by simp [results,Tryz.results101,go_sem]) rfl ⟨rfl,HFIN.o,KFIN.o⟩
 by_cases h3:op=3
 ·have HEE:=Zh (HE3.o h3);obtain⟨g,hg,hgn,tl,htl⟩:=HCAL.o h3;rw [hg] at HEE;have KI:=Zh (QHm p (.slice a n c) (tgt s) (q+1+1) w2 (HPP.o.keep (Qf.below (hz▸BZ1.o)) (Qf.below (hz▸BZ1.o)) (Qf.below (hz▸BZ1.o)) (Qf.below (hz▸BZ1.o))) op dn (.slice ua un uc) (.slice ta tn tc) HSB1.o tl (htl▸HTT.o.same (Qf.below (hz▸BZ1.o))));rw [show idxI (p.map Qo.name) (tgt s)=(g:Int) from hg] at KI;have hg8:g≤8:=by have:=HFW.o.1;omega
  obtain⟨e1,he1⟩:∃m:Nat,numT N ⟨1,g,-1,-1⟩=m:=⟨_,rfl⟩;obtain⟨e2,he2⟩:∃m:Nat,numT N ⟨2,g,-1,-1⟩=m:=⟨_,rfl⟩;obtain⟨rt,hrt⟩:∃m:Nat,numT N ⟨4,i,k,j⟩=m:=⟨_,rfl⟩;have l1:e1<N.length:=he1▸(QEc (HED.o nd ⟨1,g,-1,-1⟩ (by rw [HEE.o];simp)).2).1;have l2:e2<N.length:=he2▸(QEc (HED.o ⟨2,g,-1,-1⟩ ⟨4,i,k,j⟩ (by rw [HEE.o];simp)).1).1;have lr:rt<N.length:=hrt▸(QEc (HED.o ⟨2,g,-1,-1⟩ ⟨4,i,k,j⟩ (by rw [HEE.o];simp)).2).1;have ln:nx<N.length:=HNX.o▸(QEc (HED.o ⟨4,i,k,j⟩ ⟨3,i,k,j+1⟩ (by rw [HEE.o];simp)).2).1;have HEL:=Zh (show(QU p nd).map (numE N)=[(hh,e1),(e2,rt),(rt,nx)] by rw [HEE.o];simp [numE,HH.o,he1,he2,hrt,HNX.o]);have HN1:=Zh (show numN N ⟨1,g,-1,-1⟩=(e1:Int) by rw [QLc,he1]);have HN2:=Zh (show numN N ⟨2,g,-1,-1⟩=(e2:Int) by rw [QLc,he2]);have HN4:=Zh (show numN N ⟨4,i,k,j⟩=(rt:Int) by rw [QLc,hrt]);clear he1 he2 hrt hg htl;subst h3;go_wp2_with fail;refine KI.o.mono ?_;rintro e w3 ⟨rfl,b3⟩;have HB3:=Zh (HB1.o.below b3);have HNB3:=Zh (Qc HNB1.o b3 (Qb HNB1.o));have K3:=Zh (Qbb.of (z:=z) b3 BZ1zw);have KA:=Zh (KAT.o E w3 HB3.o 4 i k j ⟨HFIT.o 4 (by omega) (by omega),HFIT.o (i:Int) (by omega) (by omega),HFIT.o (k:Int) (by omega) (by omega),HFIT.o (j:Int) (by omega) (by omega)⟩);rw [HN4.o] at KA;clear b3 d0 d1 d2 d3 s0 s1 s2 s3 x0 KI;obtain⟨d0,d1,d2,d3⟩:=Qt HNB3.o;go_wp2_with fail;refine KA.o.mono ?_;rintro e w4 ⟨rfl,rfl⟩;have KA2:=Zh (KAT.o E w4 HB3.o 1 g (-1) (-1) ⟨HFIT.o 1 (by omega) (by omega),HFIT.o (g:Int) (by omega) (by omega),HFIT.o (-1) (by omega) (by omega),HFIT.o (-1) (by omega) (by omega)⟩);rw [HN1.o] at KA2;clear KA d0 d1 d2 d3;go_wp2_with fail;refine KA2.o.mono ?_;rintro e w5 ⟨rfl,rfl⟩;have KE:=Zh (KED.o E w5 HB3.o hh e1 hhl l1);clear KA2;go_wp2_with fail;refine KE.o.mono ?_;rintro e w6 ⟨rfl,hb6,k6⟩;have HB6:=Zh hb6;have K6:=Zh (K3.o.trans k6);clear hb6 k6 KE;have KA2:=Zh (KAT.o _ w6 HB6.o 2 g (-1) (-1) ⟨HFIT.o 2 (by omega) (by omega),HFIT.o (g:Int) (by omega) (by omega),HFIT.o (-1) (by omega) (by omega),HFIT.o (-1) (by omega) (by omega)⟩);rw [HN2.o] at KA2;go_wp2_with fail;refine KA2.o.mono ?_;rintro e w7 ⟨rfl,rfl⟩;have KE:=Zh (KED.o _ w7 HB6.o e2 rt l2 lr);clear KA2;go_wp2_with fail;refine KE.o.mono ?_;rintro e w8 ⟨rfl,hb8,k8⟩;have HB8:=Zh hb8;have K8:=Zh (K6.o.trans k8);clear hb8 k8 KE;have KE:=Zh (KED.o _ w8 HB8.o rt nx lr ln);go_wp2_with fail;refine KE.o.mono ?_;rintro e w9 ⟨rfl,hb9,k9⟩;have HFIN:=Zh (show BldE z bt sb pb mb nv N (E++(QU p nd).map (numE N)) w9 by rw [HEL.o];simpa using hb9);have KFIN:=Zh (KE1.o.trans (K8.o.trans k9));clear hb9 k9 KE;go_wp2;exact bodyPost_end (v:=.tuple #[]) (by simp [results,Tryz.results101,go_sem]) rfl ⟨rfl,HFIN.o,KFIN.o⟩
 ·have HEE:=Zh (HE0.o h7 h8 h9 h3);have ln:nx<N.length:=HNX.o▸(QEc (HED.o nd ⟨3,i,k,j+1⟩ (by rw [HEE.o];simp)).2).1;have HEL:=Zh (show(QU p nd).map (numE N)=[(hh,nx)] by rw [HEE.o];simp [numE,HH.o,HNX.o]);have KE:=Zh (KED.o E w2 HB1.o hh nx hhl ln);have t7:(op==7)=false:=by simpa using h7
  have t8:(op==8)=false:=by simpa using h8
  have t9:(op==9)=false:=by simpa using h9
  have t3:(op==3)=false:=by simpa using h3
  clear h7 h8 h9 h3;go_wp2_with fail;refine KE.o.mono ?_;rintro e w4 ⟨rfl,hb4,k4⟩;have HFIN:=Zh (show BldE z bt sb pb mb nv N (E++(QU p nd).map (numE N)) w4 by rw [HEL.o];exact hb4);have KFIN:=Zh (KE1.o.trans k4);clear hb4 k4;go_wp2;exact bodyPost_end (v:=.tuple #[]) (by simp [results,Tryz.results101,go_sem]) rfl ⟨rfl,HFIN.o,KFIN.o⟩
end
section
open Go.RowKit
variable [Base]
def QQd (l:List Int):List Int:=l.mergeSort fun x y=>decide (x≤y)
theorem Qqg (l:List Int):(QQd l).Perm l:=List.mergeSort_perm _ _
theorem QJh (l:List Int):(QQd l).length=l.length:=(Qqg l).length_eq
theorem Qmk {l:List Int} {x:Int}:x∈QQd l↔x∈l:=(Qqg l).mem_iff
theorem Qnk {l:List Int} (h:l.Nodup):Asc (QQd l):=by
 have h1:(QQd l).Pairwise (fun x y:Int=>decide (x≤y)=true):=List.pairwise_mergeSort (by intro a b c h1 h2;simp at *;omega) (by intro a b;simp;omega) l;have h2:(QQd l).Nodup:=(Qqg l).nodup_iff.2 h;unfold Asc;unfold List.Nodup at h2;exact(h1.and h2).imp fun {a b} h=>by
  have:=h.1;simp at this;have h3:=h.2;omega
def Qyu:Prop:=∀(z:Nat) (l:List Int) (v:Value) (w:World),z≤w.heap.size→l.length≤1000→w.ownsRow z IN 1 v l.length (l.map iv) →
 Calls Tryz.prog 102 #[v] w (fun e w'=>e=.returned (.tuple #[])∧w'.ownsRow z IN 1 v (QQd l).length ((QQd l).map iv)∧w.grownBy w' v.ownBlock)
theorem QQl {p:List Qo} (hck:QFa p=0) {S P:List (List Int)} (hg:GrE (QB p 0).length ((Qva p (QB p 0)).map (numE (QB p 0))) S P):S.map QQd=Qkc p∧P.map QQd=Qmc p:=by
 have hN:=Qne hck;have hnd:(QB p 0).Nodup:=QIe p 0;have hc:=Qzb hck;have key:∀i j:Nat,i<(QB p 0).length→j<(QB p 0).length→((i,j)∈(Qva p (QB p 0)).map (numE (QB p 0))↔Qve p (QB p 0) i j=true):=by
  intro i j hi hj;have ni:(QB p 0)[i]? = some ((QB p 0)[i]):=List.getElem?_eq_getElem hi;have nj:(QB p 0)[j]? = some ((QB p 0)[j]):=List.getElem?_eq_getElem hj;have num:∀{k:Nat} {x:Qx},(QB p 0)[k]? = some x→numT (QB p 0) x=k:=fun {k x} hx=>by
   have hm:=List.mem_of_getElem? hx;unfold numT numN;rw [if_pos hm,QBg hnd hx];simp
  constructor
  ·intro h;obtain⟨⟨x,y⟩,hxy,e⟩:=List.mem_map.1 h;obtain⟨h1,h2⟩:=(Qsh hc x y).1 hxy;have h3:=Qum hc h1 h2;unfold numE at e;injection e with e1 e2
   have f1:=(QEc h1).2;have f2:=(QEc h3).2;simp only at e1 e2;rw [e1] at f1;rw [e2] at f2;unfold Qve;rw [f1,f2]
   simpa using h2
  ·intro h;unfold Qve at h;rw [ni,nj] at h;have h2:(QB p 0)[j]∈Qmd p (QB p 0) ((QB p 0)[i]):=by simpa using h
   exact List.mem_map.2 ⟨((QB p 0)[i],(QB p 0)[j]),(Qsh hc _ _).2 ⟨List.mem_of_getElem? ni,h2⟩,by unfold numE;rw [num ni,num nj]⟩
 refine⟨List.ext_getElem? fun i=>?_,List.ext_getElem? fun j=>?_⟩
 ·unfold Qkc;rw [List.getElem?_map,List.getElem?_map,hN];rcases Nat.lt_or_ge i (QB p 0).length with hi|hi
  ·obtain⟨r,hr⟩:∃r,S[i]? = some r:=⟨_,List.getElem?_eq_getElem (by rw [hg.sl];exact hi)⟩;rw [hr,List.getElem?_range hi];simp only [Option.map_some]
   congr 1
   obtain⟨h1,h2⟩:=hg.sn i r hr;refine QIi (Qnk h1) (by unfold QLl;exact Qzh _ _) fun x=>?_
   rw [Qmk,h2 x];unfold QLl;rw [hN,Qih];constructor
   ·rintro⟨j,e,m⟩;have hj:=(hg.rng _ m).2;exact⟨j,e,hj,(key i j hi hj).1 m⟩
   ·rintro⟨j,e,hj,m⟩;exact⟨j,e,(key i j hi hj).2 m⟩
  ·rw [List.getElem?_eq_none (by rw [hg.sl];exact hi),List.getElem?_eq_none (by simpa using hi)];rfl
 ·unfold Qmc;rw [List.getElem?_map,List.getElem?_map,hN];rcases Nat.lt_or_ge j (QB p 0).length with hj|hj
  ·obtain⟨r,hr⟩:∃r,P[j]? = some r:=⟨_,List.getElem?_eq_getElem (by rw [hg.pl];exact hj)⟩;rw [hr,List.getElem?_range hj];simp only [Option.map_some]
   congr 1
   obtain⟨h1,h2⟩:=hg.pn j r hr;refine QIi (Qnk h1) (by unfold Qgm;exact Qzh _ _) fun x=>?_
   rw [Qmk,h2 x];unfold Qgm;rw [hN,Qih];constructor
   ·rintro⟨i,e,m⟩;have hi:=(hg.rng _ m).1;exact⟨i,e,hi,(key i j hi hj).1 m⟩
   ·rintro⟨i,e,hi,m⟩;exact⟨i,e,(key i j hi hj).2 m⟩
  ·rw [List.getElem?_eq_none (by rw [hg.pl];exact hj),List.getElem?_eq_none (by simpa using hj)];rfl
def QAe (k:Nat) (S T:List (List Int)):Prop:=T.length=S.length∧∀i,T[i]? = if i<k then (S[i]?).map QQd else S[i]?
theorem QAe.zero (S:List (List Int)):QAe 0 S S:=⟨rfl,fun i=>by simp⟩
theorem QAe.step {k:Nat} {S T:List (List Int)} {r:List Int} (h:QAe k S T) (hr:T[k]? = some r):S[k]? = some r∧QAe (k+1) S (T.set k (QQd r)):=by
 have h0:S[k]? = some r:=by have:=h.2 k;rw [if_neg (by omega)] at this;rw [←this];exact hr
 refine⟨h0,by simpa using h.1,fun i=>?_⟩;by_cases e:k=i
 ·subst e;rw [List.getElem?_set_self (List.getElem?_eq_some_iff.1 hr).1,if_pos (by omega),h0];rfl
 ·rw [List.getElem?_set_ne e,h.2 i];by_cases e2:i<k
  ·rw [if_pos e2,if_pos (by omega)]
  ·rw [if_neg e2,if_neg (by omega)]
theorem QAe.all {k:Nat} {S T:List (List Int)} (h:QAe k S T) (hk:S.length≤k):T=S.map QQd:=by
 refine List.ext_getElem? fun i=>?_
 rw [h.2 i,List.getElem?_map];by_cases e:i<k
 ·rw [if_pos e]
 ·rw [if_neg e,List.getElem?_eq_none (by omega)];rfl
theorem QRd.put {z:Nat} {w w5:World} {vs:List Value} {R:List (List Int)} {i:Nat} {v:Value} {r r':List Int} (h:QRd z w vs R) (hv:vs[i]? = some v) (hr:R[i]? = some r)
  (ho:w5.ownsRow z IN 1 v r'.length (r'.map iv)) (hg:w.grownBy w5 v.ownBlock):QRd z w5 vs (R.set i r'):=by
 have hi:i<vs.length:=(List.getElem?_eq_some_iff.1 hv).1;refine⟨by simp [h.len],fun j u s hu hs=>?_,h.apart⟩;by_cases hij:i=j
 ·subst hij;rw [List.getElem?_set_self (by rw [←h.len];exact hi)] at hs;rw [hv] at hu;injection hu with hu
  injection hs with hs
  subst hu hs;exact ho
 ·rw [List.getElem?_set_ne hij] at hs;refine Qnj (h.own j u s hu hs) fun b c fr hb _=>hg.block b (QZn (h.own j u s hu hs) hb).1 ?_
  intro e;exact h.apart i j v u b hij hv hu e.symm hb
theorem Bld.put {z bt sb pb mb:Nat} {nv:Value} {N:List Qx} {S P:List (List Int)} {w:World} (hbs:Base.b≤z) (h:Bld z bt sb pb mb nv N S P w) (hz:z≤w.heap.size) {a:Nat} (ha:a<N.length):
  (∃v r,S[a]? = some r∧w.cell? ⟨sb,a,none⟩=some v∧w.ownsRow z IN 1 v r.length (r.map iv)∧∀r' w5,w5.ownsRow z IN 1 v r'.length (r'.map iv)→w.grownBy w5 v.ownBlock→Bld z bt sb pb mb nv N (S.set a r') P w5∧Qbb z w w5) ∧
  (∃v r,P[a]? = some r∧w.cell? ⟨pb,a,none⟩=some v∧w.ownsRow z IN 1 v r.length (r.map iv)∧∀r' w5,w5.ownsRow z IN 1 v r'.length (r'.map iv)→w.grownBy w5 v.ownBlock→Bld z bt sb pb mb nv N S (P.set a r') w5∧Qbb z w w5):=by
 obtain⟨vs,us,h1,h2,h3,h4,h5,h6⟩:=h.rows;have h7:P.length=N.length:=by have:=h6.len;simp at this;omega
 have go:∀(i:Nat) (v:Value) (r r':List Int) (w5:World),(vs++us)[i]? = some v→(S++P)[i]? = some r→w5.ownsRow z IN 1 v r'.length (r'.map iv)→w.grownBy w5 v.ownBlock →
   w5.heap[bt]? = w.heap[bt]?∧w5.heap[sb]? = w.heap[sb]?∧w5.heap[pb]? = w.heap[pb]?∧NumM w5 mb N.length N∧QRd z w5 (vs++us) ((S++P).set i r')∧Qbb z w w5:=fun i v r r' w5 hv hr ho hg=>by
  have own:=h6.own i v r hv hr;obtain⟨es,c0,hm⟩:=h.mp.isMap;exact⟨hg.block _ (Qb h.bl) (Qdb own h.bl (QPf (by decide))),hg.block _ (Qb h1) (Qdb own h1 (QPf (by decide))),hg.block _ (Qb h2) (Qdb own h2 (QPf (by decide))),h.mp.block (hg.block _ (Qb hm) (Qdb own hm (by intro c fr e;cases e))),h6.put hv hr ho hg,Below.of_grown hg own hz,fun T _ hT=>Qf.grown hg own hT hbs⟩
 constructor
 ·obtain⟨v,hv⟩:∃v,vs[a]? = some v:=⟨_,List.getElem?_eq_getElem (by rw [h3];exact ha)⟩;obtain⟨r,hr⟩:∃r,S[a]? = some r:=⟨_,List.getElem?_eq_getElem (by rw [h5];exact ha)⟩;have hv2:(vs++us)[a]? = some v:=by rw [List.getElem?_append_left (by rw [h3];exact ha)];exact hv
  have hr2:(S++P)[a]? = some r:=by rw [List.getElem?_append_left (by rw [h5];exact ha)];exact hr
  refine⟨v,r,hr,?_,h6.own a v r hv2 hr2,fun r' w5 ho hg=>?_⟩
  ·have:=(Qd h1).1 a;rw [this]
   simpa using hv
  ·obtain⟨k1,k2,k3,k4,k5,k6⟩:=go a v r r' w5 hv2 hr2 ho hg;rw [List.set_append_left _ _ (by rw [h5];exact ha)] at k5;exact⟨⟨h.zs,k1.trans h.bl,k4,h.ne,vs,us,k2.trans h1,k3.trans h2,h3,h4,by simpa using h5,k5⟩,k6⟩
 ·obtain⟨v,hv⟩:∃v,us[a]? = some v:=⟨_,List.getElem?_eq_getElem (by rw [h4];exact ha)⟩;obtain⟨r,hr⟩:∃r,P[a]? = some r:=⟨_,List.getElem?_eq_getElem (by rw [h7];exact ha)⟩;have hv2:(vs++us)[N.length+a]? = some v:=by rw [List.getElem?_append_right (by omega),h3,Nat.add_sub_cancel_left];exact hv
  have hr2:(S++P)[N.length+a]? = some r:=by rw [List.getElem?_append_right (by omega),h5,Nat.add_sub_cancel_left];exact hr
  refine⟨v,r,hr,?_,h6.own _ v r hv2 hr2,fun r' w5 ho hg=>?_⟩
  ·have:=(Qd h2).1 a;rw [this]
   simpa using hv
  ·obtain⟨k1,k2,k3,k4,k5,k6⟩:=go _ v r r' w5 hv2 hr2 ho hg;rw [List.set_append_right _ _ (by omega),h5,Nat.add_sub_cancel_left] at k5;exact⟨⟨h.zs,k1.trans h.bl,k4,h.ne,vs,us,k2.trans h1,k3.trans h2,h3,h4,h5,k5⟩,k6⟩
def Qqc:Qlg (List Int) where
 T:=IT
 sz:=1
 pos:=by omega
 C:=fun w cs l=>∃u,cs=[u]∧QJa w u l
 inner:=[IN]
 len:=fun {w cs x} h=>by obtain⟨u,rfl,-⟩:=h;rfl
 keep:=fun {w w' cs x} hs h=>by
  obtain⟨u,rfl,h⟩:=h
  exact⟨u,rfl,h.same (hs IN (by simp))⟩
theorem Qmf:∀vs:List Value,(vs.map fun v=>[v]).flatten=vs
|[]=>rfl
|x::r=>by
  have:=Qmf r
  simp only [List.map_cons,List.flatten_cons,this]
  rfl
theorem Qsp {z b n:Nat} {w:World} {vs:List Value} {R:List (List Int)} (hb:w.heap[b]? = some (.cells vs.toArray IT (0,0))) (hn:vs.length=n) (hm:n≤maxLen) (h:∀(i:Nat) (v:Value) (r:List Int),vs[i]? = some v→R[i]? = some r→w.ownsRow z IN 1 v r.length (r.map iv)) (hl:vs.length=R.length):Qoa Qqc w (.slice (some ⟨b,0,none⟩) n n) R:=by
 refine⟨vs.map fun v=>[v],⟨n,n,by rw [Qmf];simp [hn,Qqc],Nat.le_refl _,hm,.inr ⟨b,0,vs.toArray,(0,0),rfl,.of hb,fun i hi=>?_⟩⟩,?_⟩
 ·rw [Qmf];simp
 ·clear hb hn hm
  induction vs generalizing R with
 |nil=>cases R with|nil=>trivial|cons x r=>simp at hl
 |cons x r ih=>
   cases R with
  |nil=>simp at hl
  |cons q R=>
    refine⟨⟨x,rfl,Qg.of_owns (h 0 x q rfl rfl)⟩,ih (fun i v s hv hs=>h (i+1) v s (by simpa using hv) (by simpa using hs)) (by simpa using hl)⟩
end
end Go.Proofs.YtijekimobahgpaaGreatDoor
namespace Go.Proofs
open Go.Shelf
def Tryz.lays189_ren:Go.Shelf.Ren:=⟨fun|189=>102|125=>166|257=>165|128=>206|129=>207|294=>197|295=>198|296=>199|297=>200|298=>201|299=>202|216=>203|300=>204|301=>205|328=>236|329=>237|330=>238|331=>239|332=>240|215=>226|343=>252|n=>n,fun|28=>22|3=>3|46=>140|0=>0|51=>253|53=>139|4=>4|183=>246|182=>245|131=>250|5=>5|9=>9|218=>269|222=>273|228=>281|229=>188|n=>n,fun|n=>n⟩
theorem Tryz.lays189:Go.Proofs.Lays.n189 Tryz.prog Tryz.lays189_ren:={
 mixed:=by kernel_rfl
 f125:=Tryz.func166.trans (congrArg some (by kernel_rfl))
 f128:=Tryz.func206.trans (congrArg some (by kernel_rfl))
 f129:=Tryz.func207.trans (congrArg some (by kernel_rfl))
 f189:=Tryz.func102.trans (congrArg some (by kernel_rfl))
 f215:=Tryz.func226.trans (congrArg some (by kernel_rfl))
 f216:=Tryz.func203.trans (congrArg some (by kernel_rfl))
 f257:=Tryz.func165.trans (congrArg some (by kernel_rfl))
 f294:=Tryz.func197.trans (congrArg some (by kernel_rfl))
 f295:=Tryz.func198.trans (congrArg some (by kernel_rfl))
 f296:=Tryz.func199.trans (congrArg some (by kernel_rfl))
 f297:=Tryz.func200.trans (congrArg some (by kernel_rfl))
 f298:=Tryz.func201.trans (congrArg some (by kernel_rfl))
 f299:=Tryz.func202.trans (congrArg some (by kernel_rfl))
 f300:=Tryz.func204.trans (congrArg some (by kernel_rfl))
 f301:=Tryz.func205.trans (congrArg some (by kernel_rfl))
 f328:=Tryz.func236.trans (congrArg some (by kernel_rfl))
 f329:=Tryz.func237.trans (congrArg some (by kernel_rfl))
 f330:=Tryz.func238.trans (congrArg some (by kernel_rfl))
 f331:=Tryz.func239.trans (congrArg some (by kernel_rfl))
 f332:=Tryz.func240.trans (congrArg some (by kernel_rfl))
 f343:=Tryz.func252.trans (congrArg some (by kernel_rfl))
 t0:=Tryz.underlying0
 a0:=Tryz.isAgg0
 z0:=Tryz.sizeOf0
 v0:=Tryz.zeroValue0
 t3:=Tryz.underlying3
 a3:=Tryz.isAgg3
 z3:=Tryz.sizeOf3
 v3:=Tryz.zeroValue3
 t4:=Tryz.underlying4
 a4:=Tryz.isAgg4
 z4:=Tryz.sizeOf4
 v4:=Tryz.zeroValue4
 t5:=Tryz.underlying5
 a5:=Tryz.isAgg5
 z5:=Tryz.sizeOf5
 v5:=Tryz.zeroValue5
 t9:=Tryz.underlying9
 a9:=Tryz.isAgg9
 z9:=Tryz.sizeOf9
 v9:=Tryz.zeroValue9
 t28:=Tryz.underlying22
 a28:=Tryz.isAgg22
 z28:=Tryz.sizeOf22
 v28:=Tryz.zeroValue22
 t46:=Tryz.underlying140
 a46:=Tryz.isAgg140
 z46:=Tryz.sizeOf140
 v46:=Tryz.zeroValue140
 t51:=Tryz.underlying253
 a51:=Tryz.isAgg253
 z51:=Tryz.sizeOf253
 v51:=Tryz.zeroValue253
 t53:=Tryz.underlying139
 a53:=Tryz.isAgg139
 z53:=Tryz.sizeOf139
 v53:=Tryz.zeroValue139
 t131:=Tryz.underlying250
 a131:=Tryz.isAgg250
 z131:=Tryz.sizeOf250
 v131:=Tryz.zeroValue250
 t182:=Tryz.underlying245
 a182:=Tryz.isAgg245
 z182:=Tryz.sizeOf245
 v182:=Tryz.zeroValue245
 t183:=Tryz.underlying246
 a183:=Tryz.isAgg246
 z183:=Tryz.sizeOf246
 v183:=Tryz.zeroValue246
 t218:=Tryz.underlying269
 a218:=Tryz.isAgg269
 z218:=Tryz.sizeOf269
 v218:=Tryz.zeroValue269
 t222:=Tryz.underlying273
 a222:=Tryz.isAgg273
 z222:=Tryz.sizeOf273
 v222:=Tryz.zeroValue273
 t228:=Tryz.underlying281
 a228:=Tryz.isAgg281
 z228:=Tryz.sizeOf281
 v228:=Tryz.zeroValue281
 t229:=Tryz.underlying188
 a229:=Tryz.isAgg188
 z229:=Tryz.sizeOf188
 v229:=Tryz.zeroValue188 }
open Go.Sort Go.RowKit in
theorem Tryz.slices_Sort_int (blk off cap:Nat) (zs:List Int) (w:World) (hH:Holds (Value.int .i64) w blk off zs.toArray) (hblk:blk<w.heap.size) (hsz:zs.length<4611686018427387904):
  Calls Tryz.prog 102 #[.slice (some ⟨blk,off,none⟩) zs.length cap] w fun e w'=>
   e=.returned (.tuple #[])∧∃n os,w'=grow (putRow (Value.int .i64) (Sort.ahead w n) blk off (zs.mergeSort fun x y=>decide (x≤y)).toArray) os:=Any.slices_Sort_int Tryz.lays189 blk off cap zs w hH hblk hsz
open Go.RowKit Go.Sort in
theorem Tryz.slices_Sort_int_none (p:Option Addr) (cap:Nat) (w:World):
  Calls Tryz.prog 102 #[.slice p 0 cap] w fun e w'=>e=.returned (.tuple #[])∧w'=w:=Any.slices_Sort_int_none Tryz.lays189 p cap w
end Go.Proofs
namespace Go.Proofs.YtijekimobahgpaaGreatDoor
section
open Go.RowKit
variable [Base]
theorem Qcr {w:World} {enc:Int→Value} {n g:Nat} {d:Array Int} {os:Array Obj} {cur:Array Value} {t:TypeId} {fr:Nat×Nat} (hg:w.heap[g]? = some (.cells cur t fr)):
  (Sort.grow (Sort.putRow enc (Sort.ahead w n) g 0 d) os).heap[g]? = some (.cells (Sort.putCells enc 0 d cur) t fr):=by
 have hlt:=Qb hg;rw [Sort.heap_grow_old _ _ (by simpa using hlt)];unfold Sort.putRow Sort.mapBlock;simp [Array.getElem?_modify,Sort.ahead,hg,Sort.onCells]
theorem QIo {w:World} {enc:Int→Value} {n g k:Nat} {d:Array Int} {os:Array Obj} (hk:k<w.heap.size) (hne:k≠g):
  (Sort.grow (Sort.putRow enc (Sort.ahead w n) g 0 d) os).heap[k]? = w.heap[k]?:=by
 rw [Sort.heap_grow_old _ _ (by simpa using hk)];unfold Sort.putRow Sort.mapBlock;simp [Array.getElem?_modify,Sort.ahead,Ne.symm hne]
theorem Qqt:Qyu:=by
 intro z l v w hz hl ho;obtain⟨h1,h2⟩:=ho;rcases h2 with⟨rfl,h0⟩|⟨g,cap,cur,rfl,hg,hh,hn,hc,hs,ht⟩
 ·have hl0:l=[]:=List.length_eq_zero_iff.1 h0;subst hl0;refine(Tryz.slices_Sort_int_none none 0 w).mono ?_;rintro e w' ⟨rfl,rfl⟩;exact⟨rfl,by simp [World.ownsRow,QQd],⟨rfl,rfl,rfl,Nat.le_refl _,fun _ _ _=>rfl⟩⟩
 ·rw [Nat.mul_one] at ht hs;have hlt:=Qb hh;have hcur:∀j (hj:j<l.length),cur[j]? = some (iv (l[j])):=fun j hj=>by
   have e:(cur.toList.take l.length)[j]? =(l.map iv)[j]?:=by rw [ht]
   rw [List.getElem?_take_of_lt hj] at e
   simpa [hj] using e
  have hH:Sort.Holds (Value.int .i64) w g 0 l.toArray:=fun j hj=>by
   have hj':j<l.length:=by simpa using hj
   refine⟨?_,by simp [World.frozen?,hh]⟩;simp only [Nat.zero_add,World.cell?,hh];simp [hcur j hj',hj']
  refine(Tryz.slices_Sort_int g 0 cap l w hH hlt (by omega)).mono ?_;rintro e w' ⟨rfl,n,os,rfl⟩;refine⟨rfl,⟨by simp,.inr ⟨g,cap,Sort.putCells (Value.int .i64) 0 (QQd l).toArray cur,by rw [QJh],hg,Qcr hh,by rw [QJh];exact hn,hc,by simp [Sort.putCells,hs],?_⟩⟩,?_⟩
  ·rw [Nat.mul_one];apply List.ext_getElem?;intro j;rw [List.getElem?_map];rcases Nat.lt_or_ge j (QQd l).length with hj|hj
   ·rw [List.getElem?_take_of_lt hj];have hjl:j<l.length:=by rw [←QJh l];exact hj
    have hjc:j<cur.size:=by omega
    simp [Sort.putCells,hjc,hj]
   ·rw [List.getElem?_eq_none (by rw [List.length_take];omega),List.getElem?_eq_none hj];rfl
  ·refine⟨rfl,rfl,rfl,by simp,fun k hk hne=>QIo hk fun e=>hne (by rw [e];rfl)⟩
end
end Go.Proofs.YtijekimobahgpaaGreatDoor
