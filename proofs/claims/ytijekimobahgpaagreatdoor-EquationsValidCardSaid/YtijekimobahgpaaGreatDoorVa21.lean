/- A part of the proof. -/
import Derived.Test.YtijekimobahgpaaGreatDoorVa18
set_option linter.unusedVariables false
set_option linter.unusedSimpArgs false
set_option linter.unusedSectionVars false
set_option maxRecDepth 100000
set_option maxHeartbeats 16000000
namespace Go.Proofs.YtijekimobahgpaaGreatDoor
section
open Go.RowKit
variable [Base]
theorem Qns:laidOutB Tryz.prog=true:=by kernel_rfl
theorem QLq:(match Tryz.prog.underlying NT with|some (.array _ _)|some (.struct _)=>true|_=>false)=true:=by kernel_rfl
theorem Qqm:(NT:TypeId)<Tryz.prog.types.size:=of_decide_eq_true ZK
theorem QCt:Tryz.prog.keyTypeAt 3 NT=true:=by kernel_rfl
theorem Qgs:Tryz.prog.keyType NT=true:=by kernel_rfl
theorem Qrj:Tryz.prog.cellsOf NT=4:=by kernel_rfl
theorem QYq:Tryz.prog.cellsOf 3=1:=by kernel_rfl
theorem Qfs:WideMaps.KeyLaw Tryz.prog NT:=deep_law_laid Qns (m:=3) ZO Qqm QCt QLq
theorem Qgo:Maps.Keyed Tryz.prog NT:=Maps.Keyed.of_law Qfs
def fitI (x:Int):Prop:=-4611686018427387904≤x∧x≤4611686018427387904
def fitN (n:Qx):Prop:=fitI n.kind∧fitI n.fn∧fitI n.bl∧fitI n.st
theorem Qdu {x:Int}(h:fitI x):(Lit.int .i64 x).wf=true:=by
 unfold fitI at h;unfold Lit.wf;simp[IntKind.min,IntKind.max,IntKind.bits,IntKind.signed];omega
theorem Qkh {x:Int}(h:fitI x)(d:Nat):Tryz.prog.keyLits (d+1) 3 [iv x]=some [.int .i64 x]:=by
 unfold Program.keyLits;rw[Tryz.underlying3];simp[Qdu h]
theorem Qhs (n:Qx)(h:fitN n):∃l,keyOf Tryz.prog NT (QEp n)=some l:=by
 obtain⟨a,b,c,d⟩:=n;obtain⟨h1,h2,h3,h4⟩:=h;obtain⟨k,hk⟩:∃k,Tryz.prog.types.size=k+1:=Nat.exists_eq_succ_of_ne_zero (Nat.ne_of_gt (Nat.lt_of_le_of_lt (Nat.zero_le _) Qqm));have e:Tryz.prog.keyLits (Tryz.prog.types.size+1) NT [iv a,iv b,iv c,iv d]=some [.int .i64 a,.int .i64 b,.int .i64 c,.int .i64 d]:=by
  rw[hk];unfold Program.keyLits;rw[Tryz.underlying108];simp[Qrj,QYq,Qkh h1,Qkh h2,Qkh h3,Qkh h4]
 refine⟨.string (keyBytes [.int .i64 a,.int .i64 b,.int .i64 c,.int .i64 d]),?_⟩;unfold keyOf QEp;rw[Tryz.underlying108];have hf:(Value.agg #[iv a,iv b,iv c,iv d]).formed Tryz.prog NT=true:=by
  unfold Value.formed;rw[Tryz.underlying108];simp[Qrj]
 simp only[Qgs,hf,Bool.and_self,if_true];show((Tryz.prog.keyLits (Tryz.prog.types.size+1) NT [iv a,iv b,iv c,iv d]).map fun ls=>Lit.string (keyBytes ls))=_;rw[e];rfl
noncomputable def QDp:KeyE Tryz.prog NT Qx where
 enc:=QEp
 ok:=fitN
 keyed:=Qgo
 of:=Qhs
 inj:=fun a b h=>by
  obtain⟨a1,a2,a3,a4⟩:=a
  obtain⟨b1,b2,b3,b4⟩:=b
  unfold QEp at h
  simp only[Value.agg.injEq] at h
  simpa using h
theorem Qkp:Tryz.prog.underlying 156=some (.map NT 3):=Tryz.underlying156
theorem zeroI (w:World):(zeroValue 3).run Tryz.prog w=.ok (.int .i64 0) w:=by kernel_rfl
def numN (N:List Qx)(n:Qx):Int:=if n∈N then idxI N n else 0
def NumM (w:World)(b n:Nat)(N:List Qx):Prop:=∃th,MapG QDp Qwo w b n (numN N) th
theorem NumM.below {w w':World}{b n:Nat}{l:List Qx}(h:NumM w b n l)(hb:Below w.heap.size w w'):NumM w' b n l:=by
 obtain⟨th,h⟩:=h;exact⟨th,h.below hb⟩
theorem NumM.lt {w:World}{b n:Nat}{l:List Qx}(h:NumM w b n l):b<w.heap.size:=by
 obtain⟨th,h⟩:=h;exact h.lt
theorem NumM.isMap {w:World}{b n:Nat}{l:List Qx}(h:NumM w b n l):∃es c,w.heap[b]? = some (.map es c):=by
 obtain⟨th,h⟩:=h;exact h.isMap
theorem NumM.block {w w':World}{b n:Nat}{l:List Qx}(h:NumM w b n l)(hb:w'.heap[b]? = w.heap[b]?):NumM w' b n l:=by
 obtain⟨th,h⟩:=h;exact⟨th,h.block hb⟩
theorem NumM.look {w:World}{b n:Nat}{l:List Qx}(h:NumM w b n l){x:Qx}(hx:fitN x):(Instr.lookup 156 (.map (some b)) (.agg #[iv x.kind,iv x.fn,iv x.bl,iv x.st]) false).run Tryz.prog w=.ok (.int .i64 (numN l x)) w:=by
 obtain⟨th,h⟩:=h;exact h.look Qkp (zeroI w) hx
theorem Qds (n:Qx):numN [] n=0:=by simp[numN]
theorem QJq {N:List Qx}{k:Nat}{x:Qx}(hx:N[k]? = some x)(hn:N.Nodup)(q:Qx):numN (N.take (k+1)) q=if q=x then (k:Int) else numN (N.take k) q:=by
 have ht:=Qgd hx;have e:N.take (k+1)=N.take k++[x]:=by rw[List.take_add_one,hx];rfl
 by_cases h:q=x
 ·subst h;rw[if_pos rfl];have hm:q∈N.take (k+1):=by rw[e];simp
  unfold numN;rw[if_pos hm];exact Qse (by rw[e,List.getElem?_append_right (by rw[ht.2];exact Nat.le_refl _),ht.2];simp) (by
   rw[e,List.take_append_of_le_length (by rw[ht.2];exact Nat.le_refl _),List.take_of_length_le (by rw[ht.2];exact Nat.le_refl _)];rw[ht.1] at hn;intro hm2;exact(List.nodup_append.1 hn).2.2 q hm2 q ZS rfl)
 ·rw[if_neg h];unfold numN;by_cases hm:q∈N.take k
  ·rw[if_pos (by rw[e];simp[hm]),if_pos hm];obtain⟨j,hj,hjx⟩:=Qgc hm;rw[hj];unfold idxI at hj ⊢;rw[if_pos hm] at hj;rw[if_pos (by rw[e];simp[hm]),e,List.idxOf_append,if_pos hm];exact hj
  ·rw[if_neg (by rw[e];simp[hm,h]),if_neg hm]
end
section
structure GrE (n:Nat)(E:List (Nat×Nat))(S P:List (List Int)):Prop where
 sl:S.length=n
 pl:P.length=n
 rng:∀e∈E,e.1<n∧e.2<n
 sn:∀(i:Nat) (r:List Int),S[i]? = some r→r.Nodup∧∀x:Int,x∈r↔∃j:Nat,x=j∧(i,j)∈E
 pn:∀(j:Nat) (r:List Int),P[j]? = some r→r.Nodup∧∀x:Int,x∈r↔∃i:Nat,x=i∧(i,j)∈E
theorem GrE.nil (n:Nat):GrE n [] (List.replicate n []) (List.replicate n []):=by
 refine⟨by simp,by simp,by simp,fun i r h=>?_,fun i r h=>?_⟩
 ·obtain rfl:r=[]:=List.eq_of_mem_replicate (List.mem_of_getElem? h);simp
 ·obtain rfl:r=[]:=List.eq_of_mem_replicate (List.mem_of_getElem? h);simp
theorem GrE.same {n:Nat}{E:List (Nat×Nat)}{S P:List (List Int)}(h:GrE n E S P){a b:Nat}{r:List Int}(hr:S[a]? = some r)(hb:(b:Int)∈r):GrE n (E++[(a,b)]) S P:=by
 have hin:(a,b)∈E:=by
  obtain⟨j,hj,hm⟩:=((h.sn a r hr).2 b).1 hb;obtain rfl:b=j:=by omega
  exact hm
 have hmem:∀e:Nat×Nat,e∈E++[(a,b)]↔e∈E:=fun e=>by
  constructor
  ·intro he;rcases List.mem_append.1 he with he|he
   ·exact he
   ·obtain rfl:e=(a,b):=by simpa using he
    exact hin
  ·exact fun he=>List.mem_append.2 (.inl he)
 refine⟨h.sl,h.pl,fun e he=>h.rng e ((hmem e).1 he),fun i r hr=>⟨(h.sn i r hr).1,fun x=>?_⟩,fun i r hr=>⟨(h.pn i r hr).1,fun x=>?_⟩⟩
 ·rw[(h.sn i r hr).2 x];exact⟨fun ⟨j,e,m⟩=>⟨j,e,(hmem _).2 m⟩,fun ⟨j,e,m⟩=>⟨j,e,(hmem _).1 m⟩⟩
 ·rw[(h.pn i r hr).2 x];exact⟨fun ⟨j,e,m⟩=>⟨j,e,(hmem _).2 m⟩,fun ⟨j,e,m⟩=>⟨j,e,(hmem _).1 m⟩⟩
theorem GrE.add {n:Nat}{E:List (Nat×Nat)}{S P:List (List Int)}(h:GrE n E S P){a b:Nat}(ha:a<n)(hbn:b<n){r q:List Int}(hr:S[a]? = some r)(hq:P[b]? = some q)(hb:(b:Int)∉r):GrE n (E++[(a,b)]) (S.set a (r++[(b:Int)])) (P.set b (q++[(a:Int)])):=by
 have hnin:(a,b)∉E:=fun hm=>hb (((h.sn a r hr).2 b).2 ⟨b,rfl,hm⟩)
 refine⟨by simp[h.sl],by simp[h.pl],fun e he=>?_,fun i s hs=>?_,fun j s hs=>?_⟩
 ·rcases List.mem_append.1 he with he|he
  ·exact h.rng e he
  ·obtain rfl:e=(a,b):=by simpa using he
   exact⟨ha,hbn⟩
 ·by_cases hi:a=i
  ·subst hi;rw[List.getElem?_set_self (by rw[h.sl];exact ha)] at hs;injection hs with hs
   subst hs;obtain⟨h1,h2⟩:=h.sn a r hr;refine⟨List.nodup_append.2 ⟨h1,by simp,fun x hx y hy e=>?_⟩,fun x=>?_⟩
   ·simp at hy;subst hy;exact hb (e▸hx)
   ·rw[List.mem_append,h2 x];constructor
    ·rintro(⟨j,e,m⟩|hx)
     ·exact⟨j,e,List.mem_append.2 (.inl m)⟩
     ·exact⟨b,by simpa using hx,by simp⟩
    ·rintro⟨j,e,m⟩;rcases List.mem_append.1 m with m|m
     ·exact .inl ⟨j,e,m⟩
     ·simp at m;subst m;exact .inr (by simp[e])
  ·rw[List.getElem?_set_ne hi] at hs;obtain⟨h1,h2⟩:=h.sn i s hs;refine⟨h1,fun x=>?_⟩;rw[h2 x];constructor
   ·rintro⟨j,e,m⟩;exact⟨j,e,List.mem_append.2 (.inl m)⟩
   ·rintro⟨j,e,m⟩;rcases List.mem_append.1 m with m|m
    ·exact⟨j,e,m⟩
    ·simp at m;exact absurd m.1.symm hi
 ·by_cases hj:b=j
  ·subst hj;rw[List.getElem?_set_self (by rw[h.pl];exact hbn)] at hs;injection hs with hs
   subst hs;obtain⟨h1,h2⟩:=h.pn b q hq;refine⟨List.nodup_append.2 ⟨h1,by simp,fun x hx y hy e=>?_⟩,fun x=>?_⟩
   ·simp at hy;subst hy;subst e;obtain⟨i,e,m⟩:=(h2 _).1 hx;obtain rfl:a=i:=by omega
    exact hnin m
   ·rw[List.mem_append,h2 x];constructor
    ·rintro(⟨j,e,m⟩|hx)
     ·exact⟨j,e,List.mem_append.2 (.inl m)⟩
     ·exact⟨a,by simpa using hx,by simp⟩
    ·rintro⟨j,e,m⟩;rcases List.mem_append.1 m with m|m
     ·exact .inl ⟨j,e,m⟩
     ·simp at m;subst m;exact .inr (by simp[e])
  ·rw[List.getElem?_set_ne hj] at hs;obtain⟨h1,h2⟩:=h.pn j s hs;refine⟨h1,fun x=>?_⟩;rw[h2 x];constructor
   ·rintro⟨i,e,m⟩;exact⟨i,e,List.mem_append.2 (.inl m)⟩
   ·rintro⟨i,e,m⟩;rcases List.mem_append.1 m with m|m
    ·exact⟨i,e,m⟩
    ·simp at m;exact absurd m.2.symm hj
theorem GrE.slen {n:Nat}{E:List (Nat×Nat)}{S P:List (List Int)}(h:GrE n E S P){i:Nat}{r:List Int}(hr:S[i]? = some r):r.length≤n:=by
 obtain⟨h1,h2⟩:=h.sn i r hr;have:=QGf (b:=(List.range n).map fun k:Nat=>(k:Int)) h1 fun x hx=>by
  obtain⟨j,rfl,m⟩:=(h2 x).1 hx;exact List.mem_map.2 ⟨j,List.mem_range.2 (h.rng _ m).2,rfl⟩
 simpa using this
theorem GrE.plen {n:Nat}{E:List (Nat×Nat)}{S P:List (List Int)}(h:GrE n E S P){i:Nat}{r:List Int}(hr:P[i]? = some r):r.length≤n:=by
 obtain⟨h1,h2⟩:=h.pn i r hr;have:=QGf (b:=(List.range n).map fun k:Nat=>(k:Int)) h1 fun x hx=>by
  obtain⟨j,rfl,m⟩:=(h2 x).1 hx;exact List.mem_map.2 ⟨j,List.mem_range.2 (h.rng _ m).1,rfl⟩
 simpa using this
end
section
open Go.RowKit
variable [Base]
abbrev IT:TypeId:=22
abbrev IN:TypeId:=3
abbrev BT:TypeId:=158
theorem QCo (l:List Int)(v:Value)(x:Int)(w:World)(h:QJa w v l):
  Calls Tryz.prog 194 #[v,iv x] w (fun e w'=>e=.returned (iv (idxI l x))∧w'=w):=by
 obtain⟨a,c,rfl,hn,-,-,hc⟩:=h.cell;have HC:=Zh hc;obtain⟨n,hl⟩:=Ze l.length;rw[hl] at hn ⊢;have HL:=Zh hl;clear hc h hl;unfold maxLen at hn;go_enter Tryz.func194,Tryz.ntmps194;go_wp2;go_loopw [8] (fun y wr=>∃k:Nat,k≤n∧y=.int .i64 k∧w=wr∧Hid (x∉l.take k)) (fun y _=>n-(intOf y).toNat)
 case atStart=>exact⟨0,Nat.zero_le _,rfl,rfl,by unfold Hid;simp⟩
 case round=>
  obtain⟨k,hk,rfl,rfl,HNI⟩:=hrel;by_cases hlt:k<n
  ·obtain⟨y,hy⟩:∃y,l[k]? = some y:=⟨_,List.getElem?_eq_getElem (by rw[HL.o];exact hlt)⟩;obtain⟨b1,o1,rfl,hb1,g1⟩:=HC.o k y hy;by_cases hxy:y=x
   ·subst hxy;have HK:=Zh (show idxI l y=(k:Int) from Qse hy HNI.o);clear hy;go_wp2;go_ret;exact⟨Qob HK.o.symm,rfl⟩
   ·have HN1:=Zh (show x∉l.take (k+1) by
     rw[List.take_add_one,hy];intro h;rcases List.mem_append.1 h with h|h
     ·exact HNI.o h
     ·simp at h;exact hxy h.symm)
    have he1:(x==y)=false:=by simpa using fun e=>hxy (Eq.symm e)
    clear hy hxy;go_wp2;go_roundw
    case rel=>exact⟨k+1,by omega,by go_num,(by first|rfl|trivial),HN1⟩
    case measure=>simp[intOf];omega
  ·have HK:=Zh (show idxI l x = -1 by
    unfold idxI;rw[if_neg (fun h=>HNI.o (by rwa [List.take_of_length_le (by rw[HL.o];omega)]))])
   go_wp2;go_ret;exact⟨Qob HK.o.symm,rfl⟩
theorem Qdk (l:List Int)(v:Value)(x:Int)(w:World)(h:QJa w v l):
  Calls Tryz.prog 161 #[v,iv x] w (fun e w'=>e=.returned (.bool (decide (x∈l)))∧w'=w):=by
 have K:=Zh (QCo l v x w h);have HD:=Zh (show decide (x∈l)=decide (0≤idxI l x) by
  unfold idxI;by_cases hm:x∈l
  ·rw[if_pos hm];simp[hm]
  ·rw[if_neg hm];simp[hm])
 obtain⟨a,c,rfl,-⟩:=h.cell;obtain⟨i,hi⟩:=Ze (idxI l x);rw[hi] at K HD;rw[HD.o];clear h hi HD;go_enter Tryz.func161,Tryz.ntmps161;go_wp2_with fail;refine K.o.mono ?_;rintro e w' ⟨rfl,rfl⟩;go_wp2;go_ret;exact⟨rfl,rfl⟩
structure QRd (z:Nat)(w:World)(vs:List Value)(R:List (List Int)):Prop where
 len:vs.length=R.length
 own:∀(i:Nat) (v:Value) (r:List Int),vs[i]? = some v→R[i]? = some r→w.ownsRow z IN 1 v r.length (r.map iv)
 apart:∀(i j:Nat) (v u:Value) (b:Nat),i≠j→vs[i]? = some v→vs[j]? = some u→v.ownBlock=some b→u.ownBlock≠some b
theorem Qnj {w w':World}{base:Nat}{e:TypeId}{size:Nat}{v:Value}{n:Nat}{xs:List Value}(h:w.ownsRow base e size v n xs)(hb:∀b c fr,v.ownBlock=some b→w.heap[b]? = some (.cells c e fr)→w'.heap[b]? = w.heap[b]?):w'.ownsRow base e size v n xs:=by
 obtain⟨h1,h2⟩:=h;refine⟨h1,?_⟩;rcases h2 with h2|⟨g,cap,cur,e1,e2,e3,e4⟩
 ·exact .inl h2
 ·exact .inr ⟨g,cap,cur,e1,e2,(hb g cur (0,0) (by rw[e1];rfl) e3).trans e3,e4⟩
theorem QRd.keep {z:Nat}{w w':World}{vs:List Value}{R:List (List Int)}(h:QRd z w vs R)(hb:∀(b:Nat) (c:Array Value) (fr:Nat×Nat),w.heap[b]? = some (Obj.cells c IN fr)→w'.heap[b]? = w.heap[b]?):QRd z w' vs R:=
 ⟨h.len,fun i v r hv hr=>Qnj (h.own i v r hv hr) fun b c fr _ hc=>hb b c fr hc,h.apart⟩
theorem QZn {w:World}{base:Nat}{e:TypeId}{size:Nat}{v:Value}{n b:Nat}{xs:List Value}(h:w.ownsRow base e size v n xs)(hb:v.ownBlock=some b):b<w.heap.size∧base≤b:=by
 rcases h.2 with⟨rfl,_⟩|⟨g,cap,cur,rfl,hg,hh,_⟩
 ·simp[Value.ownBlock] at hb
 ·simp[Value.ownBlock] at hb;subst hb;exact⟨Qb hh,hg⟩
theorem QRd.push {z g cap:Nat}{w w5:World}{vs:List Value}{R:List (List Int)}{i:Nat}{v:Value}{r:List Int}{x:Int}(h:QRd z w vs R)(hv:vs[i]? = some v)(hr:R[i]? = some r)(ho:w5.ownsRow z IN 1 (.slice (some ⟨g,0,none⟩) (r.length+1) cap) (r.length+1) (r.map iv++[iv x]))(hg:w.grownBy w5 v.ownBlock)(hn:v.ownBlock=some g∨w.heap.size≤g):
  QRd z w5 (vs.set i (.slice (some ⟨g,0,none⟩) (r.length+1) cap)) (R.set i (r++[x])):=by
 have hi:i<vs.length:=(List.getElem?_eq_some_iff.1 hv).1;refine⟨by simp[h.len],fun j u s hu hs=>?_,fun j k u y b hne hu hy hb=>?_⟩
 ·by_cases hij:i=j
  ·subst hij;rw[List.getElem?_set_self hi] at hu;rw[List.getElem?_set_self (by rw[←h.len];exact hi)] at hs;injection hu with hu
   injection hs with hs
   subst hu hs
   simpa using ho
  ·rw[List.getElem?_set_ne hij] at hu hs;refine Qnj (h.own j u s hu hs) fun b c fr hb _=>hg.block b (QZn (h.own j u s hu hs) hb).1 ?_
   intro e;exact h.apart i j v u b hij hv hu e.symm hb
 ·have key:∀q t,i≠q→vs[q]? = some t→t.ownBlock≠some g:=fun q t hq ht e=>by
   obtain⟨s,hs⟩:∃s,R[q]? = some s:=⟨_,List.getElem?_eq_getElem (by rw[←h.len];exact(List.getElem?_eq_some_iff.1 ht).1)⟩;rcases hn with hn|hn
   ·exact h.apart i q v t g hq hv ht hn e
   ·have:=(QZn (h.own q t s ht hs) e).1;omega
  by_cases hij:i=j
  ·subst hij;rw[List.getElem?_set_self hi] at hu;injection hu with hu
   subst hu;rw[List.getElem?_set_ne hne] at hy;simp[Value.ownBlock] at hb;subst hb;exact key k y hne hy
  ·rw[List.getElem?_set_ne hij] at hu;by_cases hik:i=k
   ·subst hik;rw[List.getElem?_set_self hi] at hy;injection hy with hy
    subst hy;intro e;simp[Value.ownBlock] at e;subst e;exact key j u hij hu hb
   ·rw[List.getElem?_set_ne hik] at hy;exact h.apart j k u y b hne hu hy hb
structure Qbb (z:Nat)(w w':World):Prop where
 below:Below z w w'
 same:∀T,T≠IT→T≠IN→Qf T w w'
theorem Qbb.refl (z:Nat)(w:World)(h:z≤w.heap.size):Qbb z w w:=⟨(Below.refl _ _).mono h,fun _ _ _=>Qf.refl⟩
theorem Qbb.trans {z:Nat}{a b c:World}(h:Qbb z a b)(k:Qbb z b c):Qbb z a c:=⟨h.below.trans k.below,fun T h1 h2=>(h.same T h1 h2).trans (k.same T h1 h2)⟩
theorem Qbb.of {z:Nat}{w w':World}(h:Below w.heap.size w w')(hz:z≤w.heap.size):Qbb z w w':=⟨h.mono hz,fun _ _ _=>Qf.below h⟩
structure Bld (z bt sb pb mb:Nat)(nv:Value)(N:List Qx)(S P:List (List Int))(w:World):Prop where
 zs:z≤bt∧z≤sb∧z≤pb∧z≤mb
 bl:w.heap[bt]? = some (.cells #[nv,.slice (some ⟨sb,0,none⟩) N.length N.length,.slice (some ⟨pb,0,none⟩) N.length N.length,.map (some mb)] BT (0,0))
 mp:NumM w mb N.length N
 ne:sb≠pb
 rows:∃vs us:List Value,w.heap[sb]? = some (.cells vs.toArray IT (0,0))∧w.heap[pb]? = some (.cells us.toArray IT (0,0))∧vs.length=N.length∧us.length=N.length∧S.length=N.length∧QRd z w (vs++us) (S++P)
theorem Bld.keep {z bt sb pb mb:Nat}{nv:Value}{N:List Qx}{S P:List (List Int)}{w w':World}(h:Bld z bt sb pb mb nv N S P w)(hb:∀k,k<w.heap.size→w'.heap[k]? = w.heap[k]?):Bld z bt sb pb mb nv N S P w':=by
 obtain⟨vs,us,h1,h2,h3,h4,h5,h6⟩:=h.rows;exact⟨h.zs,(hb _ (Qb h.bl)).trans h.bl,h.mp.block (hb _ h.mp.lt),h.ne,vs,us,(hb _ (Qb h1)).trans h1,(hb _ (Qb h2)).trans h2,h3,h4,h5,h6.keep fun b c fr hc=>hb b (Qb hc)⟩
theorem Bld.below {z bt sb pb mb:Nat}{nv:Value}{N:List Qx}{S P:List (List Int)}{w w':World}(h:Bld z bt sb pb mb nv N S P w)(b:Below w.heap.size w w'):Bld z bt sb pb mb nv N S P w':=h.keep b.block
theorem QSl {w:World}{b i:Nat}{vs:List Value}{t:TypeId}{fr:Nat×Nat}(h:w.heap[b]? = some (.cells vs.toArray t fr))(x:Value):(w.setCell ⟨b,i,none⟩ x).heap[b]? = some (.cells (vs.set i x).toArray t fr):=by
 simp[World.setCell,Array.getElem?_modify,h]
theorem Qnf {w:World}{b k o:Nat}(h:b≠k)(x:Value):(w.setCell ⟨b,o,none⟩ x).heap[k]? = w.heap[k]?:=by
 simp[World.setCell,Array.getElem?_modify,h]
theorem QPf {c:Array Value}{t:TypeId}{f:Nat×Nat}(h:t≠IN):∀c' fr,Obj.cells c t f≠.cells c' IN fr:=by
 intro c' fr e;injection e with _ e
 exact h e
theorem Bld.grow {z bt sb pb mb g cap i:Nat}{nv v:Value}{N:List Qx}{S P:List (List Int)}{w w5:World}{vs us:List Value}{r:List Int}{x:Int}(hbs:Base.b≤z)(h:Bld z bt sb pb mb nv N S P w)(h1:w.heap[sb]? = some (.cells vs.toArray IT (0,0)))(h2:w.heap[pb]? = some (.cells us.toArray IT (0,0)))(h3:vs.length=N.length)(h4:us.length=N.length)(h6:QRd z w (vs++us) (S++P))(hv:(vs++us)[i]? = some v)(hr:(S++P)[i]? = some r)(ho:w5.ownsRow z IN 1 (.slice (some ⟨g,0,none⟩) (r.length+1) cap) (r.length+1) (r.map iv++[iv x]))(hg:w.grownBy w5 v.ownBlock)(hn:v.ownBlock=some g∨w.heap.size≤g)(hz:z≤w.heap.size):
  w5.heap[bt]? = w.heap[bt]?∧w5.heap[sb]? = w.heap[sb]?∧w5.heap[pb]? = w.heap[pb]?∧NumM w5 mb N.length N∧QRd z w5 ((vs++us).set i (.slice (some ⟨g,0,none⟩) (r.length+1) cap)) ((S++P).set i (r++[x]))∧Qbb z w w5:=by
 have own:=h6.own i v r hv hr;obtain⟨es,c0,hm⟩:=h.mp.isMap;refine⟨hg.block _ (Qb h.bl) (Qdb own h.bl (QPf ZD)),hg.block _ (Qb h1) (Qdb own h1 (QPf ZD)),hg.block _ (Qb h2) (Qdb own h2 (QPf ZD)),h.mp.block (hg.block _ (Qb hm) (Qdb own hm (by intro c fr e;cases e))),h6.push hv hr ho hg hn,?_⟩;exact⟨Below.of_grown hg own hz,fun T _ hT=>Qf.grown hg own hT hbs⟩
theorem QXg {z b o:Nat}{w:World}{vs:List Value}{R:List (List Int)}{c:Array Value}{fr:Nat×Nat}(h:QRd z w vs R)(hb:w.heap[b]? = some (.cells c IT fr))(x:Value):QRd z (w.setCell ⟨b,o,none⟩ x) vs R:=
 h.keep fun k c' fr' hc=>Qnf (by rintro rfl;rw[hb] at hc;injection hc with hc;injection hc with _ hc;exact absurd hc ZD) x
theorem Qnh {z b o:Nat}{w w':World}{c:Array Value}(h:Qbb z w w')(hb:w'.heap[b]? = some (.cells c IT (0,0)))(hz:z≤b)(hbs:Base.b≤z)(x:Value):Qbb z w (w'.setCell ⟨b,o,none⟩ x):=
 ⟨h.below.setCell (p:=⟨b,o,none⟩) hz _,fun T h1 h2=>(h.same T h1 h2).trans (Qf.setCell (U:=IT) (Qv hb (Nat.le_trans hbs hz)) h1)⟩
theorem Bld.rowS {z bt sb pb mb:Nat}{nv:Value}{N:List Qx}{S P:List (List Int)}{w:World}(hbs:Base.b≤z)(h:Bld z bt sb pb mb nv N S P w)(hz:z≤w.heap.size){a:Nat}(ha:a<N.length):
  ∃v r,S[a]? = some r∧w.cell? ⟨sb,a,none⟩=some v∧w.ownsRow z IN 1 v r.length (r.map iv)∧∀g cap w5 x,w5.ownsRow z IN 1 (.slice (some ⟨g,0,none⟩) (r.length+1) cap) (r.length+1) (r.map iv++[iv x])→w.grownBy w5 v.ownBlock→(v.ownBlock=some g∨w.heap.size≤g) →
   (w5.heap[bt]? = w.heap[bt]?∧w5.heap[sb]? = w.heap[sb]?)∧Bld z bt sb pb mb nv N (S.set a (r++[x])) P (w5.setCell ⟨sb,a,none⟩ (.slice (some ⟨g,0,none⟩) (r.length+1) cap))∧Qbb z w (w5.setCell ⟨sb,a,none⟩ (.slice (some ⟨g,0,none⟩) (r.length+1) cap)):=by
 obtain⟨vs,us,h1,h2,h3,h4,h5,h6⟩:=h.rows;obtain⟨v,hv⟩:∃v,vs[a]? = some v:=⟨_,List.getElem?_eq_getElem (by rw[h3];exact ha)⟩;obtain⟨r,hr⟩:∃r,S[a]? = some r:=⟨_,List.getElem?_eq_getElem (by rw[h5];exact ha)⟩;have hv2:(vs++us)[a]? = some v:=by rw[List.getElem?_append_left (by rw[h3];exact ha)];exact hv
 have hr2:(S++P)[a]? = some r:=by rw[List.getElem?_append_left (by rw[h5];exact ha)];exact hr
 refine⟨v,r,hr,?_,h6.own a v r hv2 hr2,fun g cap w5 x ho hg hn=>?_⟩
 ·have:=(Qd h1).1 a;rw[this]
  simpa using hv
 ·obtain⟨k1,k2,k3,k4,k5,k6⟩:=h.grow hbs h1 h2 h3 h4 h6 hv2 hr2 ho hg hn hz;have s5:=k2.trans h1;have p5:=k3.trans h2;obtain⟨es,c0,hm⟩:=k4.isMap;have hms:sb≠mb:=by rintro rfl;rw[s5] at hm;cases hm
  have hbs2:sb≠bt:=by
   rintro rfl;rw[k1.trans h.bl] at s5;injection s5 with s5
   injection s5 with _ s5
   exact absurd s5 ZD
  refine⟨⟨k1,k2⟩,⟨h.zs,(Qnf hbs2 _).trans (k1.trans h.bl),k4.block (Qnf hms _),h.ne,vs.set a (.slice (some ⟨g,0,none⟩) (r.length+1) cap),us,QSl s5 _,(Qnf h.ne _).trans p5,by simpa using h3,h4,by simpa using h5,?_⟩,Qnh k6 s5 h.zs.2.1 hbs _⟩;have:=QXg (o:=a) k5 s5 (.slice (some ⟨g,0,none⟩) (r.length+1) cap);rw[List.set_append_left _ _ (by rw[h3];exact ha),List.set_append_left _ _ (by rw[h5];exact ha)] at this;exact this
theorem Bld.rowP {z bt sb pb mb:Nat}{nv:Value}{N:List Qx}{S P:List (List Int)}{w:World}(hbs:Base.b≤z)(h:Bld z bt sb pb mb nv N S P w)(hz:z≤w.heap.size){a:Nat}(ha:a<N.length):
  ∃v r,P[a]? = some r∧w.cell? ⟨pb,a,none⟩=some v∧w.ownsRow z IN 1 v r.length (r.map iv)∧∀g cap w5 x,w5.ownsRow z IN 1 (.slice (some ⟨g,0,none⟩) (r.length+1) cap) (r.length+1) (r.map iv++[iv x])→w.grownBy w5 v.ownBlock→(v.ownBlock=some g∨w.heap.size≤g) →
   (w5.heap[bt]? = w.heap[bt]?∧w5.heap[pb]? = w.heap[pb]?)∧Bld z bt sb pb mb nv N S (P.set a (r++[x])) (w5.setCell ⟨pb,a,none⟩ (.slice (some ⟨g,0,none⟩) (r.length+1) cap))∧Qbb z w (w5.setCell ⟨pb,a,none⟩ (.slice (some ⟨g,0,none⟩) (r.length+1) cap)):=by
 obtain⟨vs,us,h1,h2,h3,h4,h5,h6⟩:=h.rows;have h7:P.length=N.length:=by have:=h6.len;simp at this;omega
 obtain⟨v,hv⟩:∃v,us[a]? = some v:=⟨_,List.getElem?_eq_getElem (by rw[h4];exact ha)⟩;obtain⟨r,hr⟩:∃r,P[a]? = some r:=⟨_,List.getElem?_eq_getElem (by rw[h7];exact ha)⟩;have hv2:(vs++us)[N.length+a]? = some v:=by rw[List.getElem?_append_right ZO,h3,Nat.add_sub_cancel_left];exact hv
 have hr2:(S++P)[N.length+a]? = some r:=by rw[List.getElem?_append_right ZO,h5,Nat.add_sub_cancel_left];exact hr
 refine⟨v,r,hr,?_,h6.own _ v r hv2 hr2,fun g cap w5 x ho hg hn=>?_⟩
 ·have:=(Qd h2).1 a;rw[this]
  simpa using hv
 ·obtain⟨k1,k2,k3,k4,k5,k6⟩:=h.grow hbs h1 h2 h3 h4 h6 hv2 hr2 ho hg hn hz;have s5:=k2.trans h1;have p5:=k3.trans h2;obtain⟨es,c0,hm⟩:=k4.isMap;have hms:pb≠mb:=by rintro rfl;rw[p5] at hm;cases hm
  have hbs2:pb≠bt:=by
   rintro rfl;rw[k1.trans h.bl] at p5;injection p5 with p5
   injection p5 with _ p5
   exact absurd p5 ZD
  refine⟨⟨k1,k3⟩,⟨h.zs,(Qnf hbs2 _).trans (k1.trans h.bl),k4.block (Qnf hms _),h.ne,vs,us.set a (.slice (some ⟨g,0,none⟩) (r.length+1) cap),(Qnf h.ne.symm _).trans s5,QSl p5 _,h3,by simpa using h4,h5,?_⟩,Qnh k6 p5 h.zs.2.2.1 hbs _⟩;have:=QXg (o:=a) k5 p5 (.slice (some ⟨g,0,none⟩) (r.length+1) cap);rw[List.set_append_right _ _ ZO,List.set_append_right _ _ ZO,h3,h5,Nat.add_sub_cancel_left] at this;exact this
section
variable {P:Program} {ops:Array Oper} {Q:Exit→Act→World→Prop} {md:Region.Mode} {S:World→Prop}
theorem Qgi {st:Nat}(i:Nat)(d:Option Tmp){oi:Oper}{fuel:Nat}{listed:Array Bool}{a:Act}{w E:World}(news:List Value)(e:TypeId)(hE:w.alloc (.cells news.toArray e)=E)(hi:ops[i]? = some oi)(hr:Region.ready md ops listed=[i])(hwant:Region.wanted oi (yielded ops a.tmps)=true)(hd:oi.dst=d)(s x:Operand)(t:TypeId)(ho:oi.op=.call { callee:=.builtin .append,args:=#[s,x],argTypes:=#[t,t] })(base:Nat)(z:Value)(size bytes:Nat)(ht:P.underlying t=some (.slice e))(hin:(P.info? e).map (fun i=>(i.zero,i.size,i.bytes))=some (some z,size,bytes))(hzs:z.cells.size=size)(hsz:0<size)(v:Value)(n:Nat)(xs:List Value)(hown:w.ownsRow base e size v n xs)(hs:a.eval s=v)(hx:a.eval x=.slice (some ⟨w.heap.size,0,none⟩) 1 1)(hl:news.length=size)(h1:news.all Value.oneCell'=true)(h63:n+1≤maxLen)(hbytes:(n+1)*bytes≤140737488355328)(hbase:base≤w.heap.size)(h:∀g cap w',w'.ownsRow base e size (.slice (some ⟨g,0,none⟩) (n+1) cap) (n+1) (xs++news)→w.grownBy w' v.ownBlock→(v.ownBlock=some g∨w.heap.size≤g) →
   (i≠st→S w')∧Qma P md ops Q S st fuel (listed.setIfInBounds i true) (a.put d (.slice (some ⟨g,0,none⟩) (n+1) cap)) w'):
  Qma P md ops Q S st (fuel+1) listed a E:=by
 subst hd hE;obtain⟨ii,hi',hz,hs1,hs2⟩:=info_parts hin;refine Qhi i hi hr hwant ?_;refine wp_append_lies _ s x t ho base e ii z size bytes ht hi' hz hs1 hs2 hzs hsz v n xs hs (hown.alloc _) ⟨w.heap.size,0,none⟩ 1 1 news hx ZO
  QPk (fun u hu=>List.all_eq_true.1 h1 u hu) ZO h63 hbytes (by simp;omega) _ rfl ?_
 intro g cap w' h2 h3 h4 h5;have ha:=World.grownBy_alloc w (.cells news.toArray e) v.ownBlock;refine h g cap w' h2 ⟨h3.os.trans ha.os,h3.tape.trans ha.tape,h3.output.trans ha.output,Nat.le_trans ha.size h3.size,fun k hk hn=>(h3.block k (Nat.lt_of_lt_of_le hk ha.size) hn).trans (ha.block k hk hn)⟩ ?_;rcases h4 with h4|h4
 ·exact .inl h4
 ·exact .inr (by rw[h4];simp)
end
end
end Go.Proofs.YtijekimobahgpaaGreatDoor
