/- A part of the proof. -/
import Derived.Laws.BitsLemmas
import Derived.Laws.Bits64
import Derived.WalkKit
import Derived.WalkSpells
import Derived.Lib.Hide
import Derived.Deep.QuietTactic
import Derived.Deep.AppendLies
import Derived.Test.YtijekimobahgpaaGreatDoorRows
import Derived.WalkLawsBesides
import Derived.BigQuiet
import Derived.Laws.Shifts
import Derived.Laws.MakeOwn
set_option linter.unusedVariables false
set_option linter.unusedSimpArgs false
set_option linter.unusedSectionVars false
set_option maxRecDepth 100000
set_option maxHeartbeats 16000000
namespace Go.Proofs.YtijekimobahgpaaGreatDoor
section
universe u
theorem Zh {p:Prop} (h:p):RowKit.Hid p:=h
theorem Zx {α:Type u} {xs:List α} {i:Nat}:xs.toArray[i]? = xs[i]?:=List.getElem?_toArray
theorem Zy {α:Type u} {a:α} {l:List α}:(a::l)[0]? = some a:=List.getElem?_cons_zero
theorem Zz {α:Type u} {a:α} {l:List α} {i:Nat}:(a::l)[i+1]? = l[i]?:=List.getElem?_cons_succ
theorem Zu {α:Type u} {xs:List α} {i:Nat} {a:α}:xs.toArray.setIfInBounds i a=(xs.set i a).toArray:=List.setIfInBounds_toArray _ _ _
theorem Zv {α:Type u} {xs:List α} {n:Nat} {a b:α}:(a::xs).set (n+1) b=a::xs.set n b:=List.set_cons_succ
theorem Zw {α:Type u} {xs:List α} {a b:α}:(a::xs).set 0 b=b::xs:=List.set_cons_zero
open Go.RowKit in
theorem _root_.Go.RowKit.Hid.o {p:Prop} (h:Hid p):p:=h
open Go.RowKit in
theorem Zb {w:World} {o:Obj}:Below w.heap.size w (w.alloc o):=(Below.refl _ _).alloc (Nat.le_refl _) _
theorem Ze {α:Sort u} (a:α):∃b,a=b:=⟨_,rfl⟩
structure QSet where
 width:Int
 words:List Nat
deriving DecidableEq
def QLa (l:List Nat):Prop:=∀x∈l,x<18446744073709551616
def Qli (s:QSet):Bool:=decide (s.width % 64=0)||decide ((s.words.getLastD 0) / 2 ^ (s.width % 64).toNat=0)
def QEa (w:Int):Bool:=decide (0≤w)&&decide (w≤256)
def QId (s:QSet):Bool:=decide ((s.words.length:Int)=(s.width+63) / 64)
def setB (s:QSet):Bool:=QEa s.width&&(QId s&&Qli s)
def QE (l:List Nat) (b:Nat):Bool:=(l.getD (b / 64) 0).testBit (b % 64)
theorem QNg (n:Int) (h₀:0≤n) (h₁:n<2 ^ 64):IntKind.u64.wrap n=n:=by rw [IntKind.wrap_u64];omega
theorem QBl (a b:Nat) (ha:a<18446744073709551616) (hb:b<18446744073709551616):bits .and .u64 (a:Int) (b:Int)=((a &&& b:Nat):Int):=(bits_nat .u64 64 (by decide) QNg a b ha hb).1
theorem Qhl (a b:Nat) (ha:a<18446744073709551616) (hb:b<18446744073709551616):bits .or .u64 (a:Int) (b:Int)=((a ||| b:Nat):Int):=(bits_nat .u64 64 (by decide) QNg a b ha hb).2
theorem Qbj (a k:Nat) (ha:a<18446744073709551616):bits .and .u64 ((a:Int) / 2 ^ k) 1=if a.testBit k then 1 else 0:=by
 have h1:((a:Int) / 2 ^ k)=((a / 2 ^ k:Nat):Int):=by simp
 have h2:a / 2 ^ k<18446744073709551616:=Nat.lt_of_le_of_lt (Nat.div_le_self _ _) ha;have h3:=QBl (a / 2 ^ k) 1 h2 (by omega);rw [h1];have h4:((1:Nat):Int)=1:=rfl;rw [h4] at h3;rw [h3,Nat.and_one_is_mod];have h5:a.testBit k=decide (a / 2 ^ k % 2=1):=by rw [Nat.testBit_eq_decide_div_mod_eq]
 rw [h5];by_cases h:a / 2 ^ k % 2=1
 ·rw [h];rfl
 ·rw [show a / 2 ^ k % 2=0 by omega];rfl
theorem QHr (r:Nat) (hr:r<64):IntKind.u64.wrap (18446744073709551615*2 ^ r)=((18446744073709551616-2 ^ r:Nat):Int):=by
 rw [IntKind.wrap_u64];have h1:2 ^ r<2 ^ 64:=Nat.pow_lt_pow_right (by decide) hr;have h2:0<2 ^ r:=Nat.two_pow_pos r;have h3:((2:Int) ^ r)=((2 ^ r:Nat):Int):=by simp
 rw [h3];generalize 2 ^ r=p at *;omega
theorem Qlk (r:Nat) (hr:r≤64) (k:Nat):(18446744073709551616-2 ^ r:Nat).testBit k=(decide (r≤k)&&decide (k<64)):=by
 have e:(18446744073709551616-2 ^ r:Nat)=(2 ^ (64-r)-1) <<< r:=by
  rw [Nat.shiftLeft_eq,Nat.sub_mul,←Nat.pow_add,show 64-r+r=64 from by omega];simp
 rw [e,Nat.testBit_shiftLeft,Nat.testBit_two_pow_sub_one];by_cases h:r≤k
 ·simp [h];omega
 ·simp [h]
theorem Qxr (a r:Nat) (ha:a<18446744073709551616) (hr:r≤64):(a &&& (18446744073709551616-2 ^ r)=0)↔a / 2 ^ r=0:=by
 constructor
 ·intro h;rw [Nat.div_eq_zero_iff_lt (Nat.two_pow_pos r)];refine Nat.lt_pow_two_of_testBit a fun i hi=>?_
  have h2:=congrArg (fun x=>Nat.testBit x i) h;simp only [Nat.testBit_and,Qlk r hr,Nat.zero_testBit] at h2;by_cases h64:i<64
  ·simpa [hi,h64] using h2
  ·exact Nat.testBit_lt_two_pow (Nat.lt_of_lt_of_le ha (Nat.pow_le_pow_right (n:=2) (by decide) (show 64≤i by omega)))
 ·intro h;rw [Nat.div_eq_zero_iff_lt (Nat.two_pow_pos r)] at h;refine Nat.eq_of_testBit_eq fun i=>?_
  rw [Nat.testBit_and,Qlk r hr,Nat.zero_testBit];by_cases hi:r≤i
  ·rw [Nat.testBit_lt_two_pow (Nat.lt_of_lt_of_le h (Nat.pow_le_pow_right (by decide) hi))];rfl
  ·simp [hi]
theorem QFh {s:QSet} (hw:QLa s.words) (h0:0≤s.width) (hl:QId s=true):Qli s=true↔∀b:Nat,s.width≤b→b<64*s.words.length→QE s.words b=false:=by
 obtain⟨w,ws⟩:=s;obtain⟨n,rfl⟩:=Int.eq_ofNat_of_zero_le h0;simp only [QId,decide_eq_true_eq] at hl;have hl2:ws.length=(n+63) / 64:=by omega
 have hr:((n:Int) % 64).toNat=n % 64:=by omega
 simp only [Qli,Bool.or_eq_true,decide_eq_true_eq,hr];by_cases h64:n % 64=0
 ·constructor
  ·intro _ b h1 h2
   try simp only at h1 h2
   omega
  ·intro _;left;omega
 ·have hlast:ws.getLastD 0=ws.getD (n / 64) 0:=by
   rw [List.getLastD_eq_getLast?,List.getLast?_eq_getElem?,List.getD_eq_getElem?_getD]
   congr 2
   omega
  have hlt:ws.getD (n / 64) 0<18446744073709551616:=by
   rw [List.getD_eq_getElem?_getD,List.getElem?_eq_getElem (by omega)];exact hw _ (List.getElem_mem _)
  rw [hlast];constructor
  ·intro h b h1 h2
   try simp only at h1 h2
   have h3:ws.getD (n / 64) 0 / 2 ^ (n % 64)=0:=by
    rcases h with h|h
    ·omega
    ·exact h
   rw [Nat.div_eq_zero_iff_lt (Nat.two_pow_pos _)] at h3;have hb:b / 64=n / 64:=by omega
   unfold QE;rw [hb];exact Nat.testBit_lt_two_pow (Nat.lt_of_lt_of_le h3 (Nat.pow_le_pow_right (by decide) (by omega)))
  ·intro h;right;rw [Nat.div_eq_zero_iff_lt (Nat.two_pow_pos _)];refine Nat.lt_pow_two_of_testBit _ fun i hi=>?_
   by_cases hi64:i<64
   ·have h2:=h (n / 64*64+i) (by omega) (by omega);unfold QE at h2;rw [show(n / 64*64+i) / 64=n / 64 by omega,show(n / 64*64+i) % 64=i by omega] at h2;exact h2
   ·exact Nat.testBit_lt_two_pow (Nat.lt_of_lt_of_le hlt (Nat.pow_le_pow_right (n:=2) (by decide) (show 64≤i by omega)))
end
section
abbrev Str:=List UInt8
structure QD where
 op:Int
 dfn:Str
 uses:List Str
 targets:List Str
structure QI where
 name:Str
 stmts:List QD
structure Qo where
 name:Str
 blocks:List QI
def QGl:List Str:=[[120],[121],[122],[119]]
end
section
open Go.RowKit
class Base where
 b:Nat
variable [Base]
def Qic (w:World) (b:Nat) (c:Array Value) (T:TypeId) (fr:Nat×Nat):Prop:=∃U,(U=T∨b<Base.b)∧w.heap[b]? = some (.cells c U fr)
theorem Qic.of {w:World} {b:Nat} {c:Array Value} {T:TypeId} {fr:Nat×Nat} (h:w.heap[b]? = some (.cells c T fr)):Qic w b c T fr:=⟨T,.inl rfl,h⟩
theorem Qic.lt {w:World} {b:Nat} {c:Array Value} {T:TypeId} {fr:Nat×Nat} (h:Qic w b c T fr):b<w.heap.size:=by
 obtain⟨U,-,h⟩:=h;rcases Nat.lt_or_ge b w.heap.size with h1|h1
 ·exact h1
 ·rw [Array.getElem?_eq_none h1] at h;cases h
theorem Qic.cell {w:World} {b:Nat} {c:Array Value} {T:TypeId} {fr:Nat×Nat} (h:Qic w b c T fr) (o:Nat):w.cell? ⟨b,o,none⟩=c[o]?:=by
 obtain⟨U,-,h⟩:=h;simp [World.cell?,h]
end
section
open Go.RowKit
variable [Base]
def Qg (w:World) (T:TypeId) (sz:Nat) (v:Value) (xs:List Value):Prop:=
 ∃n cap:Nat,xs.length=n*sz∧n≤cap∧cap≤maxLen∧(((∃a,v=.slice a 0 0)∧n=0) ∨
  ∃b off c fr,v=.slice (some ⟨b,off,none⟩) n cap∧Qic w b c T fr∧∀i,i<xs.length→c[off+i]? = xs[i]?)
def tyAt (w:World) (b:Nat):Option TypeId:=match w.heap[b]? with|some (.cells _ t _)=>if b<Base.b then none else some t|_=>none
theorem Qv {w:World} {b:Nat} {c:Array Value} {t:TypeId} {fr:Nat×Nat} (h:w.heap[b]? = some (.cells c t fr)) (hb:Base.b≤b:=by(try dsimp only);omega):tyAt w b=some t:=by
 unfold tyAt;rw [h];exact if_neg (Nat.not_lt.2 hb)
theorem Qb {w:World} {b:Nat} {o:Obj} (h:w.heap[b]? = some o):b<w.heap.size:=by
 rcases Nat.lt_or_ge b w.heap.size with h1|h1
 ·exact h1
 ·rw [Array.getElem?_eq_none h1] at h;cases h
theorem Qg.nil {w:World} {T:TypeId} {sz:Nat}:Qg w T sz (.slice none 0 0) []:=⟨0,0,by simp,Nat.le_refl _,Nat.zero_le _,.inl ⟨⟨none,rfl⟩,rfl⟩⟩
theorem Qg.of_owns {w:World} {base:Nat} {T:TypeId} {sz:Nat} {v:Value} {n:Nat} {xs:List Value} (h:w.ownsRow base T sz v n xs):Qg w T sz v xs:=by
 obtain⟨h1,h2⟩:=h;rcases h2 with⟨rfl,rfl⟩|⟨g,cap,cur,rfl,_,hg,hn,hc,hs,ht⟩
 ·have:xs=[]:=List.length_eq_zero_iff.1 (by omega);subst this;exact .nil
 ·refine⟨n,cap,h1,hn,hc,.inr ⟨g,0,cur,(0,0),rfl,.of hg,fun i hi=>?_⟩⟩;rw [←ht,List.getElem?_take_of_lt (by omega)];simp
def Qf (T:TypeId) (w w':World):Prop:=∀(b:Nat) (c:Array Value) (fr:Nat×Nat) (U:TypeId),(U=T∨b<Base.b)→w.heap[b]? = some (Obj.cells c U fr)→w'.heap[b]? = some (Obj.cells c U fr)
theorem Qf.own {T:TypeId} {w w':World} (h:Qf T w w') {b:Nat} {c:Array Value} {fr:Nat×Nat} (e:w.heap[b]? = some (.cells c T fr)):w'.heap[b]? = some (.cells c T fr):=h b c fr T (.inl rfl) e
theorem Qic.same {T:TypeId} {w w':World} {b:Nat} {c:Array Value} {fr:Nat×Nat} (h:Qic w b c T fr) (hs:Qf T w w'):Qic w' b c T fr:=by
 obtain⟨U,hU,h⟩:=h;exact⟨U,hU,hs _ _ _ U hU h⟩
theorem Qg.same {w w':World} {T:TypeId} {sz:Nat} {v:Value} {xs:List Value} (h:Qg w T sz v xs) (hs:Qf T w w'):Qg w' T sz v xs:=by
 obtain⟨n,cap,h1,h2,h3,h4⟩:=h;refine⟨n,cap,h1,h2,h3,?_⟩;rcases h4 with h4|⟨b,off,c,fr,e1,e2,e3⟩
 ·exact .inl h4
 ·exact .inr ⟨b,off,c,fr,e1,e2.same hs,e3⟩
theorem Qf.refl {T:TypeId} {w:World}:Qf T w w:=fun _ _ _ _ _ h=>h
theorem Qf.trans {T:TypeId} {a b c:World} (h:Qf T a b) (k:Qf T b c):Qf T a c:=fun x y z U hU e=>k x y z U hU (h x y z U hU e)
theorem Qf.below {T:TypeId} {w w':World} (h:Below w.heap.size w w'):Qf T w w':=fun b _ _ _ _ e=>(h.block b (Qb e)).trans e
theorem Qf.drewN {T:TypeId} {w:World} {n:Nat}:Qf T w (w.drewN n):=fun _ _ _ _ _ h=>h
theorem Qf.alloc {T:TypeId} {w:World} {o:Obj}:Qf T w (w.alloc o):=fun b _ _ _ _ e=>(Below.heap_alloc w o b (Qb e)).trans e
theorem Qf.setCell {T U:TypeId} {w:World} {p:Addr} {u:Value} (h:tyAt w p.block=some U) (hne:T≠U):Qf T w (w.setCell p u):=fun b c fr V hV e=>by
 rw [Below.heap_setCell _ _ _ _ (fun hb=>by
  unfold tyAt at h
  rw [←hb,e] at h
  by_cases hx:b<Base.b
  ·simp only [if_pos hx] at h;cases h
  ·simp only [if_neg hx] at h
   injection h with h
   rcases hV with hV|hV
   ·exact hne (hV.symm.trans h)
   ·exact hx hV)]
 exact e
theorem Qf.grown {T U:TypeId} {w w':World} {base n sz:Nat} {v:Value} {xs:List Value} (hg:w.grownBy w' v.ownBlock) (ho:w.ownsRow base U sz v n xs) (hne:T≠U) (hbase:Base.b≤base:=by omega):Qf T w w':=fun b c fr V hV e=>by
 rw [hg.block b (Qb e) ?_]
 ·exact e
 ·intro hb
  rcases ho.2 with⟨rfl,_⟩|⟨g,cap,cur,rfl,hgb,hh,_⟩
  ·simp [Value.ownBlock] at hb
  ·simp [Value.ownBlock] at hb
   subst hb
   rw [hh] at e
   injection e with e
   injection e with _ e2 _
   rcases hV with hV|hV
   ·exact hne (hV.symm.trans e2.symm)
   ·omega
def All2 {α β:Type} (R:α→β→Prop):List α→List β→Prop
|[],[]=>True
|a::ps,b::bs=>R a b∧All2 R ps bs
|_,_=>False
theorem All2.mono {α β:Type} {R S:α→β→Prop} (h:∀a b,R a b→S a b):∀{ps:List α} {bs:List β},All2 R ps bs→All2 S ps bs
|[],[],_=>trivial
|_::_,_::_,⟨h1,h2⟩=>⟨h _ _ h1,All2.mono h h2⟩
theorem All2.length {α β:Type} {R:α→β→Prop}:∀{ps:List α} {bs:List β},All2 R ps bs→ps.length=bs.length
|[],[],_=>rfl
|_::_,_::_,⟨_,h2⟩=>by simp [All2.length h2]
theorem All2.append {α β:Type} {R:α→β→Prop}:∀{ps cs:List α} {bs ds:List β},All2 R ps bs→All2 R cs ds→All2 R (ps++cs) (bs++ds)
|[],_,[],_,_,h=>h
|_::_,_,_::_,_,⟨h1,h2⟩,h=>⟨h1,All2.append h2 h⟩
theorem All2.get {α β:Type} {R:α→β→Prop}:∀{ps:List α} {bs:List β} (_:All2 R ps bs) (i:Nat) (h1:i<ps.length) (h2:i<bs.length),R ps[i] bs[i]
|_::_,_::_,⟨h,_⟩,0,_,_=>h
|_::_,_::_,⟨_,h⟩,i+1,h1,h2=>All2.get h i (by simpa using h1) (by simpa using h2)
theorem QNe {α:Type} (sz:Nat):∀(l:List (List α)) (_:∀x∈l,x.length=sz) (i j:Nat) (hi:i<l.length) (_:j<sz),l.flatten[i*sz+j]? = l[i][j]?
|x::l,h,0,j,_,hj=>by
  simp only [List.flatten_cons,Nat.zero_mul,Nat.zero_add,List.getElem_cons_zero]
  rw [List.getElem?_append_left (by rw [h x (List.mem_cons_self)];exact hj)]
|x::l,h,i+1,j,hi,hj=>by
  have hx:=h x List.mem_cons_self
  simp only [List.flatten_cons,List.getElem_cons_succ]
  rw [List.getElem?_append_right (by rw [hx];rw [Nat.succ_mul];omega),hx,show(i+1)*sz+j-sz=i*sz+j from by rw [Nat.succ_mul];omega]
  exact QNe sz l (fun y hy=>h y (List.mem_cons_of_mem _ hy)) i j (by simpa using hi) hj
theorem Qed {α:Type} (sz:Nat):∀(l:List (List α)) (_:∀x∈l,x.length=sz),l.flatten.length=l.length*sz
|[],_=>by simp
|x::l,h=>by
  rw [List.flatten_cons,List.length_append,h x List.mem_cons_self,Qed sz l (fun y hy=>h y (List.mem_cons_of_mem _ hy)),List.length_cons,Nat.succ_mul];omega
theorem Qg.form {w:World} {T:TypeId} {sz:Nat} {v:Value} {xs:List Value} (h:Qg w T sz v xs):
  ∃a n c,v=.slice a n c∧xs.length=n*sz∧n≤maxLen∧n≤c∧c≤maxLen∧(0<n→∃b off,a=some ⟨b,off,none⟩∧b<w.heap.size∧True∧∀i,i<xs.length→w.cell? ⟨b,off+i,none⟩=xs[i]?):=by
 obtain⟨n,cap,h1,h2,h3,h4⟩:=h;rcases h4 with⟨⟨a,rfl⟩,rfl⟩|⟨b,off,c,fr,rfl,e2,e3⟩
 ·exact⟨a,0,0,rfl,h1,Nat.zero_le _,Nat.le_refl _,Nat.zero_le _,fun h=>by omega⟩
 ·exact⟨some ⟨b,off,none⟩,n,cap,rfl,h1,by omega,h2,h3,fun _=>⟨b,off,rfl,e2.lt,trivial,fun i hi=>by rw [←e3 i hi,e2.cell]⟩⟩
theorem QPk {w:World} {cs:List Value} {e:TypeId} (j:Nat) (u:Value) (h:cs[j]? = some u):(w.alloc (.cells cs.toArray e)).cell? ((⟨w.heap.size,0,none⟩:Addr).add j)=some u:=by
 have h2:((⟨w.heap.size,0,none⟩:Addr).add j)=⟨w.heap.size,j,none⟩:=by
  unfold Addr.add
  split
  ·rename_i h0;subst h0;rfl
  ·simp
 rw [h2,World.cell?_alloc_new]
 simpa using h
theorem QL {P:Program} {ops:Array Oper} {rest:List Oper} {o:Oper} {a:Act} {Q:Exit→Act→World→Prop} {w:World} (news:List Value) (hgd:o.guard=none) (s x:Operand) (t:TypeId)
  (ho:o.op=.call { callee:=.builtin .append,args:=#[s,x],argTypes:=#[t,t] })
  (base:Nat) (e:TypeId) (z:Value) (size bytes:Nat) (ht:P.underlying t=some (.slice e)) (hi:(P.info? e).map (fun i=>(i.zero,i.size,i.bytes))=some (some z,size,bytes))
  (hzs:z.cells.size=size) (hsz:0<size) (v:Value) (n:Nat) (xs:List Value) (hown:w.ownsRow base e size v n xs) (hs:a.eval s=v)
  (hx:a.eval x=.slice (some ⟨w.heap.size,0,none⟩) 1 1) (hl:news.length=size) (h1:news.all Value.oneCell'=true)
  (h63:n+1≤maxLen) (hbytes:(n+1)*bytes≤140737488355328) (hbase:base≤w.heap.size)
  (h:∀g cap w',w'.ownsRow base e size (.slice (some ⟨g,0,none⟩) (n+1) cap) (n+1) (xs++news)→w.grownBy w' v.ownBlock→base≤g→g<w'.heap.size →
   wpList P ops Q rest (a.put o.dst (.slice (some ⟨g,0,none⟩) (n+1) cap)) w'):
  wpList P ops Q (o::rest) a (w.alloc (.cells news.toArray e)):=by
 obtain⟨i,hi',hz,hs1,hs2⟩:=info_parts hi;refine wpList_append_lies _ hgd s x t ho base e i z size bytes ht hi' hz hs1 hs2 hzs hsz v n xs hs (hown.alloc _) ⟨w.heap.size,0,none⟩ 1 1 news hx (by omega)
  QPk (fun u hu=>List.all_eq_true.1 h1 u hu) (by omega) h63 hbytes (by simp;omega) _ rfl ?_
 intro g cap w' h2 h3 h4 h5;refine h g cap w' h2 ?_ ?_ h5
 ·have ha:=World.grownBy_alloc w (.cells news.toArray e) v.ownBlock;exact⟨h3.os.trans ha.os,h3.tape.trans ha.tape,h3.output.trans ha.output,Nat.le_trans ha.size h3.size,
   fun k hk hn=>(h3.block k (Nat.lt_of_lt_of_le hk ha.size) hn).trans (ha.block k hk hn)⟩
 ·rcases h4 with h4|h4
  ·exact(hown.lt g h4).1
  ·rw [h4];simp;omega
theorem Below.of_grown {base:Nat} {e:TypeId} {size n:Nat} {v:Value} {xs:List Value} {w w':World} (hg:w.grownBy w' v.ownBlock) (hown:w.ownsRow base e size v n xs) (hb:base≤w.heap.size):Below base w w':=
 (Below.refl base w).grown hg hb fun k hk=>(hown.lt k hk).1
theorem Qg.new {w:World} {T:TypeId} {sz:Nat} (xs:List Value) (n:Nat) (h:xs.length=n*sz) (hn:n≤maxLen):
  Qg (w.alloc (.cells xs.toArray T)) T sz (.slice (some ⟨w.heap.size,0,none⟩) n n) xs:=
 ⟨n,n,h,Nat.le_refl _,hn,.inr ⟨w.heap.size,0,xs.toArray,(0,0),rfl,.of (heap_alloc_new _ _),fun i _=>by simp⟩⟩
end
section
open Go.RowKit
variable [Base]
theorem Qz {b:Nat} {w:World} {o:Obj} (x:Obj) (hb:w.heap[b]? = some o):(w.alloc x).heap[b]? = some o:=(Below.heap_alloc w x b (Qb hb)).trans hb
theorem Qda {w:World} (a b:Obj):((w.alloc a).alloc b).heap[w.heap.size+1]? = some b:=by
 have h2:=heap_alloc_new (w.alloc a) b;rw [World.size_alloc] at h2;exact h2
theorem Qa {w:World} {b:Nat} {c:Array Value} {t:TypeId} (h:w.heap[b]? = some (.cells c t (0,0))):(∀o,w.cell? ⟨b,o,none⟩=c[o]?)∧∀o,w.frozen? ⟨b,o,none⟩=false:=
 ⟨fun o=>by simp [World.cell?,h],fun o=>by simp [World.frozen?,h]⟩
theorem Qc {B b:Nat} {w w':World} {o:Obj} (h:w.heap[b]? = some o) (hb:Below B w w') (hlt:b<B):w'.heap[b]? = some o:=(hb.block b hlt).trans h
theorem All2.eachR {α β:Type} {R:α→β→Prop} {p:α→Prop} (hp:∀a b,R a b→p a):∀{xs:List α} {ys:List β},All2 R xs ys→∀x∈xs,p x
|[],[],_=>by simp
|a::xs,b::ys,⟨h1,h2⟩=>by
  intro x hx
  rcases List.mem_cons.1 hx with rfl|hx
  ·exact hp _ _ h1
  ·exact All2.eachR hp h2 x hx
theorem All2.satR {α β:Type} {R:α→β→Prop} {xs:List α} {ys:List β} (h:All2 R xs ys) {k:Nat} {b:β} (hb:ys[k]? = some b):∃a,xs[k]? = some a∧R a b:=by
 obtain⟨h1,rfl⟩:=List.getElem?_eq_some_iff.1 hb;have h2:k<xs.length:=by rw [h.length];exact h1
 exact⟨xs[k],by simp [h2],h.get k h2 h1⟩
theorem QYg {w:World} {T:TypeId} {sz:Nat} {v:Value} {xss:List (List Value)} (h:Qg w T sz v xss.flatten) (hl:∀x∈xss,x.length=sz) (hs:0<sz):
  ∃a c,v=.slice a xss.length c∧xss.length≤maxLen∧xss.length≤c∧c≤maxLen∧∀k x,xss[k]? = some x→∃b off,a=some ⟨b,off,none⟩∧b<w.heap.size∧True∧∀j,j<sz→w.cell? ⟨b,off+k*sz+j,none⟩=x[j]?:=by
 obtain⟨a,n,c,rfl,h1,h2,h3,h4,h5⟩:=Qg.form h;rw [Qed sz xss hl] at h1;have hn:n=xss.length:=(Nat.eq_of_mul_eq_mul_right hs h1).symm;subst hn;refine⟨a,c,rfl,h2,h3,h4,fun k x hk=>?_⟩;obtain⟨hk2,rfl⟩:=List.getElem?_eq_some_iff.1 hk;obtain⟨b,off,rfl,hb,ht,hc⟩:=h5 (by omega);refine⟨b,off,rfl,hb,ht,fun j hj=>?_⟩;have hlt:k*sz+j<xss.flatten.length:=by
  rw [Qed sz xss hl];have:(k+1)*sz≤xss.length*sz:=Nat.mul_le_mul_right sz hk2;rw [Nat.succ_mul] at this;omega
 rw [Nat.add_assoc,hc _ hlt,QNe sz xss hl k j hk2 hj]
def Qia (b:Bool) (w:World) (e:Ending) (w':World):Prop:=e=.returned (.bool b)∧Below w.heap.size w w'
def IntQ (n:Int) (w:World) (e:Ending) (w':World):Prop:=e=.returned (.int .i64 n)∧Below w.heap.size w w'
theorem Qyb {a b:Bool} (h:a=b):Ending.returned (.bool a)=.returned (.bool b):=by rw [h]
theorem Qob {a b:Int} (h:a=b):Ending.returned (.int .i64 a)=.returned (.int .i64 b):=by rw [h]
theorem Qp {B:Nat} {w w':World} (h:Below B w w') (n:Nat):Below B w (w'.drewN n):=⟨h.os,h.tape,h.output,h.size,h.block⟩
end
section
open Go.RowKit
variable [Base]
abbrev uv (n:Nat):Value:=.int .u64 (n:Int)
def Qi (w:World) (v:Value) (l:List Nat):Prop:=Qg w 139 1 v (l.map uv)∧QLa l
theorem Qi.keep {w w':World} {v:Value} {l:List Nat} (h:Qi w v l) (hs:Qf 139 w w'):Qi w' v l:=⟨h.1.same hs,h.2⟩
theorem Qi.below {w w':World} {v:Value} {l:List Nat} (h:Qi w v l) (hb:Below w.heap.size w w'):Qi w' v l:=h.keep (Qf.below hb)
theorem Qi.nil {w:World}:Qi w (.slice none 0 0) []:=⟨Qg.nil,by intro x h;cases h⟩
theorem Qi.cell {w:World} {v:Value} {l:List Nat} (h:Qi w v l):∃a c,v=.slice a l.length c∧l.length≤maxLen∧l.length≤c∧c≤maxLen∧∀k x,l[k]? = some x→∃b off,a=some ⟨b,off,none⟩∧b<w.heap.size∧True∧w.cell? ⟨b,off+k,none⟩=some (uv x):=by
 obtain⟨a,n,c,rfl,h1,h2,h3,h4,h5⟩:=Qg.form h.1;simp at h1;subst h1;refine⟨a,c,rfl,h2,h3,h4,fun k x hk=>?_⟩;obtain⟨hk2,rfl⟩:=List.getElem?_eq_some_iff.1 hk;obtain⟨b,off,rfl,hb,ht,hc⟩:=h5 (by omega);refine⟨b,off,rfl,hb,ht,?_⟩;rw [hc _ (by simpa using hk2)];simp [hk2]
theorem QS {w:World} {b o:Nat} {x:Value} (c:Nat):tyAt (w.setCell ⟨b,o,none⟩ x) c=tyAt w c:=by
 unfold tyAt World.setCell;simp only [Array.getElem?_modify];by_cases h:b=c
 ·subst h;simp only [if_true]
  cases w.heap[b]? with
 |none=>rfl
 |some o=>cases o <;> rfl
 ·simp only [if_neg h]
theorem Qqa {w:World} {b g o j:Nat} {u:Value} {x:Option Value} (h:b≠g) (hc:w.cell? ⟨b,o,none⟩=x):(w.setCell ⟨g,j,none⟩ u).cell? ⟨b,o,none⟩=x:=
 (World.cell?_of_block (Below.heap_setCell _ _ _ _ h)).trans hc
end
section
open Go.RowKit
variable [Base]
abbrev setV (s:QSet) (u:Value):Value:=.agg #[.int .i64 s.width,u]
theorem QYn (n:Int) (w:World):Calls Tryz.prog 116 #[.int .i64 n] w fun e w'=>e=.returned (.bool (QEa n))∧w'=w:=by
 by_cases h1:0≤n
 ·by_cases h2:n≤256
  all_goals
   go_enter Tryz.func116,Tryz.ntmps116;go_wp2;go_ret;exact⟨by simp [QEa, *],rfl⟩
 ·go_enter Tryz.func116,Tryz.ntmps116;go_wp2;go_ret;exact⟨by simp [QEa];omega,rfl⟩
theorem QLf (n:Int) (h0:0≤n) (h1:n≤256) (w:World):Calls Tryz.prog 117 #[.int .i64 n] w fun e w'=>e=.returned (.int .i64 ((n+63) / 64))∧w'=w:=by
 go_enter Tryz.func117,Tryz.ntmps117;go_wp2;go_ret;exact⟨Qob (by omega),rfl⟩
theorem Qoq (n:Int) (h0:0≤n) (h1:n≤256) (w:World):Calls Tryz.prog 150 #[.int .i64 n] w fun e w'=>e=.returned (.int .u64 ((18446744073709551616-2 ^ (n % 64).toNat:Nat):Int))∧w'=w:=by
 have hs:=QHr (n % 64).toNat (by omega);have hw:IntKind.u64.wrap n=n:=by rw [IntKind.wrap_u64];omega
 have hn:0≤n % 64:=by omega
 have hl:n % 64<64:=by omega
 have ht:n.tmod 64=n % 64:=Int.tmod_eq_emod_of_nonneg h0;have HS:=Zh hs;clear hs;go_enter Tryz.func150,Tryz.ntmps150;go_wp2;go_ret;refine⟨?_,rfl⟩;rw [←HS.o];rfl
end
section
open Go.RowKit
variable [Base]
def Qj (m:Nat):Nat:=(m+63) / 64
def Qy (m:Nat):QSet:=⟨m,List.replicate (Qj m) 0⟩
def putS (s:QSet) (b:Nat):QSet:=⟨s.width,s.words.set (b / 64) (s.words.getD (b / 64) 0 ||| 2 ^ (b % 64))⟩
def QUb (s:QSet):Prop:=QEa s.width=true∧QId s=true∧QLa s.words
theorem QZb {m:Nat} (h:m≤256):QUb (Qy m):=by
 refine⟨by unfold QEa Qy;simp;omega,?_,?_⟩
 ·unfold QId Qy Qj;simp only [List.length_replicate,decide_eq_true_eq];omega
 ·intro x hx;have:=(List.mem_replicate.1 hx).2;omega
theorem Qka {s:QSet} (h:QUb s):∃m:Nat,s.width=m∧m≤256∧s.words.length=Qj m:=by
 obtain⟨h1,h2,_⟩:=h;unfold QEa at h1;unfold QId at h2;simp only [Bool.and_eq_true,decide_eq_true_eq] at h1 h2;obtain⟨m,hm⟩:=Int.eq_ofNat_of_zero_le h1.1;refine⟨m,hm,by omega,?_⟩;unfold Qj;omega
theorem Qxm {a b:Nat} (ha:a<18446744073709551616) (hb:b<18446744073709551616):a ||| b<18446744073709551616:=
 Nat.or_lt_two_pow (n:=64) ha hb
theorem Qjd (b:Nat):2 ^ (b % 64)<18446744073709551616:=by
 have:2 ^ (b % 64)<2 ^ 64:=Nat.pow_lt_pow_right (by decide) (by omega);omega
theorem Qnd {s:QSet} (h:QUb s) (b:Nat):QUb (putS s b):=by
 obtain⟨h1,h2,h3⟩:=h;refine⟨h1,by unfold QId putS at *;simpa using h2,?_⟩;intro x hx;rcases List.mem_or_eq_of_mem_set hx with hx|rfl
 ·exact h3 x hx
 ·refine Qxm ?_ (Qjd b);rw [List.getD_eq_getElem?_getD];rcases Nat.lt_or_ge (b / 64) s.words.length with hb|hb
  ·rw [List.getElem?_eq_getElem hb];exact h3 _ (List.getElem_mem _)
  ·rw [List.getElem?_eq_none hb];decide
def OwnS (B:Nat) (w:World) (u:Value) (s:QSet):Prop:=
 ∃g,u=.slice (some ⟨g,0,none⟩) s.words.length s.words.length∧B≤g∧w.heap[g]? = some (.cells (s.words.map uv).toArray 139 (0,0))∧QUb s
def Qht (s:QSet) (w:World) (e:Ending) (w':World):Prop:=∃u,e=.returned (setV s u)∧OwnS w.heap.size w' u s∧Below w.heap.size w w'
theorem OwnS.words {B:Nat} {w:World} {u:Value} {s:QSet} (h:OwnS B w u s):Qi w u s.words:=by
 obtain⟨g,rfl,_,hg,hf⟩:=h;refine⟨⟨s.words.length,s.words.length,by simp,Nat.le_refl _,?_,.inr ⟨g,0,_,_,rfl,.of hg,fun i hi=>by simp⟩⟩,hf.2.2⟩;obtain⟨m,_,h1,h2⟩:=Qka hf;rw [h2];unfold Qj maxLen;omega
theorem OwnS.mono {B C:Nat} {w:World} {u:Value} {s:QSet} (h:OwnS B w u s) (hb:C≤B):OwnS C w u s:=by
 obtain⟨g,rfl,h1,hg,hf⟩:=h;exact⟨g,rfl,Nat.le_trans hb h1,hg,hf⟩
def zc (k:Nat):Array Value:=(List.replicate k (uv 0)).toArray
theorem QZq:(Tryz.prog.info? 139).map (fun i=>(i.zero,i.size,i.bytes))=some (some (Value.int .u64 0),1,8):=by kernel_rfl
theorem QTd (k:Nat) (hk:k≤1000) (q:Int) (hq:q=k) (w:World):
  (Instr.makeSlice 50 (.int .i64 q) (.int .i64 q)).run Tryz.prog w=.ok (.slice (some ⟨w.heap.size,0,none⟩) k k) (w.alloc (.cells (zc k) 139)):=by
 subst hq;obtain⟨i,hi,hz,hs1,hs2⟩:=info_parts QZq;have h:=run_makeSlice (P:=Tryz.prog) w 50 139 i _ Tryz.underlying50 hi hz .i64 .i64 (k:Int) (k:Int) (by omega) (Int.le_refl _) (by rw [hs1];omega) (by rw [hs2];omega) (by omega);rw [h,hs1];simp only [Int.toNat_natCast,Nat.mul_one]
 congr 3
 unfold zc madeCells;apply Array.ext
 ·simp [Value.cells]
 ·intro j h1 h2;simp [Value.cells,Nat.mod_one]
end
section
def pop:Nat→Nat→Nat
|0,_=>0
|n+1,x=>x % 2+pop n (x / 2)
def repB:Nat→Nat→Nat
|0,_=>0
|n+1,c=>c+256*repB n c
theorem QMh (n c:Nat):repB (n+1) c=c+256*repB n c:=rfl
theorem QXe (n x:Nat):pop (n+1) x=x % 2+pop n (x / 2):=rfl
theorem Qaj (x:Nat):x=x % 256+256*(x / 256):=by omega
theorem Qgf (a c0 c1:Nat) (h:c0<256):a &&& (c0+256*c1)=(a % 256 &&& c0)+256*(a / 256 &&& c1):=by
 have h1:=Qaj (a &&& (c0+256*c1));have h2:(a &&& (c0+256*c1)) % 256=(a % 256 &&& c0):=by
  have:=@Nat.and_mod_two_pow a (c0+256*c1) 8;rw [show 2 ^ 8=256 from rfl] at this;rw [this,show(c0+256*c1) % 256=c0 by omega]
 have h3:(a &&& (c0+256*c1)) / 256=(a / 256 &&& c1):=by
  have:=@Nat.and_div_two_pow a (c0+256*c1) 8;rw [show 2 ^ 8=256 from rfl] at this;rw [this,show(c0+256*c1) / 256=c1 by omega]
 rw [h2,h3] at h1;exact h1
def s1 (b:Nat):Nat:=(b / 2 &&& 85)+(b &&& 85)
def s2 (b:Nat):Nat:=(b / 4 &&& 51)+(b &&& 51)
def A1 (n x:Nat):Nat:=(x / 2 &&& repB n 85)+(x &&& repB n 85)
def A2 (n x:Nat):Nat:=(x / 4 &&& repB n 51)+(x &&& repB n 51)
def A3 (n x:Nat):Nat:=(x / 16+x) &&& repB n 15
theorem and85:∀b<128,∀e<2,(b+128*e) &&& 85=b &&& 85:=by decide
theorem and51:∀b<64,∀e<4,(b+64*e) &&& 51=b &&& 51:=by decide +kernel
theorem Qcq (n b y:Nat) (hb:b<256):A1 (n+1) (b+256*y)=s1 b+256*A1 n y:=by
 unfold A1 s1;rw [QMh];rw [Qgf _ _ _ (by decide),Qgf _ _ _ (by decide)];have e1:(b+256*y) / 2 % 256=b / 2+128*(y % 2):=by omega
 have e2:(b+256*y) / 2 / 256=y / 2:=by omega
 have e3:(b+256*y) % 256=b:=by omega
 have e4:(b+256*y) / 256=y:=by omega
 rw [e1,e2,e3,e4,and85 _ (by omega) _ (by omega),Nat.mul_add];omega
theorem Qbq (n b y:Nat) (hb:b<256):A2 (n+1) (b+256*y)=s2 b+256*A2 n y:=by
 unfold A2 s2;rw [QMh];rw [Qgf _ _ _ (by decide),Qgf _ _ _ (by decide)];have e1:(b+256*y) / 4 % 256=b / 4+64*(y % 4):=by omega
 have e2:(b+256*y) / 4 / 256=y / 4:=by omega
 have e3:(b+256*y) % 256=b:=by omega
 have e4:(b+256*y) / 256=y:=by omega
 rw [e1,e2,e3,e4,and51 _ (by omega) _ (by omega),Nat.mul_add];omega
theorem QTt (n b y:Nat) (h1:b % 16≤4) (h2:b / 16≤4) (h3:y % 16≤4):A3 (n+1) (b+256*y)=(b / 16+b % 16)+256*A3 n y:=by
 unfold A3;rw [QMh];rw [Qgf _ _ _ (by decide)];have e1:((b+256*y) / 16+(b+256*y)) % 256=b / 16+b+16*(y % 16):=by omega
 have e2:((b+256*y) / 16+(b+256*y)) / 256=y / 16+y:=by omega
 rw [e1,e2];have e3:(b / 16+b+16*(y % 16)) &&& 15=b / 16+b % 16:=by
  have:=Nat.and_two_pow_sub_one_eq_mod (b / 16+b+16*(y % 16)) 4;rw [show 2 ^ 4-1=15 from rfl,show 2 ^ 4=16 from rfl] at this;rw [this];omega
 rw [e3]
theorem QVp:∀b<256,s1 b<256∧s2 (s1 b)<256∧s2 (s1 b) % 16≤4∧s2 (s1 b) / 16≤4∧s2 (s1 b) / 16+s2 (s1 b) % 16=pop 8 b:=by decide +kernel
def sums:Nat→Nat→Nat
|0,_=>0
|n+1,x=>pop 8 (x % 256)+256*sums n (x / 256)
theorem QIu (n x:Nat) (hx:x<256 ^ n):A2 n (A1 n x) % 16≤4:=by
 cases n with
|zero=>
  obtain rfl:x=0:=by simpa using hx
  decide
|succ n=>
  have h:=QVp (x % 256) (Nat.mod_lt _ (by decide));rw [Qaj x,Qcq n _ _ (Nat.mod_lt _ (by decide)),Qbq n _ _ h.1];have:=h.2.2.1;omega
theorem QZt:∀(n x:Nat),x<256 ^ n→A3 n (A2 n (A1 n x))=sums n x
|0,x,h=>by
  obtain rfl:x=0:=by simpa using h
  decide
|n+1,x,h=>by
  have hb:=QVp (x % 256) (Nat.mod_lt _ (by decide))
  have hx:x / 256<256 ^ n:=by rw [Nat.div_lt_iff_lt_mul (by decide)];rw [Nat.pow_succ] at h;exact h
  have hm:=QIu n (x / 256) hx
  conv=>lhs;rw [Qaj x]
  rw [Qcq n _ _ (Nat.mod_lt _ (by decide)),Qbq n _ _ hb.1,QTt n _ _ hb.2.2.1 hb.2.2.2.1 hm,hb.2.2.2.2,QZt n _ hx]
  rfl
theorem Qqf:∀n x,pop n x≤n
|0,_=>Nat.le_refl _
|n+1,x=>by have:=Qqf n (x / 2);rw [QXe];omega
theorem Qyp:∀(n m x:Nat),pop (n+m) x=pop n x+pop m (x / 2 ^ n)
|0,m,x=>by simp [pop]
|n+1,m,x=>by
  rw [show n+1+m=(n+m)+1 by omega,QXe,QXe,Qyp n m (x / 2),Nat.div_div_eq_div_mul,show 2*2 ^ n=2 ^ (n+1) by rw [Nat.pow_succ];omega]
  omega
theorem Qwp:∀(n x:Nat),pop n (x % 2 ^ n)=pop n x
|0,x=>rfl
|n+1,x=>by
  rw [QXe,QXe]
  have h1:x % 2 ^ (n+1) % 2=x % 2:=by
   rw [Nat.pow_succ,Nat.mul_comm];exact Nat.mod_mul_right_mod x 2 (2 ^ n)
  have h2:x % 2 ^ (n+1) / 2=x / 2 % 2 ^ n:=by
   rw [Nat.pow_succ,Nat.mul_comm];exact Nat.mod_mul_right_div_self x 2 (2 ^ n)
  rw [h1,h2,Qwp n (x / 2)]
def QFk (x:Nat):Nat:=
 let a:=x+x / 256
 let b:=a+a / 65536
 let c:=b+b / 4294967296
 c % 128
theorem QNo (p0 p1 p2 p3 p4 p5 p6 p7:Nat) (l0:p0≤8) (l1:p1≤8) (l2:p2≤8) (l3:p3≤8) (l4:p4≤8) (l5:p5≤8) (l6:p6≤8) (l7:p7≤8):
  QFk (p0+256*(p1+256*(p2+256*(p3+256*(p4+256*(p5+256*(p6+256*p7)))))))=p0+p1+p2+p3+p4+p5+p6+p7:=by
 have dv:∀v R:Nat,v<256→(v+256*R) / 256=R:=fun v R h=>by omega
 have u0:p0<256:=by omega
 have u1:p0+p1<256:=by omega
 have u2:p1+p2<256:=by omega
 have u3:p0+p1+p2+p3<256:=by omega
 have u4:p1+p2+p3+p4<256:=by omega
 have u5:p2+p3+p4+p5<256:=by omega
 have u6:p3+p4+p5+p6<256:=by omega
 have u7:p0+p1+p2+p3+p4+p5+p6+p7<128:=by omega
 clear l0 l1 l2 l3 l4 l5 l6 l7;obtain⟨X,hX⟩:=Ze (p0+256*(p1+256*(p2+256*(p3+256*(p4+256*(p5+256*(p6+256*p7)))))));have x1:X / 256=p1+256*(p2+256*(p3+256*(p4+256*(p5+256*(p6+256*p7))))):=by rw [←hX];exact dv _ _ u0
 have ha:X+X / 256=(p0+p1)+256*((p1+p2)+256*((p2+p3)+256*((p3+p4)+256*((p4+p5)+256*((p5+p6)+256*((p6+p7)+256*p7)))))):=by rw [x1,←hX];clear hX x1 dv u0 u1 u2 u3 u4 u5 u6 u7;omega
 obtain⟨Y,hY⟩:=Ze (X+X / 256);rw [hY] at ha;have h2:Y / 65536=(p2+p3)+256*((p3+p4)+256*((p4+p5)+256*((p5+p6)+256*((p6+p7)+256*p7)))):=by
  have e:Y / 65536=Y / 256 / 256:=by simp only [Nat.div_div_eq_div_mul,Nat.reduceMul]
  have d1:=dv (p0+p1) ((p1+p2)+256*((p2+p3)+256*((p3+p4)+256*((p4+p5)+256*((p5+p6)+256*((p6+p7)+256*p7)))))) u1;have d2:=dv (p1+p2) ((p2+p3)+256*((p3+p4)+256*((p4+p5)+256*((p5+p6)+256*((p6+p7)+256*p7))))) u2;rw [e,ha,d1,d2]
 have hb:Y+Y / 65536=(p0+p1+p2+p3)+256*((p1+p2+p3+p4)+256*((p2+p3+p4+p5)+256*((p3+p4+p5+p6)+256*((p4+p5+p6+p7)+256*((p5+p6+p7)+256*((p6+p7)+256*p7)))))):=by rw [h2,ha];clear h2 ha hX hY x1 dv u0 u1 u2 u3 u4 u5 u6 u7;omega
 obtain⟨Z,hZ⟩:=Ze (Y+Y / 65536);rw [hZ] at hb;have h4:Z / 4294967296=(p4+p5+p6+p7)+256*((p5+p6+p7)+256*((p6+p7)+256*p7)):=by
  have e:Z / 4294967296=Z / 256 / 256 / 256 / 256:=by simp only [Nat.div_div_eq_div_mul,Nat.reduceMul]
  have d1:=dv (p0+p1+p2+p3) ((p1+p2+p3+p4)+256*((p2+p3+p4+p5)+256*((p3+p4+p5+p6)+256*((p4+p5+p6+p7)+256*((p5+p6+p7)+256*((p6+p7)+256*p7)))))) u3;have d2:=dv (p1+p2+p3+p4) ((p2+p3+p4+p5)+256*((p3+p4+p5+p6)+256*((p4+p5+p6+p7)+256*((p5+p6+p7)+256*((p6+p7)+256*p7))))) u4;have d3:=dv (p2+p3+p4+p5) ((p3+p4+p5+p6)+256*((p4+p5+p6+p7)+256*((p5+p6+p7)+256*((p6+p7)+256*p7)))) u5;have d4:=dv (p3+p4+p5+p6) ((p4+p5+p6+p7)+256*((p5+p6+p7)+256*((p6+p7)+256*p7))) u6;rw [e,hb,d1,d2,d3,d4]
 have hc:(Z+Z / 4294967296) % 128=p0+p1+p2+p3+p4+p5+p6+p7:=by
  rw [h4,hb];clear hX hY hZ ha hb h2 h4 x1 dv u0 u1 u2 u3 u4 u5 u6;omega
 unfold QFk;dsimp only;rw [hX,hY,hZ];exact hc
theorem pop64 (x:Nat):pop 64 x=pop 8 x+(pop 8 (x / 256)+(pop 8 (x / 256 / 256)+(pop 8 (x / 256 / 256 / 256)+(pop 8 (x / 256 / 256 / 256 / 256)+(pop 8 (x / 256 / 256 / 256 / 256 / 256)+(pop 8 (x / 256 / 256 / 256 / 256 / 256 / 256)+pop 8 (x / 256 / 256 / 256 / 256 / 256 / 256 / 256))))))):=by
 have h:∀m y,pop (8+m) y=pop 8 y+pop m (y / 256):=fun m y=>Qyp 8 m y
 rw [show 64=8+56 from rfl,h,show 56=8+48 from rfl,h,show 48=8+40 from rfl,h,show 40=8+32 from rfl,h,show 32=8+24 from rfl,h,show 24=8+16 from rfl,h,show 16=8+8 from rfl,h]
theorem QSr (x:Nat):pop 8 (x % 256)=pop 8 x:=Qwp 8 x
theorem QVc (n x:Nat):sums (n+1) x=pop 8 (x % 256)+256*sums n (x / 256):=rfl
theorem Qfr (x:Nat):QFk (sums 8 x)=pop 64 x:=by
 rw [QVc,QVc,QVc,QVc,QVc,QVc,QVc,QVc,show ∀y,sums 0 y=0 from fun _=>rfl,Nat.mul_zero,Nat.add_zero];simp only [QSr];rw [QNo _ _ _ _ _ _ _ _ (Qqf 8 _) (Qqf 8 _) (Qqf 8 _) (Qqf 8 _) (Qqf 8 _) (Qqf 8 _) (Qqf 8 _) (Qqf 8 _),pop64];omega
theorem Qyt (x:Nat) (hx:x<18446744073709551616):QFk (A3 8 (A2 8 (A1 8 x)))=pop 64 x:=by
 rw [QZt 8 x (by simpa using hx),Qfr]
end
section
variable [Base]
theorem QPt {l m:List Nat} (hl:l.length=m.length) (h1:QLa l) (h2:QLa m) (h:∀b,b<64*l.length→QE l b=QE m b):l=m:=by
 refine List.ext_getElem hl fun i hi hj=>?_
 refine Nat.eq_of_testBit_eq fun k=>?_
 by_cases hk:k<64
 ·have h3:=h (64*i+k) (by omega);unfold QE at h3;rw [show(64*i+k) / 64=i by omega,show(64*i+k) % 64=k by omega] at h3
  simpa [List.getD_eq_getElem?_getD,hi,hj] using h3
 ·have e:∀x,x<18446744073709551616→x.testBit k=false:=fun x hx=>Nat.testBit_lt_two_pow (Nat.lt_of_lt_of_le hx (Nat.pow_le_pow_right (n:=2) (by decide) (show 64≤k by omega)))
  rw [e _ (h1 _ (List.getElem_mem _)),e _ (h2 _ (List.getElem_mem _))]
theorem QOt {l:List Nat} {b:Nat} (h:64*l.length≤b):QE l b=false:=by
 unfold QE;rw [List.getD_eq_getElem?_getD,List.getElem?_eq_none (by omega)];simp
theorem QVs (k b:Nat):QE (List.replicate k 0) b=false:=by
 unfold QE;rw [List.getD_eq_getElem?_getD,List.getElem?_replicate]
 split <;> simp
theorem QNt {l:List Nat} {k b:Nat} (hk:k / 64<l.length):QE (l.set (k / 64) (l.getD (k / 64) 0 ||| 2 ^ (k % 64))) b=(QE l b||decide (b=k)):=by
 unfold QE;rw [List.getD_eq_getElem?_getD,List.getD_eq_getElem?_getD,List.getElem?_set];by_cases h:k / 64=b / 64
 ·rw [if_pos h,if_pos (by omega)];simp only [Option.getD_some];rw [Nat.testBit_or,Nat.testBit_two_pow,←h,List.getD_eq_getElem?_getD]
  congr 1
  rw [Bool.eq_iff_iff];simp only [decide_eq_true_eq];omega
 ·rw [if_neg h];have:¬b=k:=by intro e;subst e;exact h rfl
  simp [this,List.getD_eq_getElem?_getD]
theorem QBa {s:QSet} (h:setB s=true) (hw:QLa s.words):QUb s:=by
 unfold setB at h;simp only [Bool.and_eq_true] at h;exact⟨h.1,h.2.1,hw⟩
theorem Qge {s:QSet} (h:setB s=true) (hw:QLa s.words) {b:Nat} (hb:s.width≤b):QE s.words b=false:=by
 have h':=h;unfold setB at h;simp only [Bool.and_eq_true] at h;have h0:0≤s.width:=by
  have:=h.1;unfold QEa at this;simp only [Bool.and_eq_true,decide_eq_true_eq] at this;exact this.1
 rcases Nat.lt_or_ge b (64*s.words.length) with hl|hl
 ·exact(QFh hw h0 h.2.1).1 h.2.2 b hb hl
 ·exact QOt hl
theorem QQg {s:QSet} (h:QUb s) (ht:∀b:Nat,s.width≤b→QE s.words b=false):setB s=true:=by
 unfold setB;obtain⟨h1,h2,h3⟩:=h;have h0:0≤s.width:=by
  unfold QEa at h1;simp only [Bool.and_eq_true,decide_eq_true_eq] at h1;exact h1.1
 rw [h1,h2,(QFh h3 h0 h2).2 fun b hb _=>ht b hb];rfl
theorem Qrp {s t:QSet} (hw:s.width=t.width) (hs:QUb s) (ht:QUb t) (h:∀b:Nat,QE s.words b=QE t.words b):s=t:=by
 obtain⟨m,e1,_,e2⟩:=Qka hs;obtain⟨n,e3,_,e4⟩:=Qka ht;have hmn:m=n:=by omega
 cases s
 cases t
 simp only [QSet.mk.injEq] at *;exact⟨hw,QPt (by rw [e2,e4,hmn]) hs.2.2 ht.2.2 fun b _=>h b⟩
theorem Qah {s:QSet} (hf:QUb s) {k:Nat} (hk:(k:Int)<s.width) (b:Nat):QE (putS s k).words b=(QE s.words b||decide (b=k)):=by
 obtain⟨m,e1,_,e2⟩:=Qka hf;exact QNt (by rw [e2];unfold Qj;omega)
theorem QNb (m b:Nat):QE (Qy m).words b=false:=QVs _ _
theorem QUm {m:Nat} (h:m≤256):setB (Qy m)=true:=QQg (QZb h) fun b _=>QNb m b
theorem QPr {s:QSet} (h:setB s=true) (hw:QLa s.words) {k:Nat} (hk:(k:Int)<s.width):setB (putS s k)=true:=by
 refine QQg (Qnd (QBa h hw) k) fun b hb=>?_
 rw [Qah (QBa h hw) hk,Qge h hw hb];have:¬b=k:=by
  have hb':s.width≤(b:Int):=hb;omega
 simp [this]
def QMb (m i:Nat):QSet:=(List.range i).foldl putS (Qy m)
theorem QFf (m i:Nat):QMb m (i+1)=putS (QMb m i) i:=by unfold QMb;rw [List.range_succ,List.foldl_append];rfl
theorem QMe {m:Nat} (h:m≤256):∀i,QUb (QMb m i)∧(QMb m i).width=m
|0=>⟨QZb h,rfl⟩
|i+1=>by
  rw [QFf]
  exact⟨Qnd (QMe h i).1 i,(QMe h i).2⟩
theorem QFj {m:Nat} (h:m≤256):∀i,i≤m→∀b,QE (QMb m i).words b=decide (b<i)
|0,_,b=>by rw [show QMb m 0=Qy m from rfl,QNb];simp
|i+1,hi,b=>by
  have hf:=QMe h i
  rw [QFf,Qah hf.1 (by rw [hf.2];omega),QFj h i (by omega) b]
  rw [Bool.eq_iff_iff]
  simp
  omega
def ofGo (m:Nat):List Int→QSet→QSet×Int
|[],s=>(s,0)
|b::l,s=>if b<0∨(m:Int)≤b then (⟨0,[]⟩,3) else ofGo m l (putS s b.toNat)
def ofS (w:Int) (l:List Int):QSet×Int:=if 0≤w∧w≤256 then ofGo w.toNat l (Qy w.toNat) else (⟨0,[]⟩,3)
def zipS (f:Nat→Nat→Nat) (s t:QSet):QSet:=⟨s.width,List.zipWith f s.words t.words⟩
theorem QXk {f:Nat→Nat→Nat} {g:Bool→Bool→Bool} (hfg:∀a b k,(f a b).testBit k=g (a.testBit k) (b.testBit k)) {l m:List Nat} (hl:l.length=m.length) (h0:g false false=false) (b:Nat):QE (List.zipWith f l m) b=g (QE l b) (QE m b):=by
 unfold QE;simp only [List.getD_eq_getElem?_getD,List.getElem?_zipWith];rcases Nat.lt_or_ge (b / 64) l.length with h|h
 ·rw [List.getElem?_eq_getElem h,List.getElem?_eq_getElem (by omega)];exact hfg _ _ _
 ·rw [List.getElem?_eq_none h,List.getElem?_eq_none (by omega)];simp [h0]
theorem Qcp (a b k:Nat):(a ||| b).testBit k=(a.testBit k||b.testBit k):=Nat.testBit_or ..
def clr (a b:Nat):Nat:=a ^^^ (a &&& b)
theorem QAl (a b k:Nat):(clr a b).testBit k=(a.testBit k&&!b.testBit k):=by
 unfold clr;rw [Nat.testBit_xor,Nat.testBit_and]
 cases a.testBit k <;> cases b.testBit k <;> rfl
theorem Qvl {a b:Nat} (ha:a<18446744073709551616):clr a b<18446744073709551616:=by
 unfold clr;exact Nat.xor_lt_two_pow (n:=64) ha (Nat.lt_of_le_of_lt Nat.and_le_left ha)
theorem Qee {f:Nat→Nat→Nat} (hf:∀a b,a<18446744073709551616→b<18446744073709551616→f a b<18446744073709551616) {s t:QSet} (hs:QUb s) (ht:QUb t) (hw:s.width=t.width):QUb (zipS f s t)∧s.words.length=t.words.length:=by
 obtain⟨m,e1,_,e2⟩:=Qka hs;obtain⟨n,e3,_,e4⟩:=Qka ht;have hmn:m=n:=by omega
 have hl:s.words.length=t.words.length:=by rw [e2,e4,hmn]
 refine⟨⟨hs.1,?_,?_⟩,hl⟩
 ·have:=hs.2.1;unfold QId zipS at *;simp only [List.length_zipWith,←hl,Nat.min_self];exact this
 ·intro x hx;obtain⟨i,hi⟩:=List.mem_iff_getElem?.1 hx;rw [zipS,List.getElem?_zipWith] at hi
  cases h1:s.words[i]? with
 |none=>simp [h1] at hi
 |some a=>
   cases h2:t.words[i]? with
  |none=>simp [h1,h2] at hi
  |some b=>
    simp [h1,h2] at hi;rw [←hi];exact hf a b (hs.2.2 a (List.mem_of_getElem? h1)) (ht.2.2 b (List.mem_of_getElem? h2))
theorem Qzr {f:Nat→Nat→Nat} {g:Bool→Bool→Bool} (hfg:∀a b k,(f a b).testBit k=g (a.testBit k) (b.testBit k)) (hlt:∀a b,a<18446744073709551616→b<18446744073709551616→f a b<18446744073709551616) (h0:g false false=false)
  {s t:QSet} (hs:setB s=true) (ht:setB t=true) (ws:QLa s.words) (wt:QLa t.words) (hw:s.width=t.width):setB (zipS f s t)=true:=by
 have fs:=QBa hs ws;have ft:=QBa ht wt;have hz:=Qee hlt fs ft hw;refine QQg hz.1 fun b hb=>?_
 rw [show(zipS f s t).words=List.zipWith f s.words t.words from rfl,QXk hfg hz.2 h0,Qge hs ws (b:=b) hb,Qge ht wt (b:=b) (by rw [←hw];exact hb),h0]
end
section
variable [Base]
structure Ok (m:Nat) (s:QSet):Prop where
 form:QUb s
 ok:setB s=true
 width:s.width=(m:Int)
theorem Ok.le {m:Nat} {s:QSet} (h:Ok m s):m≤256:=by
 obtain⟨k,h1,h2,-⟩:=Qka h.form;have:=h.width;omega
theorem Ok.words {m:Nat} {s:QSet} (h:Ok m s):QLa s.words:=h.form.2.2
theorem Ok.ext {m:Nat} {s t:QSet} (h:Ok m s) (k:Ok m t) (hb:∀b:Nat,QE s.words b=QE t.words b):s=t:=Qrp (h.width.trans k.width.symm) h.form k.form hb
theorem QOp {m:Nat} (h:m≤256):Ok m (QMb m m)∧∀b:Nat,QE (QMb m m).words b=decide (b<m):=by
 have hf:=QMe h m;have hb:=QFj h m (Nat.le_refl _);refine⟨⟨hf.1,QQg hf.1 fun b hb2=>?_,hf.2⟩,hb⟩;rw [hb];rw [hf.2] at hb2;simp;omega
theorem Ok.tail {m:Nat} {s:QSet} (h:Ok m s) {b:Nat} (hb:m≤b):QE s.words b=false:=Qge h.ok h.words (by rw [h.width];omega)
theorem QOb {m:Nat} (h:m≤256):Ok m (Qy m):=⟨QZb h,QUm h,rfl⟩
theorem Ok.put {m:Nat} {s:QSet} (h:Ok m s) {k:Nat} (hk:k<m):Ok m (putS s k)∧∀b,QE (putS s k).words b=(QE s.words b||decide (b=k)):=
 ⟨⟨Qnd h.form k,QPr h.ok h.words (by rw [h.width];omega),h.width⟩,fun b=>Qah h.form (by rw [h.width];omega) b⟩
def mkTo (m:Nat) (f:Nat→Bool) (i:Nat):QSet:=(List.range i).foldl (fun a k=>if f k=true then putS a k else a) (Qy m)
def mkS (m:Nat) (f:Nat→Bool):QSet:=mkTo m f m
theorem QPq (m:Nat) (f:Nat→Bool) (i:Nat):mkTo m f (i+1)=if f i=true then putS (mkTo m f i) i else mkTo m f i:=by
 unfold mkTo;rw [List.range_succ,List.foldl_append];rfl
theorem Qkl {m:Nat} {f:Nat→Bool} (h:m≤256):∀i,i≤m→Ok m (mkTo m f i)∧∀b,QE (mkTo m f i).words b=(decide (b<i)&&f b)
|0,_=>⟨QOb h,fun b=>by rw [show mkTo m f 0=Qy m from rfl,QNb];simp⟩
|i+1,hi=>by
  obtain⟨h1,h2⟩:=Qkl (f:=f) h i (by omega)
  rw [QPq]
  split
  ·rename_i hf
   obtain⟨h3,h4⟩:=h1.put (k:=i) (by omega)
   refine⟨h3,fun b=>?_⟩
   rw [h4,h2]
   by_cases hb:b=i
   ·subst hb;simp [hf]
   ·have e:decide (b<i+1)=decide (b<i):=by rw [Bool.eq_iff_iff];simp;omega
    simp [hb,e]
  ·rename_i hf
   refine⟨h1,fun b=>?_⟩
   rw [h2]
   by_cases hb:b=i
   ·subst hb;simp [hf]
   ·have e:decide (b<i+1)=decide (b<i):=by rw [Bool.eq_iff_iff];simp;omega
    rw [e]
theorem QIb {m:Nat} (f:Nat→Bool) (h:m≤256):Ok m (mkS m f):=(Qkl h m (Nat.le_refl _)).1
theorem Qpb {m:Nat} (f:Nat→Bool) (h:m≤256) (b:Nat):QE (mkS m f).words b=(decide (b<m)&&f b):=(Qkl h m (Nat.le_refl _)).2 b
theorem Qad {m:Nat} {f g:Nat→Bool} (h:m≤256) (e:∀b,b<m→f b=g b):mkS m f=mkS m g:=
 (QIb f h).ext (QIb g h) fun b=>by
  rw [Qpb f h,Qpb g h]
  by_cases hb:b<m
  ·rw [e b hb]
  ·simp [hb]
theorem Qcj {s:QSet} (h:setB s=true) (hw:QLa s.words):∃m:Nat,s.width=m∧Ok m s:=by
 obtain⟨m,h1,-,-⟩:=Qka (QBa h hw);exact⟨m,h1,QBa h hw,h,h1⟩
end
section
variable [Base]
abbrev Cp:=Int×Int
structure Qw where
 gen:QSet
 kill:QSet
 cops:List Cp
deriving DecidableEq
def befC (a b:Cp):Bool:=decide (a.1<b.1)||(decide (a.1=b.1)&&decide (a.2<b.2))
def inC (w:Int) (c:Cp):Bool:=(decide (0≤c.1)&&decide (c.1<w))&&(decide (0≤c.2)&&decide (c.2<w))
def Qnc (w:Int):Option Cp→List Cp→Bool
|_,[]=>true
|p,c::r=>(inC w c&&(match p with|none=>true|some q=>befC q c))&&Qnc w (some c) r
def Qtd (t:Qw):Bool:=setB t.gen&&(setB t.kill&&(decide (t.gen.width=t.kill.width)&&(decide (t.cops.length≤64)&&Qnc t.gen.width none t.cops)))
def QSi (t:Qw):Prop:=QLa t.gen.words∧QLa t.kill.words
def folB (t:Qw) (a b:Nat):Bool:=(decide (a=b)&&!QE t.kill.words a)||decide (((a:Int),(b:Int))∈t.cops)
theorem QMj {w:Int}:∀{l:List Cp} {p:Option Cp},Qnc w p l=true→∀c∈l,inC w c=true
|[],_,_,c,hc=>by cases hc
|d::r,p,h,c,hc=>by
  unfold Qnc at h
  simp only [Bool.and_eq_true] at h
  rcases List.mem_cons.1 hc with rfl|hc
  ·exact h.1.1
  ·exact QMj h.2 c hc
structure OkT (m:Nat) (t:Qw):Prop where
 gen:Ok m t.gen
 kill:Ok m t.kill
 len:t.cops.length≤64
 cops:Qnc m none t.cops=true
theorem QRi {t:Qw} (h:Qtd t=true) (hw:QSi t):∃m:Nat,t.gen.width=m∧OkT m t:=by
 unfold Qtd at h;simp only [Bool.and_eq_true,decide_eq_true_eq] at h;obtain⟨h1,h2,h3,h4,h5⟩:=h;obtain⟨m,e,hg⟩:=Qcj h1 hw.1;obtain⟨k,e2,hk⟩:=Qcj h2 hw.2;have:k=m:=by omega
 subst this;exact⟨k,e,hg,hk,h4,by rw [←e];exact h5⟩
theorem OkT.b {m:Nat} {t:Qw} (h:OkT m t):Qtd t=true:=by
 unfold Qtd;rw [h.gen.ok,h.kill.ok,h.gen.width,h.kill.width,h.cops];simp [h.len]
theorem OkT.w {m:Nat} {t:Qw} (h:OkT m t):QSi t:=⟨h.gen.words,h.kill.words⟩
theorem OkT.mem {m:Nat} {t:Qw} (h:OkT m t) {c:Cp} (hc:c∈t.cops):∃a b:Nat,c=((a:Int),(b:Int))∧a<m∧b<m:=by
 have:=QMj h.cops c hc;unfold inC at this;simp only [Bool.and_eq_true,decide_eq_true_eq] at this;obtain⟨x,y⟩:=c;obtain⟨a,rfl⟩:=Int.eq_ofNat_of_zero_le this.1.1;obtain⟨b,rfl⟩:=Int.eq_ofNat_of_zero_le this.2.1;have h1:(a:Int)<m:=this.1.2;have h2:(b:Int)<m:=this.2.2;exact⟨a,b,rfl,by omega,by omega⟩
def valB (t:Qw) (m:Nat) (s:QSet) (b:Nat):Bool:=QE t.gen.words b||(List.range m).any fun a=>QE s.words a&&folB t a b
def valS (t:Qw) (m:Nat) (s:QSet):QSet:=mkS m (valB t m s)
def QSc (t:Qw) (s:QSet):QSet×Int:=if Qtd t=false∨setB s=false then (⟨0,[]⟩,1) else if t.gen.width≠s.width then (⟨0,[]⟩,2) else (valS t s.width.toNat s,0)
theorem Qlt {m:Nat} {t:Qw} {s:QSet} (ht:OkT m t) (hs:Ok m s) (b:Nat):
  valB t m s b=(((QE s.words b&&!QE t.kill.words b)||QE t.gen.words b)||t.cops.any fun c=>decide (c.2=(b:Int))&&QE s.words c.1.toNat):=by
 rw [Bool.eq_iff_iff];unfold valB folB;simp only [Bool.or_eq_true,List.any_eq_true,List.mem_range,Bool.and_eq_true,decide_eq_true_eq,Bool.not_eq_true'];constructor
 ·rintro(h|⟨a,ha,h1,h2⟩)
  ·exact .inl (.inr h)
  ·rcases h2 with⟨rfl,h2⟩|h2
   ·exact .inl (.inl ⟨h1,h2⟩)
   ·exact .inr ⟨_,h2,rfl,by simpa using h1⟩
 ·rintro((⟨h1,h2⟩|h)|⟨c,hc,h1,h2⟩)
  ·refine .inr ⟨b,?_,h1,.inl ⟨rfl,h2⟩⟩;rcases Nat.lt_or_ge b m with h|h
   ·exact h
   ·rw [hs.tail h] at h1;cases h1
  ·exact .inl h
  ·obtain⟨x,y,rfl,hx,hy⟩:=ht.mem hc;have e:y=b:=by have h1:(y:Int)=(b:Int):=h1;omega
   subst e;exact .inr ⟨x,hx,by simpa using h2,.inr hc⟩
def rowC (t:Qw) (m a:Nat):List Cp:=((List.range m).filter fun b=>decide (a≠b)&&(folB t a b&&!QE t.gen.words b)).map fun b:Nat=>((a:Int),(b:Int))
def copC (t:Qw) (m i:Nat):List Cp:=((List.range i).map (rowC t m)).flatten
def Qlb (t:Qw) (m:Nat):Qw:=⟨t.gen,mkS m (fun a=>QE t.gen.words a||!folB t a a),copC t m m⟩
theorem Quj {t:Qw} {m a:Nat} {c:Cp}:c∈rowC t m a↔∃b:Nat,c=((a:Int),(b:Int))∧b<m∧a≠b∧folB t a b=true∧QE t.gen.words b=false:=by
 unfold rowC;simp only [List.mem_map,List.mem_filter,List.mem_range,Bool.and_eq_true,decide_eq_true_eq,Bool.not_eq_true'];constructor
 ·rintro⟨b,⟨h1,h2,h3,h4⟩,rfl⟩;exact⟨b,rfl,h1,h2,h3,h4⟩
 ·rintro⟨b,rfl,h1,h2,h3,h4⟩;exact⟨b,⟨h1,h2,h3,h4⟩,rfl⟩
theorem Qvj {t:Qw} {m i:Nat} {c:Cp}:c∈copC t m i↔∃a b:Nat,c=((a:Int),(b:Int))∧a<i∧b<m∧a≠b∧folB t a b=true∧QE t.gen.words b=false:=by
 unfold copC;simp only [List.mem_flatten,List.mem_map,List.mem_range];constructor
 ·rintro⟨l,⟨a,ha,rfl⟩,h⟩;obtain⟨b,h1,h2⟩:=Quj.1 h;exact⟨a,b,h1,ha,h2⟩
 ·rintro⟨a,b,h1,ha,h2⟩;exact⟨_,⟨a,ha,rfl⟩,Quj.2 ⟨b,h1,h2⟩⟩
theorem QMk (t:Qw) (m i:Nat):copC t m (i+1)=copC t m i++rowC t m i:=by
 unfold copC;rw [List.range_succ,List.map_append,List.flatten_append];simp
theorem QPe {w:Int}:∀{l:List Cp} {p:Option Cp},(∀c∈l,inC w c=true)→l.Pairwise (fun a b=>befC a b=true)→(∀q,p=some q→∀c∈l,befC q c=true)→Qnc w p l=true
|[],_,_,_,_=>by simp [Qnc]
|c::r,p,h1,h2,h3=>by
  obtain⟨h4,h5⟩:=List.pairwise_cons.1 h2
  unfold Qnc
  simp only [Bool.and_eq_true]
  refine⟨⟨h1 c (by simp),?_⟩,QPe (fun d hd=>h1 d (List.mem_cons_of_mem _ hd)) h5 (fun q hq d hd=>by cases hq;exact h4 d hd)⟩
  cases p with
 |none=>rfl
 |some q=>exact h3 q rfl c (by simp)
theorem QNh (t:Qw) (m:Nat):∀i,(copC t m i).Pairwise (fun a b=>befC a b=true)
|0=>by simp [copC]
|i+1=>by
  rw [QMk]
  refine List.pairwise_append.2 ⟨QNh t m i,?_,?_⟩
  ·unfold rowC
   refine List.Pairwise.map (R:=(· < ·)) _ (fun a b h=>?_) (List.pairwise_lt_range.sublist List.filter_sublist)
   unfold befC;simp;omega
  ·intro a ha b hb
   obtain⟨x,y,rfl,hx,-⟩:=Qvj.1 ha
   obtain⟨z,rfl,-⟩:=Quj.1 hb
   unfold befC;simp;omega
theorem Qqj (t:Qw) (m i:Nat):(copC t m i).Nodup:=(QNh t m i).imp fun {a b} h e=>by
 subst e
 unfold befC at h
 simp at h
theorem Qml {α:Type} [DecidableEq α]:∀{a b:List α},a.Nodup→(∀x∈a,x∈b)→a.length≤b.length
|[],b,_,_=>Nat.zero_le _
|x::a,b,h,hs=>by
  obtain⟨h1,h2⟩:=List.nodup_cons.1 h
  have hx:x∈b:=hs x (by simp)
  have h3:=Qml (b:=b.erase x) h2 (fun y hy=>by
   have hne:y≠x:=fun e=>h1 (e▸hy)
   exact(List.mem_erase_of_ne hne).2 (hs y (List.mem_cons_of_mem _ hy)))
  have h4:=List.length_erase_of_mem hx
  have h5:0<b.length:=List.length_pos_of_mem hx
  simp only [List.length_cons]
  omega
theorem Qul {m:Nat} {t:Qw} {i:Nat} {c:Cp} (h:c∈copC t m i):c∈t.cops:=by
 obtain⟨a,b,rfl,_,_,hne,hf,_⟩:=Qvj.1 h;unfold folB at hf;simp only [Bool.or_eq_true,Bool.and_eq_true,decide_eq_true_eq] at hf;rcases hf with⟨e,_⟩|hf
 ·exact absurd e hne
 ·exact hf
theorem Qdn {m:Nat} {t:Qw} (h:t.cops.length≤64) (i:Nat):(copC t m i).length≤64:=Nat.le_trans (Qml (Qqj t m i) fun _ hc=>Qul hc) h
theorem Qkn {m:Nat} {s t:Qw} (hm:m≤256) (hg:s.gen=t.gen) (hf:∀a b,a<m→b<m→folB s a b=folB t a b):Qlb s m=Qlb t m:=by
 unfold Qlb;have h1:mkS m (fun a=>QE s.gen.words a||!folB s a a)=mkS m (fun a=>QE t.gen.words a||!folB t a a):=Qad hm fun b hb=>by rw [hf b b hb hb,hg]
 have h2:copC s m m=copC t m m:=by
  unfold copC
  congr 1
  refine List.map_congr_left fun a ha=>?_
  unfold rowC
  congr 1
  refine List.filter_congr fun b hb=>?_
  rw [hf a b (List.mem_range.1 ha) (List.mem_range.1 hb),hg]
 rw [h1,h2,hg]
def QKg (t:Qw):Qw×Int:=if Qtd t then (Qlb t t.gen.width.toNat,0) else (⟨⟨0,[]⟩,⟨0,[]⟩,[]⟩,1)
def idT (m:Nat):Qw:=⟨Qy m,Qy m,[]⟩
theorem Qvu {m:Nat} (h:m≤256):OkT m (idT m):=⟨QOb h,QOb h,by simp [idT],by simp [idT,Qnc]⟩
theorem QHt (m a b:Nat):folB (idT m) a b=decide (a=b):=by
 unfold folB idT;simp only [];rw [QNb];simp
theorem QOs {m:Nat} (h:m≤256):Qlb (idT m) m=idT m:=by
 have hk:mkS m (fun a=>QE (idT m).gen.words a||!folB (idT m) a a)=Qy m:=by
  refine(QIb _ h).ext (QOb h) fun b=>?_
  rw [Qpb _ h,QHt,QNb];show(_&&(QE (Qy m).words b||_))=_;rw [QNb];simp
 have hc:copC (idT m) m m=[]:=by
  rw [List.eq_nil_iff_forall_not_mem];intro c hc;have:=Qul hc;simp [idT] at this
 show(⟨_,_,_⟩:Qw)=⟨_,_,_⟩;rw [hk,hc];rfl
end
section
structure Tok where
 kind:Int
 text:List UInt8
 line:Int
 col:Int
def Qjb (c:Int):Bool:=(decide (97≤c)&&decide (c≤122))||(decide (65≤c)&&decide (c≤90))
def QAc (c:Int):Bool:=decide (48≤c)&&decide (c≤57)
def Qsb (c:Int):Bool:=Qjb c||QAc c||c==95
def Qha (b:UInt8):Bool:=Qsb (b.toNat:Int)
structure Qub where
 toks:List Tok
 line:Int
 col:Int
 err:Int
def fin (op:Bool) (line col:Int) (acc:List Tok):List Tok:=if op then acc++[⟨3,[],line,col⟩] else acc
def lexF:Nat→List UInt8→Int→Int→Bool→List Tok→Qub
|0,_,_,_,_,_=>⟨[],0,0,0⟩
|_+1,[],line,col,op,acc=>⟨fin op line col acc,0,0,0⟩
|n+1,c::r,line,col,op,acc=>
  if c.toNat=32∨c.toNat=9 then lexF n r line (col+1) op acc
  else if c.toNat=59 then lexF n r line (col+1) false (fin op line col acc)
  else if c.toNat=35 then
   lexF n (r.dropWhile fun b=>b.toNat != 10) line (col+1+((r.takeWhile fun b=>b.toNat != 10).length:Int)) false (fin op line col acc)
  else if c.toNat=10 then lexF n r (line+1) 1 false (fin op line col acc)
  else if c.toNat=61 then lexF n r line (col+1) true (acc++[⟨2,[61],line,col⟩])
  else if Qha c then
   if QAc (c.toNat:Int) then ⟨[],line,col,4⟩
   else if 16<((c::r).takeWhile Qha).length then ⟨[],line,col,7⟩
   else lexF n ((c::r).dropWhile Qha) line (col+(((c::r).takeWhile Qha).length:Int)) true (acc++[⟨1,(c::r).takeWhile Qha,line,col⟩])
  else ⟨[],line,col,4⟩
theorem QSa {α:Type} (p:α→Bool) (l:List α):(l.dropWhile p).length≤l.length:=by
 induction l with
|nil=>simp
|cons x r ih=>
  rw [List.dropWhile_cons]
  split
  ·simp;omega
  ·simp
theorem Qce (n m:Nat):∀(l:List UInt8) (line col:Int) (op:Bool) (acc:List Tok),l.length<n→l.length<m→lexF n l line col op acc=lexF m l line col op acc:=by
 induction n generalizing m with
|zero=>intro l line col op acc h;omega
|succ n ih=>
  intro l line col op acc h1 h2
  cases m with
 |zero=>omega
 |succ m=>
   cases l with
  |nil=>rfl
  |cons c r=>
    simp only [List.length_cons] at h1 h2;have hd:=QSa (fun b:UInt8=>b.toNat != 10) r;simp only [lexF]
    split
    ·exact ih m _ _ _ _ _ (by omega) (by omega)
    split
    ·exact ih m _ _ _ _ _ (by omega) (by omega)
    split
    ·exact ih m _ _ _ _ _ (by omega) (by omega)
    split
    ·exact ih m _ _ _ _ _ (by omega) (by omega)
    split
    ·exact ih m _ _ _ _ _ (by omega) (by omega)
    split
    ·rename_i hp
     split
     ·rfl
     split
     ·rfl
     have he:(c::r).dropWhile Qha=r.dropWhile Qha:=by rw [List.dropWhile_cons,if_pos hp]
     have hd:=QSa Qha r;exact ih m _ _ _ _ _ (by rw [he];omega) (by rw [he];omega)
    ·rfl
def lex (l:List UInt8) (line col:Int) (op:Bool) (acc:List Tok):Qub:=lexF (l.length+1) l line col op acc
theorem QHp (line col:Int) (op:Bool) (acc:List Tok):lex [] line col op acc=⟨fin op line col acc,0,0,0⟩:=rfl
section
variable {c:UInt8} {r:List UInt8} {line col:Int} {op:Bool} {acc:List Tok}
theorem Qzk (h:c.toNat=32∨c.toNat=9):lex (c::r) line col op acc=lex r line (col+1) op acc:=by
 unfold lex;rw [lexF,if_pos h];exact Qce _ _ _ _ _ _ _ (by simp) (by simp)
theorem Qlh (h:c.toNat=59):lex (c::r) line col op acc=lex r line (col+1) false (fin op line col acc):=by
 unfold lex;rw [lexF,if_neg (by omega),if_pos h];exact Qce _ _ _ _ _ _ _ (by simp) (by simp)
theorem Qms (h:c.toNat=35):lex (c::r) line col op acc =
  lex (r.dropWhile fun b=>b.toNat != 10) line (col+1+((r.takeWhile fun b=>b.toNat != 10).length:Int)) false (fin op line col acc):=by
 have hd:=QSa (fun b:UInt8=>b.toNat != 10) r;unfold lex;rw [lexF,if_neg (by omega),if_neg (by omega),if_pos h];exact Qce _ _ _ _ _ _ _ (by simp;omega) (by omega)
theorem Qmh (h:c.toNat=10):lex (c::r) line col op acc=lex r (line+1) 1 false (fin op line col acc):=by
 unfold lex;rw [lexF,if_neg (by omega),if_neg (by omega),if_neg (by omega),if_pos h];exact Qce _ _ _ _ _ _ _ (by simp) (by simp)
theorem QSq (h:c.toNat=61):lex (c::r) line col op acc=lex r line (col+1) true (acc++[⟨2,[61],line,col⟩]):=by
 unfold lex;rw [lexF,if_neg (by omega),if_neg (by omega),if_neg (by omega),if_neg (by omega),if_pos h];exact Qce _ _ _ _ _ _ _ (by simp) (by simp)
theorem Qtg (h:Qha c=true):c.toNat≠32∧c.toNat≠9∧c.toNat≠59∧c.toNat≠35∧c.toNat≠10∧c.toNat≠61:=by
 simp only [Qha,Qsb,Qjb,QAc,Bool.or_eq_true,Bool.and_eq_true,decide_eq_true_eq,beq_iff_eq] at h;omega
theorem QAk (h:Qha c=true) (hd:QAc (c.toNat:Int)=true):lex (c::r) line col op acc=⟨[],line,col,4⟩:=by
 have:=Qtg h;unfold lex;rw [lexF,if_neg (by omega),if_neg (by omega),if_neg (by omega),if_neg (by omega),if_neg (by omega),if_pos h,if_pos hd]
theorem Qzm (h:Qha c=true) (hd:QAc (c.toNat:Int)=false) (hl:16<((c::r).takeWhile Qha).length):lex (c::r) line col op acc=⟨[],line,col,7⟩:=by
 have:=Qtg h;unfold lex;rw [lexF,if_neg (by omega),if_neg (by omega),if_neg (by omega),if_neg (by omega),if_neg (by omega),if_pos h,if_neg (by simp [hd]),if_pos hl]
theorem Qym (h:Qha c=true) (hd:QAc (c.toNat:Int)=false) (hl:¬16<((c::r).takeWhile Qha).length):lex (c::r) line col op acc =
  lex ((c::r).dropWhile Qha) line (col+(((c::r).takeWhile Qha).length:Int)) true (acc++[⟨1,(c::r).takeWhile Qha,line,col⟩]):=by
 have:=Qtg h;have he:(c::r).dropWhile Qha=r.dropWhile Qha:=by rw [List.dropWhile_cons,if_pos h]
 have hd2:=QSa Qha r;unfold lex;rw [lexF,if_neg (by omega),if_neg (by omega),if_neg (by omega),if_neg (by omega),if_neg (by omega),if_pos h,if_neg (by simp [hd]),if_neg hl];exact Qce _ _ _ _ _ _ _ (by rw [he];simp;omega) (by rw [he];omega)
theorem QRq (h1:c.toNat≠32) (h2:c.toNat≠9) (h3:c.toNat≠59) (h4:c.toNat≠35) (h5:c.toNat≠10) (h6:c.toNat≠61) (h:Qha c=false):
  lex (c::r) line col op acc=⟨[],line,col,4⟩:=by
 unfold lex;rw [lexF,if_neg (by omega),if_neg (by omega),if_neg (by omega),if_neg (by omega),if_neg (by omega),if_neg (by simp [h])]
end
def Qhd (l:List UInt8):Qub:=if 4096<l.length then ⟨[],0,0,7⟩ else lex l 1 1 false []
end
section
def kws:List (List UInt8):=[[102,117,110,99],[98,108,111,99,107],[101,110,100],[117,115,101],[99,97,108,108],[115,111,117,114,99,101],[115,105,110,107],[115,97,110,105,116,105,122,101],[103,111,116,111],[98,114,97,110,99,104],[114,101,116,117,114,110]]
def QGg:List UInt8→Bool
|[]=>false
|c::_=>Qjb (c.toNat:Int)
def hasB (ls:List (List UInt8)) (l:List UInt8):Bool:=ls.contains l
def QV (l:List UInt8):Bool:=QGg l&&decide (l.length≤16)&&!(hasB kws l)&&l.all Qha
theorem Qxk {l:List UInt8} (h:16<l.length):QV l=false:=by
 have:decide (l.length≤16)=false:=by simp;omega
 simp [QV,this]
theorem Qtj {l:List UInt8} (h:QGg l=false):QV l=false:=by simp [QV,h]
theorem QFp {l:List UInt8} (h:hasB kws l=true):QV l=false:=by unfold QV;rw [h];simp
theorem QOq {l:List UInt8} (h:l.all Qha=false):QV l=false:=by unfold QV;rw [h];simp
theorem Qwk {l:List UInt8} (h1:l.length≤16) (h2:QGg l=true) (h3:hasB kws l=false):QV l=l.all Qha:=by
 unfold QV;rw [h2,h3,decide_eq_true h1];simp
theorem QCr (p:UInt8→Bool) (l:List UInt8):((l.takeWhile p).length=l.length)↔l.all p=true:=by
 induction l with
|nil=>simp
|cons c r ih=>
  rw [List.takeWhile_cons]
  cases h:p c
  ·simp [h]
  ·simp only [if_true,List.length_cons,Nat.add_right_cancel_iff,List.all_cons,h,Bool.true_and];exact ih
theorem Qbt (l:List UInt8) (k:Nat) (c:UInt8) (h:l[k]? = some c) (p:UInt8→Bool):(l.drop k).all p=(p c&&(l.drop (k+1)).all p):=by
 obtain⟨h1,rfl⟩:=List.getElem?_eq_some_iff.1 h;rw [List.drop_eq_getElem_cons h1,List.all_cons]
end
section
def Qjl (l:List Str) (a b:Int):Bool:=l.all QV&&(decide (a≤(l.length:Int))&&decide ((l.length:Int)≤b))
def opB (op:Int) (d e:Bool) (u t:Nat):Bool:=
 if op=1 then d&&decide (t=0)
 else if op=2 then e&&(decide (1≤u)&&decide (t=0))
 else if op=5 then e&&(decide (u=1)&&decide (t=0))
 else if op=3∨op=7 then e&&(decide (u=0)&&decide (t=1))
 else if op=4∨op=6 then d&&(decide (u=0)&&decide (t=0))
 else if op=8 then e&&(decide (u=1)&&decide (t=2))
 else if op=9 then e&&(decide (u=0)&&decide (t=0))
 else false
def stmtB (s:QD):Bool:=Qjl s.uses 0 4&&(Qjl s.targets 0 2&&opB s.op (QV s.dfn) (s.dfn.isEmpty) s.uses.length s.targets.length)
def Qoc (b:QI):Bool:=QV b.name&&(decide (1≤b.stmts.length)&&(decide (b.stmts.length≤32)&&b.stmts.all stmtB))
def QNc (f:Qo):Bool:=QV f.name&&(decide (1≤f.blocks.length)&&(decide (f.blocks.length≤16)&&f.blocks.all Qoc))
def QMa (p:List Qo):Bool:=decide (1≤p.length)&&(decide (p.length≤8)&&p.all QNc)
end
section
def QTg (op:Int):Bool:=op==7||op==8||op==9
def dfnB (op:Int):Bool:=op==1||op==4||op==6
def QKj:List Str→List Str→Int→Int
|_,[],_=>-1
|seen,x::r,i=>if seen.contains x then i else QKj (seen++[x]) r (i+1)
def dupI (l:List Str):Int:=QKj [] l 0
def QRc (p:List Qo):List Str:=p.map Qo.name
def QPb (f:Qo):List Str:=f.blocks.map QI.name
def QXi (fs bs:List Str) (s:QD) (last:Bool):Int:=
 if QTg s.op != last then 4 else if s.targets.all (fun t=>(if s.op==3 then fs else bs).contains t) then 0 else 5
def Qte:Int→Int→Int:=fun a b=>if a=0 then b else a
def QIc (fs bs:List Str):List QD→Int
|[]=>0
|s::r=>Qte (QXi fs bs s r.isEmpty) (QIc fs bs r)
def QCd (fs bs:List Str):List QI→Int
|[]=>0
|b::r=>Qte (QIc fs bs b.stmts) (QCd fs bs r)
def Qxf (fs:List Str) (f:Qo):Int:=if 0≤dupI (QPb f) then 6 else QCd fs (QPb f) f.blocks
def QQc (fs:List Str):List Qo→Int
|[]=>0
|f::r=>Qte (Qxf fs f) (QQc fs r)
def QH (p:List Qo):List QD:=(p.map fun f=>(f.blocks.map QI.stmts).flatten).flatten
def Qfc (out:List Str) (n:Str):List Str:=if n.isEmpty||out.contains n then out else out++[n]
def QYe (out:List Str) (s:QD):List Str:=(s.dfn::s.uses).foldl Qfc out
def QN (p:List Qo):List Str:=if QMa p then (QH p).foldl QYe [] else []
def QHd (s:QD):Int:=if s.op=3 then 2 else 1
def Qod (s:QD):Int:=if s.op=3 then 3 else if s.op=8 then 2 else 1
def sumI (l:List Int):Int:=l.foldl (· + ·) 0
def QMd (p:List Qo):Int:=if QMa p then 2*(p.length:Int)+sumI ((QH p).map QHd) else 0
def QNd (p:List Qo):Int:=if QMa p then (p.length:Int)+sumI ((QH p).map Qod) else 0
def QFa (p:List Qo):Int:=
 if QMa p=false then 1
 else if 0≤dupI (QRc p) then 6
 else if QQc (QRc p) p≠0 then QQc (QRc p) p
 else if 64<(QN p).length∨256<QMd p∨1024<QNd p then 7 else 0
structure Qx where
 kind:Int
 fn:Int
 bl:Int
 st:Int
deriving DecidableEq
def QWe (i k n:Nat) (s:QD):List Qx:=⟨3,i,k,n⟩::(if s.op=3 then [⟨4,i,k,n⟩] else [])
def Qta (i k:Nat):List QD→Nat→List Qx
|[],_=>[]
|s::r,n=>QWe i k n s++Qta i k r (n+1)
def Qca (i:Nat):List QI→Nat→List Qx
|[],_=>[]
|b::r,k=>Qta i k b.stmts 0++Qca i r (k+1)
def Qcf (i:Nat) (f:Qo):List Qx:=⟨1,i,-1,-1⟩::(Qca i f.blocks 0++[⟨2,i,-1,-1⟩])
def QB:List Qo→Nat→List Qx
|[],_=>[]
|f::r,i=>Qcf i f++QB r (i+1)
def QR (p:List Qo):List Qx:=if QFa p=0 then QB p 0 else []
def idxI {α:Type} [DecidableEq α] (l:List α) (x:α):Int:=if x∈l then ((l.idxOf x:Nat):Int) else -1
def QFd (p:List Qo) (n:Qx):Option QD:=(p[n.fn.toNat]?).bind fun f=>(f.blocks[n.bl.toNat]?).bind fun b=>b.stmts[n.st.toNat]?
def insN (n:Qx):Bool:=n.kind==3||n.kind==4
def QAf (p:List Qo) (n:Qx):Option QD:=if insN n=true∧n∈QR p then QFd p n else none
structure Qra where
 node:Int
 var:Int
deriving DecidableEq
def QUa (vars:List Str) (p:List Qo):List Qx→Nat→List Qra
|[],_=>[]
|n::r,i=>(if n.kind=3 then match QFd p n with|some s=>if dfnB s.op then [⟨i,idxI vars s.dfn⟩] else []|none=>[] else [])++QUa vars p r (i+1)
def QBc (p:List Qo) (kind:Int):List Qra:=if kind=1 then QUa (QN p) p (QR p) 0 else (List.range (QN p).length).map fun v:Nat=>(⟨-1,(v:Int)⟩:Qra)
def Qxb (p:List Qo) (kind:Int):Int:=if QFa p≠0 then QFa p else if kind<1∨4<kind then 3 else if 256<(QBc p kind).length then 7 else 0
def QC (p:List Qo) (kind:Int):List Qra:=if Qxb p kind=0 then QBc p kind else []
end
section
def blkI (f:Qo) (x:Str):Int:=idxI (QPb f) x
def fnI (p:List Qo) (x:Str):Int:=idxI (QRc p) x
def tgt (s:QD):Str:=s.targets.headD []
def fnOf (p:List Qo) (i:Int):Qo:=(p[i.toNat]?).getD ⟨[],[]⟩
def Qec (p:List Qo) (n:Qx):QD:=(QFd p n).getD ⟨0,[],[],[]⟩
def Qmd (p:List Qo) (l:List Qx) (n:Qx):List Qx:=
 if n.kind=1 then [⟨3,n.fn,0,0⟩]
 else if n.kind=2 then l.filter fun k=>k.kind==4&&tgt (Qec p k)==(fnOf p n.fn).name
 else if (Qec p n).op=9 then [⟨2,n.fn,-1,-1⟩]
 else if (Qec p n).op=3∧n.kind=3 then [⟨1,fnI p (tgt (Qec p n)),-1,-1⟩]
 else if (Qec p n).op=7∨(Qec p n).op=8 then (Qec p n).targets.map fun t=>⟨3,n.fn,blkI (fnOf p n.fn) t,0⟩
 else [⟨3,n.fn,n.bl,n.st+1⟩]
def QU (p:List Qo) (n:Qx):List (Qx×Qx):=
 if n.kind=1 then [(n,⟨3,n.fn,0,0⟩)]
 else if n.kind=3 then
  if (Qec p n).op=7∨(Qec p n).op=8 then (Qec p n).targets.map fun t=>(n,⟨3,n.fn,blkI (fnOf p n.fn) t,0⟩)
  else if (Qec p n).op=9 then [(n,⟨2,n.fn,-1,-1⟩)]
  else if (Qec p n).op=3 then [(n,⟨1,fnI p (tgt (Qec p n)),-1,-1⟩),(⟨2,fnI p (tgt (Qec p n)),-1,-1⟩,⟨4,n.fn,n.bl,n.st⟩),(⟨4,n.fn,n.bl,n.st⟩,⟨3,n.fn,n.bl,n.st+1⟩)]
  else [(n,⟨3,n.fn,n.bl,n.st+1⟩)]
 else []
def Qva (p:List Qo) (l:List Qx):List (Qx×Qx):=(l.map (QU p)).flatten
def IsN (p:List Qo) (n:Qx):Prop:=∃i f,p[i]? = some f∧(n=⟨1,(i:Nat),-1,-1⟩∨n=⟨2,(i:Nat),-1,-1⟩∨∃k b j s,f.blocks[k]? = some b∧b.stmts[j]? = some s∧(n=⟨3,(i:Nat),(k:Nat),(j:Nat)⟩∨(s.op=3∧n=⟨4,(i:Nat),(k:Nat),(j:Nat)⟩)))
theorem Qbe {i k j:Nat} {s:QD} {n:Qx}:n∈QWe i k j s↔n=⟨3,i,k,j⟩∨(s.op=3∧n=⟨4,i,k,j⟩):=by
 unfold QWe;by_cases h:s.op=3 <;> simp [h]
theorem Qyc {i k:Nat} {n:Qx}:∀(l:List QD) (m:Nat),n∈Qta i k l m↔∃j s,l[j]? = some s∧n∈QWe i k (m+j) s
|[],m=>by simp [Qta]
|x::r,m=>by
  unfold Qta
  rw [List.mem_append,Qyc r (m+1)]
  constructor
  ·rintro(h|⟨j,s,h1,h2⟩)
   ·exact⟨0,x,rfl,h⟩
   ·exact⟨j+1,s,h1,by rw [show m+(j+1)=m+1+j by omega];exact h2⟩
  ·rintro⟨j,s,h1,h2⟩
   cases j with
  |zero=>simp at h1;subst h1;exact .inl h2
  |succ j=>exact .inr ⟨j,s,by simpa using h1,by rw [show m+1+j=m+(j+1) by omega];exact h2⟩
theorem Qbd {i:Nat} {n:Qx}:∀(l:List QI) (m:Nat),n∈Qca i l m↔∃k b,l[k]? = some b∧n∈Qta i (m+k) b.stmts 0
|[],m=>by simp [Qca]
|x::r,m=>by
  unfold Qca
  rw [List.mem_append,Qbd r (m+1)]
  constructor
  ·rintro(h|⟨j,s,h1,h2⟩)
   ·exact⟨0,x,rfl,h⟩
   ·exact⟨j+1,s,h1,by rw [show m+(j+1)=m+1+j by omega];exact h2⟩
  ·rintro⟨j,s,h1,h2⟩
   cases j with
  |zero=>simp at h1;subst h1;exact .inl h2
  |succ j=>exact .inr ⟨j,s,by simpa using h1,by rw [show m+1+j=m+(j+1) by omega];exact h2⟩
theorem Qxg {n:Qx}:∀(l:List Qo) (m:Nat),n∈QB l m↔∃i f,l[i]? = some f∧n∈Qcf (m+i) f
|[],m=>by simp [QB]
|x::r,m=>by
  unfold QB
  rw [List.mem_append,Qxg r (m+1)]
  constructor
  ·rintro(h|⟨j,s,h1,h2⟩)
   ·exact⟨0,x,rfl,h⟩
   ·exact⟨j+1,s,h1,by rw [show m+(j+1)=m+1+j by omega];exact h2⟩
  ·rintro⟨j,s,h1,h2⟩
   cases j with
  |zero=>simp at h1;subst h1;exact .inl h2
  |succ j=>exact .inr ⟨j,s,by simpa using h1,by rw [show m+1+j=m+(j+1) by omega];exact h2⟩
theorem QLb {p:List Qo} {n:Qx}:n∈QB p 0↔IsN p n:=by
 rw [Qxg];unfold IsN Qcf;constructor
 ·rintro⟨i,f,h1,h2⟩;refine⟨i,f,h1,?_⟩;simp only [Nat.zero_add] at h2;rcases List.mem_cons.1 h2 with h2|h2
  ·exact .inl h2
  ·rcases List.mem_append.1 h2 with h2|h2
   ·obtain⟨k,b,h3,h4⟩:=(Qbd _ _).1 h2;obtain⟨j,s,h5,h6⟩:=(Qyc _ _).1 h4;simp only [Nat.zero_add] at h6;exact .inr (.inr ⟨k,b,j,s,h3,h5,Qbe.1 h6⟩)
   ·exact .inr (.inl (by simpa using h2))
 ·rintro⟨i,f,h1,h2⟩;refine⟨i,f,h1,?_⟩;simp only [Nat.zero_add];rcases h2 with h2|h2|⟨k,b,j,s,h3,h5,h6⟩
  ·exact List.mem_cons.2 (.inl h2)
  ·exact List.mem_cons.2 (.inr (List.mem_append.2 (.inr (by simp [h2]))))
  ·refine List.mem_cons.2 (.inr (List.mem_append.2 (.inl ((Qbd _ _).2 ⟨k,b,h3,(Qyc _ _).2 ⟨j,s,h5,?_⟩⟩))));simp only [Nat.zero_add];exact Qbe.2 h6
theorem Qdh {i k:Nat}:∀(l:List QD) (m:Nat),(Qta i k l m).Nodup
|[],m=>List.nodup_nil
|x::r,m=>by
  unfold Qta
  refine List.nodup_append.2 ⟨?_,Qdh r (m+1),?_⟩
  ·unfold QWe
   by_cases h:x.op=3 <;> simp [h]
  ·intro a ha b hb e
   subst e
   obtain⟨j,s,_,h2⟩:=(Qyc _ _).1 hb
   rw [Qbe] at ha h2
   rcases ha with rfl|⟨_,rfl⟩ <;> rcases h2 with h2|⟨_,h2⟩ <;> injection h2 <;> omega
theorem Qeg {i:Nat}:∀(l:List QI) (m:Nat),(Qca i l m).Nodup
|[],m=>List.nodup_nil
|x::r,m=>by
  unfold Qca
  refine List.nodup_append.2 ⟨Qdh _ _,Qeg r (m+1),?_⟩
  intro a ha b hb e
  subst e
  obtain⟨k,c,_,h2⟩:=(Qbd _ _).1 hb
  obtain⟨j,s,_,h3⟩:=(Qyc _ _).1 h2
  obtain⟨j',s',_,h4⟩:=(Qyc _ _).1 ha
  rw [Qbe] at h3 h4
  rcases h4 with rfl|⟨_,rfl⟩ <;> rcases h3 with h3|⟨_,h3⟩ <;> injection h3 <;> omega
theorem Qjh {i:Nat} {f:Qo} {n:Qx} (h:n∈Qcf i f):n.fn=i:=by
 unfold Qcf at h;rcases List.mem_cons.1 h with rfl|h
 ·rfl
 ·rcases List.mem_append.1 h with h|h
  ·obtain⟨k,b,_,h4⟩:=(Qbd _ _).1 h;obtain⟨j,s,_,h6⟩:=(Qyc _ _).1 h4;rcases Qbe.1 h6 with rfl|⟨_,rfl⟩ <;> rfl
  ·simp at h;subst h;rfl
theorem Qom (i:Nat) (f:Qo):(Qcf i f).Nodup:=by
 unfold Qcf;have hk:∀n,n∈Qca i f.blocks 0→n.kind=3∨n.kind=4:=fun n h=>by
  obtain⟨k,b,_,h4⟩:=(Qbd _ _).1 h;obtain⟨j,s,_,h6⟩:=(Qyc _ _).1 h4;rcases Qbe.1 h6 with rfl|⟨_,rfl⟩
  ·exact .inl rfl
  ·exact .inr rfl
 refine List.nodup_cons.2 ⟨fun h=>?_,List.nodup_append.2 ⟨Qeg _ _,by simp,?_⟩⟩
 ·rcases List.mem_append.1 h with h|h
  ·rcases hk _ h with h|h <;> simp at h
  ·simp at h
 ·intro a ha b hb e;subst e;simp at hb;subst hb;rcases hk _ ha with h|h <;> simp at h
theorem QIe:∀(l:List Qo) (m:Nat),(QB l m).Nodup
|[],m=>List.nodup_nil
|x::r,m=>by
  unfold QB
  refine List.nodup_append.2 ⟨Qom _ _,QIe r (m+1),?_⟩
  intro a ha b hb e
  subst e
  obtain⟨i,f,_,h2⟩:=(Qxg _ _).1 hb
  have h3:=Qjh h2
  have h4:=Qjh ha
  omega
theorem QCi:∀(l seen:List Str) (i:Int),0≤i→¬(0≤QKj seen l i)→(∀x∈l,x∉seen)∧l.Nodup
|[],seen,i,_,_=>⟨(fun x h=>by cases h),List.nodup_nil⟩
|x::r,seen,i,hi,h=>by
  unfold QKj at h
  by_cases hx:seen.contains x=true
  ·rw [if_pos hx] at h;omega
  ·rw [if_neg hx] at h
   obtain⟨h1,h2⟩:=QCi r (seen++[x]) (i+1) (by omega) h
   have hx':x∉seen:=by simpa using hx
   refine⟨fun y hy=>?_,List.nodup_cons.2 ⟨fun hm=>?_,h2⟩⟩
   ·rcases List.mem_cons.1 hy with rfl|hy
    ·exact hx'
    ·exact fun hm=>h1 y hy (List.mem_append.2 (.inl hm))
   ·exact h1 x hm (by simp)
theorem QJj {l:List Str} (h:¬0≤dupI l):l.Nodup:=(QCi l [] 0 (by omega) h).2
theorem QFg {a b:Int} (h:Qte a b=0):a=0∧b=0:=by
 unfold Qte at h
 split at h
 ·exact⟨by assumption,h⟩
 ·exact absurd h (by assumption)
theorem Qoi {fs bs:List Str}:∀(l:List QD),QIc fs bs l=0→∀j s,l[j]? = some s→QXi fs bs s (decide (j+1=l.length))=0
|[],_,j,s,hj=>by simp at hj
|x::r,h,j,s,hj=>by
  unfold QIc at h
  obtain⟨h1,h2⟩:=QFg h
  cases j with
 |zero=>
   simp at hj
   subst hj
   rw [←h1]
   congr 1
   cases r <;> simp
 |succ j=>
   rw [←Qoi r h2 j s (by simpa using hj)]
   congr 1
   simp
theorem Qyh {fs bs:List Str}:∀(l:List QI),QCd fs bs l=0→∀b∈l,QIc fs bs b.stmts=0
|[],_,b,hb=>by cases hb
|x::r,h,b,hb=>by
  unfold QCd at h
  obtain⟨h1,h2⟩:=QFg h
  rcases List.mem_cons.1 hb with rfl|hb
  ·exact h1
  ·exact Qyh r h2 b hb
theorem Qyi {fs:List Str}:∀(l:List Qo),QQc fs l=0→∀f∈l,Qxf fs f=0
|[],_,b,hb=>by cases hb
|x::r,h,b,hb=>by
  unfold QQc at h
  obtain⟨h1,h2⟩:=QFg h
  rcases List.mem_cons.1 hb with rfl|hb
  ·exact h1
  ·exact Qyi r h2 b hb
structure Ckd (p:List Qo):Prop where
 valid:QMa p=true
 funcs:(QRc p).Nodup
 blocks:∀f∈p,(QPb f).Nodup
 stmts:∀f∈p,∀b∈f.blocks,∀j s,b.stmts[j]? = some s→QXi (QRc p) (QPb f) s (decide (j+1=b.stmts.length))=0
 vars:(QN p).length≤64
 nodes:QMd p≤256
 edges:QNd p≤1024
theorem Qzb {p:List Qo} (h:QFa p=0):Ckd p:=by
 unfold QFa at h
 split at h
 ·cases h
 rename_i hv
 split at h
 ·cases h
 rename_i hd
 split at h
 ·rename_i hn;exact absurd h hn
 rename_i hf
 split at h
 ·cases h
 rename_i hs;have hf':QQc (QRc p) p=0:=by simpa using hf
 have hfe:∀f∈p,(QPb f).Nodup∧QCd (QRc p) (QPb f) f.blocks=0:=fun f hm=>by
  have h1:=Qyi p hf' f hm;unfold Qxf at h1
  split at h1
  ·cases h1
  ·rename_i h2;exact⟨QJj h2,h1⟩
 refine⟨by simpa using hv,QJj hd,fun f hm=>(hfe f hm).1,fun f hm b hb=>Qoi _ (Qyh _ (hfe f hm).2 b hb),?_,?_,?_⟩ <;> omega
end
section
section
variable {α:Type} [DecidableEq α]
theorem Qgc {l:List α} {x:α} (h:x∈l):∃k:Nat,idxI l x=k∧l[k]? = some x:=by
 refine⟨l.idxOf x,by unfold idxI;rw [if_pos h],?_⟩;rw [List.getElem?_eq_getElem (List.idxOf_lt_length_of_mem h)];simp
theorem QLp {l:List α} {x:α} (h:x∉l):idxI l x = -1:=by unfold idxI;rw [if_neg h]
theorem QBg {l:List α} (hn:l.Nodup) {k:Nat} {x:α} (h:l[k]? = some x):idxI l x=k:=by
 obtain⟨hk,rfl⟩:=List.getElem?_eq_some_iff.1 h;have hm:l[k]∈l:=List.getElem_mem hk;unfold idxI;rw [if_pos hm]
 congr 1
 exact hn.idxOf_getElem k hk
end
theorem Ckd.func {p:List Qo} (h:Ckd p) {f:Qo} (hf:f∈p):QNc f=true:=by
 have hv:=h.valid;unfold QMa at hv;simp only [Bool.and_eq_true,List.all_eq_true] at hv;exact hv.2.2 f hf
theorem Ckd.block {p:List Qo} (h:Ckd p) {f:Qo} (hf:f∈p):1≤f.blocks.length∧∀b∈f.blocks,Qoc b=true:=by
 have hv:=h.func hf;unfold QNc at hv;simp only [Bool.and_eq_true,List.all_eq_true,decide_eq_true_eq] at hv;exact⟨hv.2.1,hv.2.2.2⟩
theorem Ckd.stmt {p:List Qo} (h:Ckd p) {f:Qo} (hf:f∈p) {b:QI} (hb:b∈f.blocks):1≤b.stmts.length∧∀s∈b.stmts,stmtB s=true:=by
 have hv:=(h.block hf).2 b hb;unfold Qoc at hv;simp only [Bool.and_eq_true,List.all_eq_true,decide_eq_true_eq] at hv;exact⟨hv.2.1,hv.2.2.2⟩
structure At (p:List Qo) (i k j:Nat) (f:Qo) (b:QI) (s:QD):Prop where
 hf:p[i]? = some f
 hb:f.blocks[k]? = some b
 hs:b.stmts[j]? = some s
theorem At.fm {p:List Qo} {i k j:Nat} {f:Qo} {b:QI} {s:QD} (h:At p i k j f b s):f∈p:=List.mem_of_getElem? h.hf
theorem At.bm {p:List Qo} {i k j:Nat} {f:Qo} {b:QI} {s:QD} (h:At p i k j f b s):b∈f.blocks:=List.mem_of_getElem? h.hb
theorem At.sm {p:List Qo} {i k j:Nat} {f:Qo} {b:QI} {s:QD} (h:At p i k j f b s):s∈b.stmts:=List.mem_of_getElem? h.hs
theorem At.d {p:List Qo} {i k j:Nat} {f:Qo} {b:QI} {s:QD} (h:At p i k j f b s) (x:Int):Qec p ⟨x,i,k,j⟩=s:=by
 unfold Qec QFd;simp [h.hf,h.hb,h.hs]
theorem At.fn {p:List Qo} {i k j:Nat} {f:Qo} {b:QI} {s:QD} (h:At p i k j f b s):fnOf p i=f:=by
 unfold fnOf;simp [h.hf]
theorem QPp {p:List Qo} {i:Nat} {f:Qo} (h:p[i]? = some f):fnOf p i=f:=by
 unfold fnOf;simp [h]
theorem At.node3 {p:List Qo} {i k j:Nat} {f:Qo} {b:QI} {s:QD} (h:At p i k j f b s):(⟨3,i,k,j⟩:Qx)∈QB p 0:=QLb.2 ⟨i,f,h.hf,.inr (.inr ⟨k,b,j,s,h.hb,h.hs,.inl rfl⟩)⟩
theorem At.node4 {p:List Qo} {i k j:Nat} {f:Qo} {b:QI} {s:QD} (h:At p i k j f b s) (h3:s.op=3):(⟨4,i,k,j⟩:Qx)∈QB p 0:=QLb.2 ⟨i,f,h.hf,.inr (.inr ⟨k,b,j,s,h.hb,h.hs,.inr ⟨h3,rfl⟩⟩)⟩
theorem QYt {p:List Qo} {i:Nat} {f:Qo} (h:p[i]? = some f):(⟨1,i,-1,-1⟩:Qx)∈QB p 0:=QLb.2 ⟨i,f,h,.inl rfl⟩
theorem QXt {p:List Qo} {i:Nat} {f:Qo} (h:p[i]? = some f):(⟨2,i,-1,-1⟩:Qx)∈QB p 0:=QLb.2 ⟨i,f,h,.inr (.inl rfl)⟩
theorem Ckd.at_ {p:List Qo} (hc:Ckd p) {i k j:Nat} {f:Qo} {b:QI} {s:QD} (h:At p i k j f b s):
  stmtB s=true∧(QTg s.op=decide (j+1=b.stmts.length))∧∀t∈s.targets,t∈(if s.op==3 then QRc p else QPb f):=by
 have h1:=hc.stmts f h.fm b h.bm j s h.hs;unfold QXi at h1
 split at h1
 ·cases h1
 rename_i h2;have h3:(s.targets.all fun t=>(if s.op==3 then QRc p else QPb f).contains t)=true:=by
  cases hq:(s.targets.all fun t=>(if s.op==3 then QRc p else QPb f).contains t) with
 |true=>rfl
 |false=>rw [hq] at h1;simp at h1
 refine⟨(hc.stmt h.fm h.bm).2 s h.sm,by simpa using h2,fun t ht=>?_⟩;have:=List.all_eq_true.1 h3 t ht
 simpa using this
theorem QZi {s:QD} (h:stmtB s=true) (h3:s.op=3):∃t,s.targets=[t]:=by
 unfold stmtB opB at h;simp only [Bool.and_eq_true] at h;have h4:=h.2.2;rw [h3] at h4;simp at h4;obtain⟨t,ht⟩:=List.length_eq_one_iff.1 h4.2.2;exact⟨t,ht⟩
theorem Ckd.callee {p:List Qo} (hc:Ckd p) {i k j:Nat} {f:Qo} {b:QI} {s:QD} (h:At p i k j f b s) (h3:s.op=3):∃(g:Nat) (f':Qo),fnI p (tgt s)=g∧p[g]? = some f'∧f'.name=tgt s:=by
 obtain⟨h1,-,h2⟩:=hc.at_ h;obtain⟨t,ht⟩:=QZi h1 h3;have hm:t∈QRc p:=by
  have:=h2 t (by simp [ht]);rw [h3] at this
  simpa using this
 obtain⟨g,hg,hg2⟩:=Qgc hm;have e:tgt s=t:=by unfold tgt;rw [ht];rfl
 rw [e];unfold QRc at hg2;rw [List.getElem?_map] at hg2
 cases hp:p[g]? with
|none=>rw [hp] at hg2;cases hg2
|some f'=>
  rw [hp] at hg2;exact⟨g,f',hg,hp,by simpa using hg2⟩
theorem Ckd.fn_at {p:List Qo} (hc:Ckd p) {i:Nat} {f:Qo} (h:p[i]? = some f):fnI p f.name=i:=by
 refine QBg hc.funcs ?_;unfold QRc;rw [List.getElem?_map,h];rfl
theorem Qsh {p:List Qo} (hc:Ckd p) (n m:Qx):(n,m)∈Qva p (QB p 0)↔n∈QB p 0∧m∈Qmd p (QB p 0) n:=by
 have hm:(n,m)∈Qva p (QB p 0)↔∃a∈QB p 0,(n,m)∈QU p a:=by
  unfold Qva;simp only [List.mem_flatten,List.mem_map];constructor
  ·rintro⟨l,⟨a,h1,rfl⟩,h2⟩;exact⟨a,h1,h2⟩
  ·rintro⟨a,h1,h2⟩;exact⟨_,⟨a,h1,rfl⟩,h2⟩
 rw [hm];constructor
 ·rintro⟨a,ha,he⟩;obtain⟨i,f,hi,hk⟩:=QLb.1 ha;rcases hk with rfl|rfl|⟨k,b,j,s,hb,hs,hk⟩
  ·simp only [QU,if_true,List.mem_singleton,Prod.mk.injEq] at he;obtain⟨rfl,rfl⟩:=he;exact⟨ha,by simp [Qmd]⟩
  ·simp [QU] at he
  ·have hA:At p i k j f b s:=⟨hi,hb,hs⟩;rcases hk with rfl|⟨h3,rfl⟩
   ·have hd:=hA.d 3;have hfn:=hA.fn;unfold QU at he;rw [if_neg (by simp),if_pos rfl,hd] at he;by_cases h7:s.op=7∨s.op=8
    ·rw [if_pos h7] at he;obtain⟨t,ht,e⟩:=List.mem_map.1 he;injection e with e1 e2
     subst e1 e2;refine⟨ha,?_⟩;unfold Qmd;rw [if_neg (by simp),if_neg (by simp),hd,if_neg (by omega),if_neg (by omega),if_pos h7];exact List.mem_map.2 ⟨t,ht,rfl⟩
    rw [if_neg h7] at he;by_cases h9:s.op=9
    ·rw [if_pos h9] at he;simp only [List.mem_singleton,Prod.mk.injEq] at he;obtain⟨rfl,rfl⟩:=he;refine⟨ha,?_⟩;unfold Qmd;rw [if_neg (by simp),if_neg (by simp),hd,if_pos h9];simp
    rw [if_neg h9] at he;by_cases h3:s.op=3
    ·rw [if_pos h3] at he;obtain⟨g,f',hg,hg2,hg3⟩:=hc.callee hA h3;rw [hg] at he;simp only [List.mem_cons,Prod.mk.injEq,List.not_mem_nil,or_false] at he;rcases he with⟨rfl,rfl⟩|⟨rfl,rfl⟩|⟨rfl,rfl⟩
     ·refine⟨ha,?_⟩;unfold Qmd;rw [if_neg (by simp),if_neg (by simp),hd,if_neg h9,if_pos ⟨h3,rfl⟩,hg];simp
     ·refine⟨QXt hg2,?_⟩;unfold Qmd;rw [if_neg (by simp),if_pos rfl];refine List.mem_filter.2 ⟨hA.node4 h3,?_⟩;simp [hA.d 4,QPp hg2,hg3]
     ·refine⟨hA.node4 h3,?_⟩;unfold Qmd;rw [if_neg (by simp),if_neg (by simp),hA.d 4,if_neg h9,if_neg (by simp),if_neg h7];simp
    ·rw [if_neg h3] at he;simp only [List.mem_singleton,Prod.mk.injEq] at he;obtain⟨rfl,rfl⟩:=he;refine⟨ha,?_⟩;unfold Qmd;rw [if_neg (by simp),if_neg (by simp),hd,if_neg h9,if_neg (fun h=>h3 h.1),if_neg h7];simp
   ·simp [QU] at he
 ·rintro⟨hn,hx⟩;obtain⟨i,f,hi,hk⟩:=QLb.1 hn;rcases hk with rfl|rfl|⟨k,b,j,s,hb,hs,hk⟩
  ·refine⟨_,hn,?_⟩;simp only [Qmd,if_true,List.mem_singleton] at hx;subst hx;simp [QU]
  ·unfold Qmd at hx;rw [if_neg (by simp),if_pos rfl] at hx;obtain⟨hm1,hm2⟩:=List.mem_filter.1 hx;simp only [Bool.and_eq_true,beq_iff_eq,QPp hi] at hm2;obtain⟨i',f',hi',hk'⟩:=QLb.1 hm1;rcases hk' with rfl|rfl|⟨k,b,j,s,hb,hs,hk'⟩
   ·simp at hm2
   ·simp at hm2
   ·have hA:At p i' k j f' b s:=⟨hi',hb,hs⟩;rcases hk' with rfl|⟨h3,rfl⟩
    ·simp at hm2
    ·refine⟨_,hA.node3,?_⟩;unfold QU;rw [if_neg (by simp),if_pos rfl,hA.d 3,if_neg (by omega),if_neg (by omega),if_pos h3];have h5:=hm2.2;rw [hA.d 4] at h5;rw [h5,hc.fn_at hi];simp
  ·have hA:At p i k j f b s:=⟨hi,hb,hs⟩;rcases hk with rfl|⟨h3,rfl⟩
   ·refine⟨_,hn,?_⟩;unfold Qmd at hx;rw [if_neg (by simp),if_neg (by simp),hA.d 3] at hx;unfold QU;rw [if_neg (by simp),if_pos rfl,hA.d 3];by_cases h9:s.op=9
    ·rw [if_pos h9] at hx;rw [if_neg (by omega),if_pos h9]
     simpa using hx
    rw [if_neg h9] at hx;by_cases h3:s.op=3
    ·rw [if_pos ⟨h3,rfl⟩] at hx;rw [if_neg (by omega),if_neg h9,if_pos h3];simp only [List.mem_singleton] at hx;subst hx;simp
    rw [if_neg (fun h=>h3 h.1)] at hx;by_cases h7:s.op=7∨s.op=8
    ·rw [if_pos h7] at hx ⊢;obtain⟨t,ht,rfl⟩:=List.mem_map.1 hx;exact List.mem_map.2 ⟨t,ht,rfl⟩
    ·rw [if_neg h7] at hx;rw [if_neg h7,if_neg h9,if_neg h3]
     simpa using hx
   ·refine⟨_,hA.node3,?_⟩;unfold Qmd at hx;rw [if_neg (by simp),if_neg (by simp),hA.d 4,if_neg (by omega),if_neg (by simp),if_neg (by omega)] at hx;unfold QU;rw [if_neg (by simp),if_pos rfl,hA.d 3,if_neg (by omega),if_neg (by omega),if_pos h3];simp only [List.mem_singleton] at hx;subst hx;simp
theorem Qum {p:List Qo} (hc:Ckd p) {n m:Qx} (hn:n∈QB p 0) (hx:m∈Qmd p (QB p 0) n):m∈QB p 0:=by
 have first:∀(i k:Nat) (f:Qo) (b:QI),p[i]? = some f→f.blocks[k]? = some b→(⟨3,(i:Nat),(k:Nat),0⟩:Qx)∈QB p 0:=fun i k f b h1 h2=>by
  have h3:=(hc.stmt (List.mem_of_getElem? h1) (List.mem_of_getElem? h2)).1;exact At.node3 (j:=0) ⟨h1,h2,List.getElem?_eq_getElem (by omega)⟩
 obtain⟨i,f,hi,hk⟩:=QLb.1 hn;rcases hk with rfl|rfl|⟨k,b,j,s,hb,hs,hk⟩
 ·simp only [Qmd,if_true,List.mem_singleton] at hx;subst hx;have h1:=(hc.block (List.mem_of_getElem? hi)).1;exact first i 0 f _ hi (List.getElem?_eq_getElem (by omega))
 ·unfold Qmd at hx;rw [if_neg (by simp),if_pos rfl] at hx;exact(List.mem_filter.1 hx).1
 ·have hA:At p i k j f b s:=⟨hi,hb,hs⟩;obtain⟨hsb,hterm,htg⟩:=hc.at_ hA;have nxt:QTg s.op=false→(⟨3,(i:Nat),(k:Nat),(j:Int)+1⟩:Qx)∈QB p 0:=fun ht=>by
   have h1:=(List.getElem?_eq_some_iff.1 hs).1;rw [ht] at hterm;have h2:j+1<b.stmts.length:=by
    have:¬(j+1=b.stmts.length):=by simpa using hterm.symm
    omega
   have:=At.node3 (j:=j+1) (p:=p) (i:=i) (k:=k) ⟨hi,hb,List.getElem?_eq_getElem h2⟩
   simpa using this
  have goal3:∀x:Int,(x=3∨x=4∧s.op=3)→m∈Qmd p (QB p 0) ⟨x,i,k,j⟩→m∈QB p 0:=fun x hx3 hx=>by
   unfold Qmd at hx;rw [if_neg (by simp;omega),if_neg (by simp;omega),hA.d x] at hx;by_cases h9:s.op=9
   ·rw [if_pos h9] at hx;simp at hx;subst hx;exact QXt hi
   rw [if_neg h9] at hx;by_cases h3:s.op=3∧x=3
   ·rw [if_pos h3] at hx;obtain⟨g,f',hg,hg2,-⟩:=hc.callee hA h3.1;rw [hg] at hx;simp at hx;subst hx;exact QYt hg2
   rw [if_neg h3] at hx;by_cases h7:s.op=7∨s.op=8
   ·rw [if_pos h7] at hx;obtain⟨t,ht,rfl⟩:=List.mem_map.1 hx;have h4:=htg t ht;rw [if_neg (by simp;omega)] at h4;obtain⟨q,hq,hq2⟩:=Qgc h4;simp only [hA.fn];unfold blkI;rw [hq];unfold QPb at hq2;rw [List.getElem?_map] at hq2
    cases hbq:f.blocks[q]? with
   |none=>rw [hbq] at hq2;cases hq2
   |some b'=>exact first i q f b' hi hbq
   ·rw [if_neg h7] at hx;simp at hx;subst hx;refine nxt ?_;unfold QTg;simp;omega
  rcases hk with rfl|⟨h3,rfl⟩
  ·exact goal3 3 (.inl rfl) hx
  ·exact goal3 4 (.inr ⟨rfl,h3⟩) hx
end
end Go.Proofs.YtijekimobahgpaaGreatDoor
