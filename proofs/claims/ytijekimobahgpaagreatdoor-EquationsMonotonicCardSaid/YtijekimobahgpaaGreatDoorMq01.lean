/- A part of the proof. -/
import Derived.Test.YtijekimobahgpaaGreatDoorMq00
import Derived.IntWalk
import Derived.Shelf.Spec.TrailingZeros
import Derived.Lib.LaidTab
import Derived.Lib.TrailingZeros
import Derived.Maps.AppendAt
import Derived.Lib.AppendZerosOnto
import Derived.Laws.CopyOwn
import Derived.Laws.NewBlocks
set_option linter.unusedVariables false
set_option linter.unusedSimpArgs false
set_option linter.unusedSectionVars false
set_option maxRecDepth 100000
set_option maxHeartbeats 16000000
namespace Go.Proofs.YtijekimobahgpaaGreatDoor
section
def Asc (l:List Int):Prop:=l.Pairwise (· < ·)
theorem QIi:∀{a b:List Int},Asc a→Asc b→(∀x,x∈a↔x∈b)→a=b
|[],[],_,_,_=>rfl
|[],y::b,_,_,h=>by have:=(h y).2 (by simp);cases this
|x::a,[],_,_,h=>by have:=(h x).1 (by simp);cases this
|x::a,y::b,ha,hb,h=>by
  obtain⟨ha1,ha2⟩:=List.pairwise_cons.1 ha
  obtain⟨hb1,hb2⟩:=List.pairwise_cons.1 hb
  have e:x=y:=by
   rcases List.mem_cons.1 ((h x).1 (by simp)) with e|e
   ·exact e
   ·rcases List.mem_cons.1 ((h y).2 (by simp)) with e'|e'
    ·exact e'.symm
    ·have:=ha1 y e';have:=hb1 x e;omega
  subst e
  congr 1
  refine QIi ha2 hb2 fun z=>?_
  constructor
  ·intro hz;rcases List.mem_cons.1 ((h z).1 (List.mem_cons_of_mem _ hz)) with e|e
   ·have:=ha1 z hz;omega
   ·exact e
  ·intro hz;rcases List.mem_cons.1 ((h z).2 (List.mem_cons_of_mem _ hz)) with e|e
   ·have:=hb1 z hz;omega
   ·exact e
def insI (l:List Int) (n:Int):List Int:=if n∈l then l else l.takeWhile (decide <| · < n)++n::l.dropWhile (decide <| · < n)
theorem Qls {l:List Int} {n x:Int}:x∈insI l n↔x∈l∨x=n:=by
 unfold insI
 split
 ·constructor
  ·exact .inl
  ·rintro(h|rfl) <;> assumption
 ·have:=List.takeWhile_append_dropWhile (p:=fun y:Int=>decide (y<n)) (l:=l);constructor
  ·intro h;rcases List.mem_append.1 h with h|h
   ·left;rw [←this];exact List.mem_append.2 (.inl h)
   ·rcases List.mem_cons.1 h with h|h
    ·exact .inr h
    ·left;rw [←this];exact List.mem_append.2 (.inr h)
  ·rintro(h|rfl)
   ·rw [←this] at h;rcases List.mem_append.1 h with h|h
    ·exact List.mem_append.2 (.inl h)
    ·exact List.mem_append.2 (.inr (List.mem_cons_of_mem _ h))
   ·exact List.mem_append.2 (.inr (by simp))
theorem Qsl {n:Int}:∀{l:List Int},Asc l→n∉l→∀x∈l.dropWhile (decide <| · < n),n<x
|[],_,_,x,hx=>by simp at hx
|y::l,ha,hn,x,hx=>by
  obtain⟨h1,h2⟩:=List.pairwise_cons.1 ha
  have hn':n≠y∧n∉l:=by simpa using hn
  rw [List.dropWhile_cons] at hx
  split at hx
  ·exact Qsl h2 hn'.2 x hx
  ·rename_i hy
   have hy':n<y:=by
    have:¬y<n:=by simpa using hy
    omega
   rcases List.mem_cons.1 hx with rfl|hx
   ·exact hy'
   ·have:=h1 x hx;omega
theorem Qop {n x:Int}:∀{l:List Int},x∈l.takeWhile (decide <| · < n)→x<n
|[],h=>by simp at h
|y::l,h=>by
  rw [List.takeWhile_cons] at h
  split at h
  ·rename_i hy
   rcases List.mem_cons.1 h with rfl|h
   ·simpa using hy
   ·exact Qop h
  ·cases h
theorem QYs {l:List Int} {n:Int} (h:Asc l):Asc (insI l n):=by
 unfold insI
 split
 ·exact h
 ·rename_i hn;have hw:=List.takeWhile_append_dropWhile (p:=fun y:Int=>decide (y<n)) (l:=l);refine List.pairwise_append.2 ⟨h.sublist (List.takeWhile_sublist _),List.pairwise_cons.2 ⟨Qsl h hn,h.sublist (List.dropWhile_sublist _)⟩,?_⟩;intro a ha b hb;have h1:=Qop ha;rcases List.mem_cons.1 hb with rfl|hb
  ·exact h1
  ·have:=Qsl h hn b hb;omega
def rowF (n:Nat) (f:Nat→Bool):List Int:=((List.range n).filter f).map fun k:Nat=>(k:Int)
theorem Qih {n:Nat} {f:Nat→Bool} {x:Int}:x∈rowF n f↔∃k:Nat,x=k∧k<n∧f k=true:=by
 unfold rowF;simp only [List.mem_map,List.mem_filter,List.mem_range];constructor
 ·rintro⟨k,⟨h1,h2⟩,rfl⟩;exact⟨k,rfl,h1,h2⟩
 ·rintro⟨k,rfl,h1,h2⟩;exact⟨k,⟨h1,h2⟩,rfl⟩
theorem Qzh (n:Nat) (f:Nat→Bool):Asc (rowF n f):=by
 unfold Asc rowF;refine List.Pairwise.map (R:=(· < ·)) _ (fun a b h=>by omega) ?_;exact List.pairwise_lt_range.sublist List.filter_sublist
theorem Qbm (n:Nat) (f:Nat→Bool):(rowF n f).length≤n:=by
 unfold rowF;rw [List.length_map];exact Nat.le_trans (List.length_filter_le _ _) (by simp)
def Qve (p:List Qo) (l:List Qx) (i j:Nat):Bool:=
 match l[i]?,l[j]? with
|some n,some m=>decide (m∈Qmd p l n)
|_,_=>false
def QLl (p:List Qo) (i:Nat):List Int:=rowF (QR p).length fun j=>Qve p (QR p) i j
def Qgm (p:List Qo) (j:Nat):List Int:=rowF (QR p).length fun i=>Qve p (QR p) i j
def Qkc (p:List Qo):List (List Int):=(List.range (QR p).length).map (QLl p)
def Qmc (p:List Qo):List (List Int):=(List.range (QR p).length).map (Qgm p)
theorem QGf {α:Type} [DecidableEq α]:∀{a b:List α},a.Nodup→(∀x∈a,x∈b)→a.length≤b.length
|[],b,_,_=>Nat.zero_le _
|x::a,b,h,hs=>by
  obtain⟨h1,h2⟩:=List.nodup_cons.1 h
  have hx:x∈b:=hs x (by simp)
  have h3:=QGf (b:=b.erase x) h2 (fun y hy=>by
   have hne:y≠x:=fun e=>h1 (e▸hy)
   exact(List.mem_erase_of_ne hne).2 (hs y (List.mem_cons_of_mem _ hy)))
  have h4:=List.length_erase_of_mem hx
  have h5:0<b.length:=List.length_pos_of_mem hx
  simp only [List.length_cons]
  omega
theorem QVe (a b:List Int):sumI (a++b)=sumI a+sumI b:=by
 have h:∀(l:List Int) (x:Int),l.foldl (· + ·) x=x+sumI l:=by
  intro l
  induction l with
 |nil=>intro x;simp [sumI]
 |cons y l ih=>intro x;unfold sumI;rw [List.foldl_cons,List.foldl_cons,ih,ih (0+y)];omega
 unfold sumI;rw [List.foldl_append,h b];rfl
theorem QGh (x:Int) (l:List Int):sumI (x::l)=x+sumI l:=by
 have:=QVe [x] l
 simpa [sumI] using this
theorem Que (p:List Qo) (a b:List Qx):Qva p (a++b)=Qva p a++Qva p b:=by
 unfold Qva;rw [List.map_append,List.flatten_append]
theorem QOe (p:List Qo) (n:Qx) (b:List Qx):Qva p (n::b)=QU p n++Qva p b:=rfl
theorem QHn {s:QD} (h:stmtB s=true):(s.op=7→s.targets.length=1)∧(s.op=8→s.targets.length=2):=by
 unfold stmtB opB at h;simp only [Bool.and_eq_true] at h;have h4:=h.2.2;constructor
 ·intro e;rw [e] at h4;simp at h4;exact h4.2.2
 ·intro e;rw [e] at h4;simp at h4;exact h4.2.2
theorem QUo {p:List Qo} (hc:Ckd p) {i k j:Nat} {f:Qo} {b:QI} {s:QD} (h:At p i k j f b s):((Qva p (QWe i k j s)).length:Int)=Qod s:=by
 obtain⟨hsb,-,-⟩:=hc.at_ h;obtain⟨h7,h8⟩:=QHn hsb;have e4:QU p ⟨4,(i:Nat),(k:Nat),(j:Nat)⟩=[]:=by simp [QU]
 have e3:((QU p ⟨3,(i:Nat),(k:Nat),(j:Nat)⟩).length:Int)=Qod s:=by
  unfold QU Qod;rw [if_neg (by simp),if_pos rfl,h.d 3];by_cases c7:s.op=7
  ·rw [if_pos (.inl c7),List.length_map,h7 c7,if_neg (by omega),if_neg (by omega)];rfl
  by_cases c8:s.op=8
  ·rw [if_pos (.inr c8),List.length_map,h8 c8,if_neg (by omega),if_pos c8];rfl
  rw [if_neg (by omega)];by_cases c9:s.op=9
  ·rw [if_pos c9,if_neg (by omega),if_neg (by omega)];rfl
  rw [if_neg c9];by_cases c3:s.op=3
  ·rw [if_pos c3,if_pos c3];rfl
  ·rw [if_neg c3,if_neg c3,if_neg c8];rfl
 unfold QWe;rw [QOe,List.length_append,Int.natCast_add,e3];by_cases c3:s.op=3
 ·rw [if_pos c3,QOe,e4];simp [Qva]
 ·rw [if_neg c3];simp [Qva]
theorem QAi {p:List Qo} (hc:Ckd p) {i k:Nat} {f:Qo} {b:QI} (hf:p[i]? = some f) (hb:f.blocks[k]? = some b):∀(l:List QD) (m:Nat),(∀j s,l[j]? = some s→b.stmts[m+j]? = some s)→((Qva p (Qta i k l m)).length:Int)=sumI (l.map Qod)
|[],m,_=>by simp [Qta,Qva,sumI]
|s::r,m,h=>by
  unfold Qta
  have h0:=QUo hc (j:=m) ⟨hf,hb,by simpa using h 0 s rfl⟩
  have h1:=QAi hc hf hb r (m+1) (fun j s' hj=>by rw [show m+1+j=m+(j+1) by omega];exact h (j+1) s' (by simpa using hj))
  rw [Que,List.length_append,Int.natCast_add,h0,h1,List.map_cons,QGh]
theorem Qrh {p:List Qo} (hc:Ckd p) {i:Nat} {f:Qo} (hf:p[i]? = some f):∀(l:List QI) (m:Nat),(∀k b,l[k]? = some b→f.blocks[m+k]? = some b)→((Qva p (Qca i l m)).length:Int)=sumI ((l.map QI.stmts).flatten.map Qod)
|[],m,_=>by simp [Qca,Qva,sumI]
|b::r,m,h=>by
  unfold Qca
  have h0:=QAi hc hf (by simpa using h 0 b rfl:f.blocks[m]? = some b) b.stmts 0 (fun j s hj=>by simpa using hj)
  have h1:=Qrh hc hf r (m+1) (fun j s' hj=>by rw [show m+1+j=m+(j+1) by omega];exact h (j+1) s' (by simpa using hj))
  rw [Que,List.length_append,Int.natCast_add,h0,h1,List.map_cons,List.flatten_cons,List.map_append,QVe]
theorem QBi {p:List Qo} (hc:Ckd p):∀(l:List Qo) (m:Nat),(∀k f,l[k]? = some f→p[m+k]? = some f)→((Qva p (QB l m)).length:Int)=l.length+sumI ((QH l).map Qod)
|[],m,_=>by simp [QB,Qva,sumI,QH]
|f::r,m,h=>by
  unfold QB
  have h0:=Qrh hc (by simpa using h 0 f rfl:p[m]? = some f) f.blocks 0 (fun j s hj=>by simpa using hj)
  have h1:=QBi hc r (m+1) (fun j s' hj=>by rw [show m+1+j=m+(j+1) by omega];exact h (j+1) s' (by simpa using hj))
  have e1:QU p ⟨1,(m:Nat),-1,-1⟩=[(⟨1,(m:Nat),-1,-1⟩,⟨3,(m:Nat),0,0⟩)]:=by simp [QU]
  have e2:Qva p [(⟨2,(m:Nat),-1,-1⟩:Qx)]=[]:=by simp [Qva,QU]
  have e3:QH (f::r)=(f.blocks.map QI.stmts).flatten++QH r:=rfl
  unfold Qcf
  rw [Que,QOe,Que,e1,e2,List.append_nil,List.length_append,List.length_append,Int.natCast_add,Int.natCast_add,h0,h1,e3,List.map_append,QVe,List.length_cons]
  simp only [List.length_cons,List.length_nil]
  omega
theorem QVm {p:List Qo} (hc:Ckd p):((Qva p (QB p 0)).length:Int)=QNd p:=by
 rw [QBi hc p 0 (fun k f h=>by simpa using h)];unfold QNd;rw [if_pos hc.valid]
theorem Qri (i k:Nat):∀(l:List QD) (m:Nat),((Qta i k l m).length:Int)=sumI (l.map QHd)
|[],m=>by simp [Qta,sumI]
|s::r,m=>by
  unfold Qta
  rw [List.length_append,Int.natCast_add,Qri i k r (m+1),List.map_cons,QGh]
  congr 1
  unfold QWe QHd
  by_cases h:s.op=3 <;> simp [h]
theorem Qfh (i:Nat):∀(l:List QI) (m:Nat),((Qca i l m).length:Int)=sumI ((l.map QI.stmts).flatten.map QHd)
|[],m=>by simp [Qca,sumI]
|s::r,m=>by
  unfold Qca
  rw [List.length_append,Int.natCast_add,Qri,Qfh i r (m+1),List.map_cons,List.flatten_cons,List.map_append,QVe]
theorem Qsi:∀(l:List Qo) (m:Nat),((QB l m).length:Int)=2*l.length+sumI ((QH l).map QHd)
|[],m=>by simp [QB,sumI,QH]
|f::r,m=>by
  unfold QB Qcf
  have e3:QH (f::r)=(f.blocks.map QI.stmts).flatten++QH r:=rfl
  rw [List.length_append,List.length_cons,List.length_append,e3,List.map_append,QVe]
  have h1:=Qfh m f.blocks 0
  have h2:=Qsi r (m+1)
  simp only [List.length_cons,List.length_nil]
  omega
theorem Qpm {p:List Qo} (hc:Ckd p):((QB p 0).length:Int)=QMd p:=by
 rw [Qsi];unfold QMd;rw [if_pos hc.valid]
theorem Qne {p:List Qo} (h:QFa p=0):QR p=QB p 0:=by unfold QR;rw [if_pos h]
theorem Qme {p:List Qo}:(QR p).length≤256:=by
 unfold QR
 split
 ·rename_i h;have hc:=Qzb h;have:=Qpm hc;have:=hc.nodes;omega
 ·simp
def Qle (n:Nat) (g:Nat→Nat→Bool):Nat→List (Nat×Nat)
|0=>[]
|i+1=>Qle n g i++((List.range n).filter (g i)).map fun j=>(i,j)
theorem Qoe {n:Nat} {g:Nat→Nat→Bool} {a b:Nat}:∀{k:Nat},(a,b)∈Qle n g k↔a<k∧b<n∧g a b=true
|0=>by simp [Qle]
|k+1=>by
  unfold Qle
  rw [List.mem_append,Qoe]
  simp only [List.mem_map,List.mem_filter,List.mem_range,Prod.mk.injEq]
  constructor
  ·rintro(⟨h1,h2⟩|⟨j,⟨h1,h2⟩,rfl,rfl⟩)
   ·exact⟨by omega,h2⟩
   ·exact⟨by omega,h1,h2⟩
  ·rintro⟨h1,h2,h3⟩
   by_cases e:a=k
   ·subst e;exact .inr ⟨b,⟨h2,h3⟩,rfl,rfl⟩
   ·exact .inl ⟨by omega,h2,h3⟩
theorem Qeh (n:Nat) (g:Nat→Nat→Bool):∀k,(Qle n g k).Nodup
|0=>List.nodup_nil
|k+1=>by
  unfold Qle
  refine List.nodup_append.2 ⟨Qeh n g k,?_,?_⟩
  ·refine List.Pairwise.map (R:=(·≠·)) _ (fun a b h e=>h (by injection e)) ?_
   exact(List.nodup_range).sublist List.filter_sublist
  ·intro a ha b hb e
   subst e
   obtain⟨x,y⟩:=a
   have h1:=(Qoe.1 ha).1
   simp only [List.mem_map,Prod.mk.injEq] at hb
   obtain⟨j,_,h2,_⟩:=hb
   omega
theorem Qwg (n:Nat) (g:Nat→Nat→Bool):∀k,((Qle n g k).length:Int)=sumI ((List.range k).map fun i=>((rowF n (g i)).length:Int))
|0=>by simp [Qle,sumI]
|k+1=>by
  unfold Qle
  rw [List.length_append,Int.natCast_add,Qwg n g k,List.range_succ,List.map_append,QVe]
  congr 1
  simp [sumI,rowF]
theorem Qmi {p:List Qo} (h:QFa p=0):sumI ((Qkc p).map fun l=>(l.length:Int))≤1024∧sumI ((Qmc p).map fun l=>(l.length:Int))≤1024:=by
 have hc:=Qzb h;have hl:=Qne h;have hn:(QB p 0).Nodup:=QIe p 0;obtain⟨l,hl2⟩:=Ze (QB p 0);have key:∀(q:Nat→Nat→Nat×Nat),(∀a b c d,q a b=q c d→a=c∧b=d)→(Qle l.length (fun i j=>Qve p l (q i j).1 (q i j).2) l.length).length≤(Qva p l).length:=fun q hq=>by
  have h1:=QGf (a:=(Qle l.length (fun i j=>Qve p l (q i j).1 (q i j).2) l.length).map fun x=>((l[(q x.1 x.2).1]?).getD ⟨0,0,0,0⟩,(l[(q x.1 x.2).2]?).getD ⟨0,0,0,0⟩)) (b:=Qva p l) ?_ ?_
  ·rwa [List.length_map] at h1
  ·refine List.pairwise_map.2 ((Qeh _ _ _).imp_of_mem ?_);rintro⟨a,b⟩ ⟨c,d⟩ ha hb hne e;have ha:=(Qoe.1 ha).2.2;have hb:=(Qoe.1 hb).2.2;unfold Qve at ha hb
   split at ha
   ·rename_i n m h1 h2
    split at hb
    ·rename_i n' m' h3 h4;simp only [h1,h2,h3,h4,Option.getD_some,Prod.mk.injEq] at e;obtain⟨rfl,rfl⟩:=e;rw [hl2] at hn;have i1:=(List.getElem?_inj (List.getElem?_eq_some_iff.1 h1).1 hn).1 (h1.trans h3.symm);have i2:=(List.getElem?_inj (List.getElem?_eq_some_iff.1 h2).1 hn).1 (h2.trans h4.symm);have:=hq a b c d (Prod.ext i1 i2);exact hne (by rw [this.1,this.2])
    ·cases hb
   ·cases ha
  ·intro x hx;obtain⟨⟨a,b⟩,hx1,rfl⟩:=List.mem_map.1 hx;have hx:=(Qoe.1 hx1).2.2;unfold Qve at hx
   split at hx
   ·rename_i n m h1 h2;simp only [h1,h2,Option.getD_some];rw [←hl2];refine(Qsh hc n m).2 ⟨?_,by rw [hl2];simpa using hx⟩;rw [hl2];exact List.mem_of_getElem? h1
   ·cases hx
 have hE:=QVm hc;rw [hl2] at hE;have h3:=hc.edges;have k1:=key (fun i j=>(i,j)) (fun a b c d e=>by injection e with e1 e2;exact⟨e1,e2⟩);have k2:=key (fun i j=>(j,i)) (fun a b c d e=>by injection e with e1 e2;exact⟨e2,e1⟩);have p1:=Qwg l.length (fun i j=>Qve p l i j) l.length;have p2:=Qwg l.length (fun i j=>Qve p l j i) l.length;unfold Qkc Qmc QLl Qgm;rw [hl,hl2,List.map_map,List.map_map];simp only [] at k1 k2;refine⟨?_,?_⟩
 ·have:sumI (List.map ((fun l=>(l.length:Int)) ∘ fun i=>rowF l.length fun j=>Qve p l i j) (List.range l.length))=sumI ((List.range l.length).map fun i=>((rowF l.length (fun j=>Qve p l i j)).length:Int)):=rfl;rw [this,←p1];omega
 ·have:sumI (List.map ((fun l=>(l.length:Int)) ∘ fun j=>rowF l.length fun i=>Qve p l i j) (List.range l.length))=sumI ((List.range l.length).map fun i=>((rowF l.length (fun j=>Qve p l j i)).length:Int)):=rfl;rw [this,←p2];omega
end
section
variable [Base]
structure SysS where
 width:Int
 deps:List (List Int)
 trans:List Qw
 bnds:List QSet
deriving DecidableEq
def sysW (s:SysS):Prop:=(∀t∈s.trans,QSi t)∧∀b∈s.bnds,QLa b.words
def Qye (n:Int):Option Int→List Int→Bool
|_,[]=>true
|p,x::r=>((decide (0≤x)&&decide (x<n))&&(match p with|none=>true|some q=>decide (q<x)))&&Qye n (some x) r
def ascB (n:Int) (l:List Int):Bool:=Qye n none l
def QLd (w n:Int):Bool:=(decide (0≤w)&&decide (w≤256))&&(decide (1≤n)&&decide (n≤256))
def QDe (w:Int) (l:List QSet):Bool:=l.all fun s=>setB s&&decide (s.width=w)
def Qrc (w:Int) (t:Qw):Bool:=Qtd t&&decide (t.gen.width=w)
def lenI {α:Type} (l:List α):Int:=(l.length:Int)
def totI (l:List (List Int)):Int:=sumI (l.map lenI)
def sysB (s:SysS):Bool:=
 QLd s.width s.deps.length&&((decide (s.trans.length=s.deps.length)&&decide (s.bnds.length=s.deps.length))&&((s.deps.all (ascB s.deps.length)&&decide (totI s.deps≤1024))&&(QDe s.width s.bnds&&s.trans.all (Qrc s.width))))
def QIg (s:SysS):Int:=if sysB s then totI s.deps else 0
def orS (a b:QSet):QSet:=zipS (· ||| ·) a b
def QPa (s:SysS) (v:List QSet):List Int→QSet→QSet
|[],out=>out
|m::r,out=>QPa s v r (orS out (QSc ((s.trans[m.toNat]?).getD ⟨⟨0,[]⟩,⟨0,[]⟩,[]⟩) ((v[m.toNat]?).getD ⟨0,[]⟩)).1)
def QWa (s:SysS) (v:List QSet) (n:Nat):QSet:=QPa s v ((s.deps[n]?).getD []) ((s.bnds[n]?).getD ⟨0,[]⟩)
def Qlc (s:SysS) (v:List QSet) (n:Int):Int:=
 if sysB s=false then 1 else if n<0∨(s.deps.length:Int)≤n then 9 else if v.length≠s.deps.length∨v.all setB=false then 1 else if QDe s.width v=false then 2 else 0
def QVb (s:SysS) (v:List QSet) (n:Int):QSet×Int:=if Qlc s v n=0 then (QWa s v n.toNat,0) else (⟨0,[]⟩,Qlc s v n)
theorem Qci {n:Int}:∀{l:List Int} {p:Option Int},Qye n p l=true→∀c∈l,0≤c∧c<n
|[],_,_,c,hc=>by cases hc
|d::r,p,h,c,hc=>by
  unfold Qye at h
  simp only [Bool.and_eq_true,decide_eq_true_eq] at h
  rcases List.mem_cons.1 hc with rfl|hc
  ·exact h.1.1
  ·exact Qci h.2 c hc
theorem QTk {n:Int}:∀{l:List Int} {p:Option Int},Qye n p l=true→Asc l∧∀q,p=some q→∀x∈l,q<x
|[],_,_=>⟨List.Pairwise.nil,fun q _ x hx=>by cases hx⟩
|d::r,p,h=>by
  unfold Qye at h
  simp only [Bool.and_eq_true,decide_eq_true_eq] at h
  obtain⟨h1,h2⟩:=QTk h.2
  refine⟨List.pairwise_cons.2 ⟨fun x hx=>h2 d rfl x hx,h1⟩,fun q hq x hx=>?_⟩
  subst hq
  have h3:q<d:=by simpa using h.1.2
  rcases List.mem_cons.1 hx with rfl|hx
  ·exact h3
  ·have:=h2 d rfl x hx;omega
theorem QQj {n:Int}:∀{l:List Int} {p:Option Int},Asc l→(∀x∈l,0≤x∧x<n)→(∀q,p=some q→∀x∈l,q<x)→Qye n p l=true
|[],_,_,_,_=>by simp [Qye]
|d::r,p,h1,h2,h3=>by
  obtain⟨h4,h5⟩:=List.pairwise_cons.1 h1
  unfold Qye
  simp only [Bool.and_eq_true,decide_eq_true_eq]
  refine⟨⟨h2 d (by simp),?_⟩,QQj h5 (fun x hx=>h2 x (List.mem_cons_of_mem _ hx)) (fun q hq x hx=>by cases hq;exact h4 x hx)⟩
  cases p with
 |none=>rfl
 |some q=>simpa using h3 q rfl d (by simp)
theorem QYp {n:Nat} {l:List Int} (h:ascB n l=true):l.length≤n:=by
 have h1:=(QTk h).1;have h2:=Qci h;have h3:=QGf (a:=l) (b:=(List.range n).map fun k:Nat=>(k:Int)) (h1.imp fun {a b} h=>by omega) (fun x hx=>by
  have:=h2 x hx;exact List.mem_map.2 ⟨x.toNat,List.mem_range.2 (by omega),by omega⟩)
 simpa using h3
theorem Qqk (n:Nat) (f:Nat→Bool):ascB n (rowF n f)=true:=
 QQj (Qzh n f) (fun x hx=>by obtain⟨k,rfl,h,_⟩:=Qih.1 hx;omega) (fun q hq=>by cases hq)
theorem QCf {m:Nat} {s t:QSet} (hs:Ok m s) (ht:Ok m t):Ok m (orS s t)∧∀b:Nat,QE (orS s t).words b=(QE s.words b||QE t.words b):=by
 have hw:s.width=t.width:=hs.width.trans ht.width.symm;have hz:=Qee (f:=(· ||| ·)) (fun _ _=>Qxm) hs.form ht.form hw;exact⟨⟨hz.1,Qzr (g:=fun a b=>a||b) Qcp (fun _ _=>Qxm) rfl hs.ok ht.ok hs.words ht.words hw,hs.width⟩,fun b=>by
  rw [show(orS s t).words=List.zipWith (· ||| ·) s.words t.words from rfl,QXk (g:=fun a b=>a||b) Qcp hz.2 rfl]⟩
theorem QRg {m:Nat} (t:Qw) {s:QSet} (hs:Ok m s):Ok m (valS t m s)∧∀b,b<m→QE (valS t m s).words b=valB t m s b:=
 ⟨QIb _ hs.le,fun b hb=>by unfold valS;rw [Qpb _ hs.le];simp [hb]⟩
theorem Qag {m:Nat} {t:Qw} {s:QSet} (ht:OkT m t) (hs:Ok m s):QSc t s=(valS t m s,0):=by
 unfold QSc;rw [if_neg (by rw [ht.b,hs.ok];simp),if_neg (by rw [ht.gen.width,hs.width];simp),hs.width];simp
structure QSd (n m:Nat) (s:SysS):Prop where
 width:s.width=m
 wle:m≤256
 n1:1≤n
 nle:n≤256
 deps:s.deps.length=n
 trans:s.trans.length=n
 bnds:s.bnds.length=n
 asc:∀l∈s.deps,ascB n l=true
 tot:totI s.deps≤1024
 okB:∀b∈s.bnds,Ok m b
 okT:∀t∈s.trans,OkT m t
theorem QDr {s:SysS} (h:sysB s=true) (hw:sysW s):∃n m,QSd n m s:=by
 unfold sysB QLd QDe Qrc at h;simp only [Bool.and_eq_true,decide_eq_true_eq,List.all_eq_true] at h;obtain⟨⟨⟨w0,w1⟩,n1,n2⟩,⟨h1,h2⟩,⟨h3,h4⟩,h5,h6⟩:=h;obtain⟨m,hm⟩:=Int.eq_ofNat_of_zero_le w0;refine⟨s.deps.length,m,hm,by omega,by omega,by omega,rfl,h1,h2,h3,h4,fun b hb=>?_,fun t ht=>?_⟩
 ·obtain⟨k1,k2⟩:=h5 b hb;obtain⟨k,e,hk⟩:=Qcj k1 (hw.2 b hb);have:k=m:=by omega
  exact this▸hk
 ·obtain⟨k1,k2⟩:=h6 t ht;obtain⟨k,e,hk⟩:=QRi k1 (hw.1 t ht);have:k=m:=by omega
  exact this▸hk
theorem QSd.b {n m:Nat} {s:SysS} (h:QSd n m s):sysB s=true:=by
 unfold sysB QLd QDe Qrc;simp only [Bool.and_eq_true,decide_eq_true_eq,List.all_eq_true];have h1:=h.wle;have h2:=h.n1;have h3:=h.nle;have h4:=h.width;have h5:=h.deps;refine⟨⟨⟨by omega,by omega⟩,by omega,by omega⟩,⟨by rw [h.trans,h5],by rw [h.bnds,h5]⟩,⟨fun l hl=>by rw [h5];exact h.asc l hl,h.tot⟩,fun b hb=>⟨(h.okB b hb).ok,by rw [(h.okB b hb).width,h4]⟩,fun t ht=>⟨(h.okT t ht).b,by rw [(h.okT t ht).gen.width,h4]⟩⟩
theorem QSd.w {n m:Nat} {s:SysS} (h:QSd n m s):sysW s:=⟨fun t ht=>(h.okT t ht).w,fun b hb=>(h.okB b hb).words⟩
theorem Qmj {n m:Nat} {s:SysS} {v:List QSet} (h:QSd n m s) (hv:v.length=n) (hvo:∀x∈v,Ok m x):∀(l:List Int) (out:QSet),(∀x∈l,0≤x∧x<n)→Ok m out →
  Ok m (QPa s v l out)∧∀b,b<m→QE (QPa s v l out).words b=(QE out.words b||l.any fun x=>valB ((s.trans[x.toNat]?).getD ⟨⟨0,[]⟩,⟨0,[]⟩,[]⟩) m ((v[x.toNat]?).getD ⟨0,[]⟩) b)
|[],out,_,ho=>⟨ho,fun b _=>by simp [QPa]⟩
|x::r,out,hl,ho=>by
  unfold QPa
  have hx:=hl x (by simp)
  have ht:OkT m ((s.trans[x.toNat]?).getD ⟨⟨0,[]⟩,⟨0,[]⟩,[]⟩):=by
   have hlt:x.toNat<s.trans.length:=by rw [h.trans];omega
   rw [List.getElem?_eq_getElem hlt];exact h.okT _ (List.getElem_mem hlt)
  have hs:Ok m ((v[x.toNat]?).getD ⟨0,[]⟩):=by
   have hlt:x.toNat<v.length:=by rw [hv];omega
   rw [List.getElem?_eq_getElem hlt];exact hvo _ (List.getElem_mem hlt)
  rw [Qag ht hs];obtain⟨k1,k2⟩:=QRg ((s.trans[x.toNat]?).getD ⟨⟨0,[]⟩,⟨0,[]⟩,[]⟩) hs;obtain⟨k3,k4⟩:=QCf ho k1;obtain⟨k5,k6⟩:=Qmj h hv hvo r _ (fun y hy=>hl y (List.mem_cons_of_mem _ hy)) k3;refine⟨k5,fun b hb=>?_⟩;rw [k6 b hb,k4,k2 b hb,List.any_cons,Bool.or_assoc]
end
section
variable [Base]
def Qyf (l:List Qra) (b:Nat):Int:=((l[b]?).getD ⟨0,-2⟩).var
def Qxc (l:List Qra) (b:Nat):Int:=((l[b]?).getD ⟨-2,0⟩).node
def kilF (vars:List Str) (l:List Qra) (s:QD) (b:Nat):Bool:=dfnB s.op&&decide (Qyf l b=idxI vars s.dfn)
def genF (vars:List Str) (l:List Qra) (kind:Int) (i:Nat) (s:QD) (b:Nat):Bool:=
 if kind=2 then s.uses.any fun u=>decide (idxI vars u=(b:Int))
 else if kind=1 then dfnB s.op&&decide (Qxc l b=(i:Int))
 else if kind=3 then decide (s.op=4)&&decide (Qyf l b=idxI vars s.dfn)
 else false
def copF (vars:List Str) (kind:Int) (s:QD):List Cp:=
 if (kind=3∨kind=4)∧s.op=1 then ((List.range vars.length).filter fun u=>s.uses.contains ((vars[u]?).getD [])).map fun u:Nat=>((u:Int),idxI vars s.dfn) else []
def rawT (vars:List Str) (l:List Qra) (kind:Int) (i:Nat) (s:QD):Qw:=⟨mkS l.length (genF vars l kind i s),mkS l.length (kilF vars l s),copF vars kind s⟩
def Qie:QD:=⟨0,[],[],[]⟩
def Qkk (p:List Qo) (n:Qx):QD:=if n.kind=3 then Qec p n else Qie
def QZe (p:List Qo) (kind:Int) (i:Nat) (n:Qx):Qw:=Qlb (rawT (QN p) (QC p kind) kind i (Qkk p n)) (QC p kind).length
def bndT (p:List Qo) (kind:Int) (i:Nat):QSet:=if kind=4∧i=0 then QMb (QC p kind).length (QC p kind).length else Qy (QC p kind).length
def QZc (p:List Qo) (kind:Int):SysS:=
 ⟨(QC p kind).length,if kind=2 then Qkc p else Qmc p,(QR p).mapIdx (QZe p kind),(QR p).mapIdx fun i _=>bndT p kind i⟩
def ofT (p:List Qo) (kind:Int):SysS×Int:=if Qxb p kind=0 then (QZc p kind,0) else (⟨0,[],[],[]⟩,Qxb p kind)
theorem Qkb {p:List Qo} {kind:Int} (h:Qxb p kind=0):QFa p=0∧1≤kind∧kind≤4∧QC p kind=QBc p kind∧(QC p kind).length≤256:=by
 have h0:=h;unfold Qxb at h
 split at h
 ·rename_i h1;exact absurd h h1
 rename_i h1
 split at h
 ·cases h
 split at h
 ·cases h
 have e:QC p kind=QBc p kind:=by unfold QC;rw [if_pos h0]
 exact⟨by omega,by omega,by omega,e,by rw [e];omega⟩
theorem Qtf {p:List Qo} {kind:Int} (h:Qxb p kind=0) (hk:kind≠1):QC p kind=(List.range (QN p).length).map fun v:Nat=>(⟨-1,(v:Int)⟩:Qra):=by
 rw [(Qkb h).2.2.2.1];unfold QBc;rw [if_neg hk]
theorem QQi {p:List Qo} {kind:Int} (h:Qxb p kind=0) (hk:kind≠1) {b:Nat} (hb:b<(QN p).length):Qyf (QC p kind) b=b:=by
 unfold Qyf;rw [Qtf h hk,List.getElem?_map,List.getElem?_range hb];rfl
theorem Qes {out:List Str} {n x:Str}:x∈Qfc out n↔x∈out∨(x=n∧n≠[]):=by
 unfold Qfc
 split
 ·rename_i h;simp only [Bool.or_eq_true,List.isEmpty_iff,List.contains_iff_mem] at h;constructor
  ·exact .inl
  ·rintro(h1|⟨rfl,h1⟩)
   ·exact h1
   ·rcases h with h|h
    ·exact absurd h h1
    ·exact h
 ·rename_i h;simp only [Bool.or_eq_true,List.isEmpty_iff,List.contains_iff_mem,not_or] at h;rw [List.mem_append,List.mem_singleton];constructor
  ·rintro(h1|rfl)
   ·exact .inl h1
   ·exact .inr ⟨rfl,h.1⟩
  ·rintro(h1|⟨rfl,_⟩)
   ·exact .inl h1
   ·exact .inr rfl
theorem Qdo {out:List Str} {n:Str} (h:out.Nodup):(Qfc out n).Nodup:=by
 unfold Qfc
 split
 ·exact h
 ·rename_i hn;simp only [Bool.or_eq_true,List.isEmpty_iff,List.contains_iff_mem,not_or] at hn;exact List.nodup_append.2 ⟨h,by simp,fun a ha b hb e=>by simp at hb;subst hb;exact hn.2 (e▸ha)⟩
theorem Qtk {x:Str}:∀{l:List Str} {out:List Str},x∈l.foldl Qfc out↔x∈out∨(x∈l∧x≠[])
|[],out=>by simp
|n::r,out=>by
  rw [List.foldl_cons,Qtk,Qes,List.mem_cons]
  constructor
  ·rintro((h|⟨rfl,h⟩)|⟨h1,h2⟩)
   ·exact .inl h
   ·exact .inr ⟨.inl rfl,h⟩
   ·exact .inr ⟨.inr h1,h2⟩
  ·rintro(h|⟨rfl|h1,h2⟩)
   ·exact .inl (.inl h)
   ·exact .inl (.inr ⟨rfl,h2⟩)
   ·exact .inr ⟨h1,h2⟩
theorem Qqi:∀{l:List Str} {out:List Str},out.Nodup→(l.foldl Qfc out).Nodup
|[],_,h=>h
|n::r,out,h=>by rw [List.foldl_cons];exact Qqi (Qdo h)
theorem Qoj {x:Str}:∀{l:List QD} {out:List Str},x∈l.foldl QYe out↔x∈out∨∃s∈l,x∈s.dfn::s.uses∧x≠[]
|[],out=>by simp
|n::r,out=>by
  rw [List.foldl_cons,Qoj]
  unfold QYe
  rw [Qtk]
  constructor
  ·rintro((h|h)|⟨s,h1,h2⟩)
   ·exact .inl h
   ·exact .inr ⟨n,by simp,h⟩
   ·exact .inr ⟨s,List.mem_cons_of_mem _ h1,h2⟩
  ·rintro(h|⟨s,h1,h2⟩)
   ·exact .inl (.inl h)
   ·rcases List.mem_cons.1 h1 with rfl|h1
    ·exact .inl (.inr h2)
    ·exact .inr ⟨s,h1,h2⟩
theorem Qch:∀{l:List QD} {out:List Str},out.Nodup→(l.foldl QYe out).Nodup
|[],_,h=>h
|n::r,out,h=>by rw [List.foldl_cons];exact Qch (Qqi h)
theorem Qwn (p:List Qo):(QN p).Nodup:=by
 unfold QN
 split
 ·exact Qch List.nodup_nil
 ·exact List.nodup_nil
theorem QFl {p:List Qo} (hv:QMa p=true) {x:Str}:x∈QN p↔∃s∈QH p,x∈s.dfn::s.uses∧x≠[]:=by
 unfold QN;rw [if_pos hv,Qoj];simp
theorem At.mem {p:List Qo} {i k j:Nat} {f:Qo} {b:QI} {s:QD} (h:At p i k j f b s):s∈QH p:=by
 unfold QH;simp only [List.mem_flatten,List.mem_map];exact⟨_,⟨f,h.fm,rfl⟩,by simp only [List.mem_flatten,List.mem_map];exact⟨_,⟨b,h.bm,rfl⟩,h.sm⟩⟩
theorem Qvm {x:Str} (h:QV x=true):x≠[]:=by
 rintro rfl;unfold QV QGg at h;simp at h
theorem Qje {s:QD} (h:stmtB s=true):(∀u∈s.uses,QV u=true)∧s.uses.length≤4:=by
 unfold stmtB Qjl at h;simp only [Bool.and_eq_true,List.all_eq_true,decide_eq_true_eq] at h;exact⟨h.1.1,by omega⟩
theorem Ckd.uses {p:List Qo} (hc:Ckd p) {i k j:Nat} {f:Qo} {b:QI} {s:QD} (h:At p i k j f b s):∀u∈s.uses,u∈QN p:=fun u hu=>
 (QFl hc.valid).2 ⟨s,h.mem,List.mem_cons_of_mem _ hu,Qvm ((Qje (hc.at_ h).1).1 u hu)⟩
theorem Qnq {s:QD} (h:stmtB s=true) (hd:dfnB s.op=true):QV s.dfn=true:=by
 unfold stmtB opB at h;unfold dfnB at hd;simp only [Bool.and_eq_true] at h;have h4:=h.2.2;simp only [Bool.or_eq_true,beq_iff_eq] at hd;rcases hd with(e|e)|e <;> rw [e] at h4 <;> simp at h4 <;> exact h4.1
theorem Ckd.dfn {p:List Qo} (hc:Ckd p) {i k j:Nat} {f:Qo} {b:QI} {s:QD} (h:At p i k j f b s) (hd:dfnB s.op=true):s.dfn∈QN p:=
 (QFl hc.valid).2 ⟨s,h.mem,by simp,Qvm (Qnq (hc.at_ h).1 hd)⟩
def QGa (l:List Qra) (v:Int):List Int:=rowF l.length fun i=>decide (Qyf l i=v)
theorem QJe {l:List Qra} {v x:Int}:x∈QGa l v↔∃k:Nat,x=k∧k<l.length∧Qyf l k=v:=by
 unfold QGa;rw [Qih];simp
theorem QBp {m:Nat}:∀(l:List Int) (s:QSet),(∀x∈l,0≤x∧x<m)→Ok m s→∃r,ofGo m l s=(r,0)∧Ok m r∧∀b,b<m→QE r.words b=(QE s.words b||decide ((b:Int)∈l))
|[],s,_,hs=>⟨s,rfl,hs,fun b _=>by simp⟩
|x::r,s,hl,hs=>by
  have hx:=hl x (by simp)
  unfold ofGo
  rw [if_neg (by omega)]
  obtain⟨k1,k2⟩:=hs.put (k:=x.toNat) (by omega)
  obtain⟨q,h1,h2,h3⟩:=QBp r (putS s x.toNat) (fun y hy=>hl y (List.mem_cons_of_mem _ hy)) k1
  refine⟨q,h1,h2,fun b hb=>?_⟩
  rw [h3 b hb,k2]
  rw [Bool.eq_iff_iff]
  simp only [Bool.or_eq_true,decide_eq_true_eq,List.mem_cons]
  constructor
  ·rintro((h|h)|h)
   ·exact .inl h
   ·exact .inr (.inl (by omega))
   ·exact .inr (.inr h)
  ·rintro(h|h|h)
   ·exact .inl (.inl h)
   ·exact .inl (.inr (by omega))
   ·exact .inr h
theorem Qbs {m:Nat} (hm:m≤256) {l:List Int} (hl:∀x∈l,0≤x∧x<m):ofS (m:Int) l=(mkS m fun b=>decide ((b:Int)∈l),0):=by
 obtain⟨r,h1,h2,h3⟩:=QBp l (Qy m) hl (QOb hm);unfold ofS;rw [if_pos (by omega)];have:(m:Int).toNat=m:=by simp
 rw [this,h1]
 congr 1
 refine h2.ext (QIb _ hm) fun b=>?_
 rw [Qpb _ hm];by_cases hb:b<m
 ·rw [h3 b hb,QNb];simp [hb]
 ·rw [h2.tail (Nat.le_of_not_lt hb)];simp [hb]
end
section
variable [Base]
def useB (op:Int):Bool:=op==1||op==2||op==5||op==8
def ownF (l:List Qra) (i:Nat):Int:=match (List.range l.length).find? (fun b=>decide (Qxc l b=(i:Int))) with|some b=>(b:Int)|none=>-1
def Qgg (vars:List Str) (l:List Qra) (kind:Int) (i:Nat) (s:QD):List Int:=
 (if kind=1∧dfnB s.op=true then [ownF l i] else [])++((if kind=3∧s.op=4 then QGa l (idxI vars s.dfn) else [])++(if kind=2∧useB s.op=true then (s.uses.map fun u=>QGa l (idxI vars u)).flatten else []))
def QQh (vars:List Str) (l:List Qra) (s:QD):List Int:=if dfnB s.op=true then QGa l (idxI vars s.dfn) else []
def QTe (vars:List Str) (l:List Qra) (kind:Int) (s:QD):List Cp:=
 if (kind=3∨kind=4)∧s.op=1 then s.uses.map fun u=>((QGa l (idxI vars u)).headD 0,(QGa l (idxI vars s.dfn)).headD 0) else []
def Qxa:List Cp→List Cp
|[]=>[]
|c::r=>match r with
 |[]=>[c]
 |d::_=>if c=d then Qxa r else c::Qxa r
theorem QRp {vars:List Str} {p:List Qo}:∀{ns:List Qx} {i:Nat} {f:Qra},f∈QUa vars p ns i→(i:Int)≤f.node
|[],_,_,h=>by cases h
|n::r,i,f,h=>by
  unfold QUa at h
  rcases List.mem_append.1 h with h|h
  ·split at h
   ·split at h
    ·split at h
     ·simp at h;subst h;simp
     ·cases h
    ·cases h
   ·cases h
  ·have:=QRp h;omega
theorem QZm {vars:List Str} {p:List Qo}:∀(ns:List Qx) (i:Nat),(QUa vars p ns i).Pairwise fun a b=>a.node<b.node
|[],_=>List.Pairwise.nil
|n::r,i=>by
  unfold QUa
  refine List.pairwise_append.2 ⟨?_,QZm r (i+1),?_⟩
  ·split
   ·split
    ·split <;> simp
    ·simp
   ·simp
  ·intro a ha b hb
   have h1:=QRp hb
   split at ha
   ·split at ha
    ·split at ha
     ·simp at ha;subst ha;simp;omega
     ·cases ha
    ·cases ha
   ·cases ha
theorem QYm {vars:List Str} {p:List Qo} {f:Qra}:∀{ns:List Qx} {i:Nat},f∈QUa vars p ns i↔∃k n s,ns[k]? = some n∧n.kind=3∧QFd p n=some s∧dfnB s.op=true∧f=⟨((i+k:Nat):Int),idxI vars s.dfn⟩
|[],i=>by simp [QUa]
|n::r,i=>by
  unfold QUa
  rw [List.mem_append,QYm]
  constructor
  ·rintro(h|⟨k,m,s,h1,h2,h3,h4,h5⟩)
   ·split at h
    ·rename_i hk
     split at h
     ·rename_i s hs
      split at h
      ·rename_i hd
       simp at h
       exact⟨0,n,s,rfl,hk,hs,hd,by simpa using h⟩
      ·cases h
     ·cases h
    ·cases h
   ·exact⟨k+1,m,s,by simpa using h1,h2,h3,h4,by rw [h5,show i+1+k=i+(k+1) by omega]⟩
  ·rintro⟨k,m,s,h1,h2,h3,h4,h5⟩
   cases k with
  |zero=>
    simp at h1
    subst h1
    left
    rw [if_pos h2,h3]
    simp only [h4,if_true]
    simpa using h5
  |succ k=>exact .inr ⟨k,m,s,by simpa using h1,h2,h3,h4,by rw [h5,show i+1+k=i+(k+1) by omega]⟩
structure QOd (p:List Qo) (i:Nat) (n:Qx) (s:QD):Prop where
 ck:QFa p=0
 at_:(QR p)[i]? = some n
 k3:n.kind=3
 st:∃a k j f b,n=⟨3,(a:Nat),(k:Nat),(j:Nat)⟩∧At p a k j f b s
theorem QCp {p:List Qo} (h:QFa p=0) {i:Nat} {n:Qx} (hi:(QR p)[i]? = some n) (h3:n.kind=3):QOd p i n (Qec p n)∧QFd p n=some (Qec p n):=by
 have hm:n∈QB p 0:=by rw [←Qne h];exact List.mem_of_getElem? hi
 obtain⟨a,f,hf,hk⟩:=QLb.1 hm;rcases hk with rfl|rfl|⟨k,b,j,s,hb,hs,rfl|⟨_,rfl⟩⟩
 ·simp at h3
 ·simp at h3
 ·have hA:At p a k j f b s:=⟨hf,hb,hs⟩;rw [hA.d 3];refine⟨⟨h,hi,rfl,a,k,j,f,b,rfl,hA⟩,?_⟩;unfold QFd;simp [hf,hb,hs]
 ·simp at h3
theorem QOd.stmtB {p:List Qo} {i:Nat} {n:Qx} {s:QD} (h:QOd p i n s):stmtB s=true:=by
 obtain⟨a,k,j,f,b,-,hA⟩:=h.st;exact((Qzb h.ck).at_ hA).1
theorem QOd.uses {p:List Qo} {i:Nat} {n:Qx} {s:QD} (h:QOd p i n s):∀u∈s.uses,u∈QN p:=by
 obtain⟨a,k,j,f,b,-,hA⟩:=h.st;exact(Qzb h.ck).uses hA
theorem QOd.dfn {p:List Qo} {i:Nat} {n:Qx} {s:QD} (h:QOd p i n s) (hd:dfnB s.op=true):s.dfn∈QN p:=by
 obtain⟨a,k,j,f,b,-,hA⟩:=h.st;exact(Qzb h.ck).dfn hA hd
theorem QGr {s:QD} (h:stmtB s=true) (hu:s.uses≠[]):useB s.op=true:=by
 unfold stmtB opB at h;simp only [Bool.and_eq_true] at h;have h4:=h.2.2;have hl:0<s.uses.length:=List.length_pos_iff.2 hu;unfold useB;simp only [Bool.or_eq_true,beq_iff_eq]
 split at h4
 ·omega
 split at h4
 ·omega
 split at h4
 ·omega
 split at h4
 ·simp only [Bool.and_eq_true,decide_eq_true_eq] at h4;omega
 split at h4
 ·simp only [Bool.and_eq_true,decide_eq_true_eq] at h4;omega
 split at h4
 ·omega
 split at h4
 ·simp only [Bool.and_eq_true,decide_eq_true_eq] at h4;omega
 ·cases h4
theorem Qac {p:List Qo} {kind:Int} (h:Qxb p kind=0) (hk:kind≠1) {x:Str} (hx:x∈QN p):QGa (QC p kind) (idxI (QN p) x)=[idxI (QN p) x]:=by
 obtain⟨k,e,hk2⟩:=Qgc hx;have hlt:=(List.getElem?_eq_some_iff.1 hk2).1;have hlen:(QC p kind).length=(QN p).length:=by rw [Qtf h hk];simp
 refine QIi (Qzh _ _) (List.pairwise_singleton _ _) fun y=>?_
 rw [e];show y∈QGa _ _↔_;rw [QJe,List.mem_singleton];constructor
 ·rintro⟨b,rfl,h1,h2⟩;rw [QQi h hk (by omega)] at h2;exact h2
 ·rintro rfl;exact⟨k,rfl,by omega,QQi h hk hlt⟩
theorem QFq {p:List Qo} (h:Qxb p 1=0) {i:Nat} {n:Qx} {s:QD} (hn:QOd p i n s) (hs:QFd p n=some s) (hd:dfnB s.op=true):
  ∃b:Nat,ownF (QC p 1) i=b∧b<(QC p 1).length∧∀c,c<(QC p 1).length→(Qxc (QC p 1) c=(i:Int)↔c=b):=by
 have e:QC p 1=QUa (QN p) p (QR p) 0:=by
  rw [(Qkb h).2.2.2.1];unfold QBc;rw [if_pos rfl]
 have hm:(⟨(i:Int),idxI (QN p) s.dfn⟩:Qra)∈QC p 1:=by
  rw [e];exact QYm.2 ⟨i,n,s,hn.at_,hn.k3,hs,hd,by simp⟩
 obtain⟨b,hb,hb2⟩:=List.mem_iff_getElem.1 hm;have hnode:∀c (hc:c<(QC p 1).length),Qxc (QC p 1) c=((QC p 1)[c]).node:=fun c hc=>by unfold Qxc;rw [List.getElem?_eq_getElem hc];rfl
 have huniq:∀c,c<(QC p 1).length→(Qxc (QC p 1) c=(i:Int)↔c=b):=fun c hc=>by
  rw [hnode c hc];constructor
  ·intro h1;have hp:(QC p 1).Pairwise fun a b=>a.node<b.node:=by rw [e];exact QZm _ _
   rcases Nat.lt_trichotomy c b with h2|h2|h2
   ·have:=List.pairwise_iff_getElem.1 hp c b hc hb h2;rw [hb2,h1] at this;simp at this
   ·exact h2
   ·have:=List.pairwise_iff_getElem.1 hp b c hb hc h2;rw [hb2,h1] at this;simp at this
  ·rintro rfl;rw [hb2]
 refine⟨b,?_,hb,huniq⟩;unfold ownF;have hf:(List.range (QC p 1).length).find? (fun c=>decide (Qxc (QC p 1) c=(i:Int)))=some b:=by
  rw [List.find?_range_eq_some];refine⟨by simpa using (huniq b hb).2 rfl,by simpa using hb,fun j hj=>?_⟩;have hj2:j<(QC p 1).length:=by omega
  have:¬Qxc (QC p 1) j=(i:Int):=fun h1=>by have:=(huniq j hj2).1 h1;omega
  simpa using this
 rw [hf]
theorem QHg {l:List Qra} {v x:Int} (h:x∈QGa l v):0≤x∧x<l.length:=by
 obtain⟨k,rfl,h1,_⟩:=QJe.1 h;omega
theorem Qdr {p:List Qo} {kind:Int} (h:Qxb p kind=0) {i:Nat} {n:Qx} {s:QD} (hn:QOd p i n s) (hs:QFd p n=some s):
  (∀x∈Qgg (QN p) (QC p kind) kind i s,0≤x∧x<((QC p kind).length:Int))∧∀b,b<(QC p kind).length→decide ((b:Int)∈Qgg (QN p) (QC p kind) kind i s)=genF (QN p) (QC p kind) kind i s b:=by
 have h14:=Qkb h;by_cases k1:kind=1
 ·subst k1;unfold Qgg genF;simp only [reduceCtorEq,Int.reduceEq,false_and,if_false,true_and,List.nil_append,List.append_nil,if_true];by_cases hd:dfnB s.op=true
  ·obtain⟨c,e,hc,hu⟩:=QFq h hn hs hd;rw [if_pos hd,e];refine⟨fun x hx=>by simp at hx;omega,fun b hb=>?_⟩;rw [hd,Bool.eq_iff_iff];simp only [List.append_nil,List.mem_singleton,decide_eq_true_eq,Bool.true_and];rw [hu b hb];omega
  ·rw [if_neg hd];refine⟨fun x hx=>by simp at hx,fun b hb=>?_⟩;simp [hd]
 by_cases k2:kind=2
 ·subst k2;unfold Qgg genF;simp only [reduceCtorEq,Int.reduceEq,false_and,if_false,true_and,List.nil_append,List.append_nil,if_true];have hfl:∀x:Int,x∈(s.uses.map fun u=>QGa (QC p 2) (idxI (QN p) u)).flatten↔∃u∈s.uses,x=idxI (QN p) u:=fun x=>by
   simp only [List.mem_flatten,List.mem_map];constructor
   ·rintro⟨_,⟨u,hu,rfl⟩,hx⟩;rw [Qac h (by decide) (hn.uses u hu)] at hx;exact⟨u,hu,by simpa using hx⟩
   ·rintro⟨u,hu,rfl⟩;exact⟨_,⟨u,hu,rfl⟩,by rw [Qac h (by decide) (hn.uses u hu)];simp⟩
  have hlen:(QC p 2).length=(QN p).length:=by rw [Qtf h (by decide)];simp
  have hin:∀u∈s.uses,0≤idxI (QN p) u∧idxI (QN p) u<((QC p 2).length:Int):=fun u hu=>by
   obtain⟨q,e,hq⟩:=Qgc (hn.uses u hu);have:=(List.getElem?_eq_some_iff.1 hq).1;omega
  by_cases hu:s.uses=[]
  ·rw [hu]
   split <;> exact⟨fun x hx=>by simp at hx,fun b hb=>by simp⟩
  ·rw [if_pos (QGr hn.stmtB hu)];refine⟨fun x hx=>?_,fun b hb=>?_⟩
   ·obtain⟨u,hu,rfl⟩:=(hfl x).1 hx;exact hin u hu
   ·rw [Bool.eq_iff_iff];simp only [decide_eq_true_eq,List.any_eq_true,hfl];constructor
    ·rintro⟨u,hu,e⟩;exact⟨u,hu,e.symm⟩
    ·rintro⟨u,hu,e⟩;exact⟨u,hu,e.symm⟩
 by_cases k3:kind=3
 ·subst k3;unfold Qgg genF;simp only [reduceCtorEq,Int.reduceEq,false_and,if_false,true_and,List.nil_append,List.append_nil,if_true];by_cases h4:s.op=4
  ·rw [if_pos h4];refine⟨fun x hx=>QHg hx,fun b hb=>?_⟩;rw [Bool.eq_iff_iff];simp only [decide_eq_true_eq,QJe,h4,Bool.and_eq_true,true_and];constructor
   ·rintro⟨k,e,_,h2⟩;obtain rfl:b=k:=by omega
    exact h2
   ·intro h2;exact⟨b,rfl,hb,h2⟩
  ·rw [if_neg h4];refine⟨fun x hx=>by simp at hx,fun b hb=>by simp [h4]⟩
 ·have k4:kind=4:=by omega
  subst k4;unfold Qgg genF;simp only [reduceCtorEq,Int.reduceEq,false_and,if_false,true_and,List.nil_append,List.append_nil,if_true];exact⟨fun x hx=>by simp at hx,fun b hb=>by simp⟩
theorem Qmo {vars:List Str} {l:List Qra} {s:QD}:(∀x∈QQh vars l s,0≤x∧x<(l.length:Int))∧∀b,b<l.length→decide ((b:Int)∈QQh vars l s)=kilF vars l s b:=by
 unfold QQh kilF;by_cases hd:dfnB s.op=true
 ·rw [if_pos hd];refine⟨fun x hx=>QHg hx,fun b hb=>?_⟩;rw [hd,Bool.eq_iff_iff];simp only [decide_eq_true_eq,QJe,Bool.true_and];constructor
  ·rintro⟨k,e,_,h2⟩;obtain rfl:b=k:=by omega
   exact h2
  ·intro h2;exact⟨b,rfl,hb,h2⟩
 ·rw [if_neg hd];exact⟨fun x hx=>by simp at hx,fun b hb=>by simp [hd]⟩
theorem Qvg {p:List Qo} {kind:Int} (h:Qxb p kind=0) {i:Nat} {n:Qx} {s:QD} (hn:QOd p i n s) (c:Cp):
  c∈QTe (QN p) (QC p kind) kind s↔c∈copF (QN p) kind s:=by
 unfold QTe copF;by_cases hk:(kind=3∨kind=4)∧s.op=1
 ·rw [if_pos hk,if_pos hk];have hd:dfnB s.op=true:=by rw [hk.2];rfl
  have hne:kind≠1:=by omega
  rw [Qac h hne (hn.dfn hd)];simp only [List.mem_map,List.mem_filter,List.mem_range,List.headD_cons];constructor
  ·rintro⟨u,hu,rfl⟩;rw [Qac h hne (hn.uses u hu)];obtain⟨q,e,hq⟩:=Qgc (hn.uses u hu);refine⟨q,⟨(List.getElem?_eq_some_iff.1 hq).1,?_⟩,by rw [e];rfl⟩;rw [hq]
   simpa using hu
  ·rintro⟨q,⟨hq,hu⟩,rfl⟩;rw [List.getElem?_eq_getElem hq] at hu;have hu:(QN p)[q]∈s.uses:=by simpa using hu
   refine⟨(QN p)[q],hu,?_⟩;rw [Qac h hne (hn.uses _ hu),QBg (Qwn p) (List.getElem?_eq_getElem hq)];rfl
 ·rw [if_neg hk,if_neg hk]
theorem Qvh:∀{l:List Cp} {c:Cp},c∈Qxa l↔c∈l
|[],c=>by simp [Qxa]
|[x],c=>by simp [Qxa]
|x::y::r,c=>by
  unfold Qxa
  simp only
  split
  ·rename_i e
   subst e
   rw [Qvh]
   simp
  ·rw [List.mem_cons,Qvh,List.mem_cons (a:=c) (b:=x)]
theorem Qhn:∀(l:List Cp),(Qxa l).length≤l.length
|[]=>by simp [Qxa]
|[x]=>by simp [Qxa]
|x::y::r=>by
  unfold Qxa
  simp only
  have:=Qhn (y::r)
  split
  ·simp only [List.length_cons] at *;omega
  ·simp only [List.length_cons] at *;omega
theorem Qin {t:Int}:∀{l:List Cp},(∀c∈l,c.2=t)→l.Pairwise (fun a b=>a.1≤b.1)→(Qxa l).Pairwise fun a b=>befC a b=true
|[],_,_=>by simp [Qxa]
|[x],_,_=>by simp [Qxa]
|x::y::r,h1,h2=>by
  obtain⟨h3,h4⟩:=List.pairwise_cons.1 h2
  have ih:=Qin (l:=y::r) (fun c hc=>h1 c (List.mem_cons_of_mem _ hc)) h4
  unfold Qxa
  simp only
  split
  ·exact ih
  ·rename_i hne
   refine List.pairwise_cons.2 ⟨fun c hc=>?_,ih⟩
   have hc:=Qvh.1 hc
   have e1:=h1 x (by simp)
   have hxy:x.1<y.1:=by
    have h5:=h3 y (by simp);have e2:=h1 y (by simp);rcases Int.lt_or_eq_of_le h5 with h6|h6
    ·exact h6
    ·exact absurd (Prod.ext h6 (e1.trans e2.symm)) hne
   have hyc:y.1≤c.1:=by
    rcases List.mem_cons.1 hc with rfl|hc
    ·exact Int.le_refl _
    ·exact(List.pairwise_cons.1 h4).1 c hc
   unfold befC;simp only [Bool.or_eq_true,decide_eq_true_eq];left;omega
theorem QQr {p:List Qo} {kind:Int} (h:Qxb p kind=0) {i:Nat} {n:Qx} {s:QD} (hn:QOd p i n s) (hs:QFd p n=some s) {sc:List Cp} (hsc:sc.Perm (QTe (QN p) (QC p kind) kind s)) (hso:sc.Pairwise fun a b=>a.1≤b.1):
  ofS (QC p kind).length (Qgg (QN p) (QC p kind) kind i s)=((rawT (QN p) (QC p kind) kind i s).gen,0)∧ofS (QC p kind).length (QQh (QN p) (QC p kind) s)=((rawT (QN p) (QC p kind) kind i s).kill,0) ∧
  QKg ⟨(rawT (QN p) (QC p kind) kind i s).gen,(rawT (QN p) (QC p kind) kind i s).kill,Qxa sc⟩=(Qlb (rawT (QN p) (QC p kind) kind i s) (QC p kind).length,0):=by
 have hm:=(Qkb h).2.2.2.2;obtain⟨g1,g2⟩:=Qdr h hn hs;obtain⟨k1,k2⟩:=Qmo (vars:=QN p) (l:=QC p kind) (s:=s);refine⟨?_,?_,?_⟩
 ·rw [Qbs hm g1]
  congr 1
  exact Qad hm g2
 ·rw [Qbs hm k1]
  congr 1
  exact Qad hm k2
 ·have hmem:∀c,c∈Qxa sc↔c∈copF (QN p) kind s:=fun c=>by rw [Qvh,hsc.mem_iff,Qvg h hn]
  have hin:∀c∈copF (QN p) kind s,inC (QC p kind).length c=true∧c.2=idxI (QN p) s.dfn:=fun c hc=>by
   unfold copF at hc
   split at hc
   ·rename_i hk;have hne:kind≠1:=by omega
    have hlen:(QC p kind).length=(QN p).length:=by rw [Qtf h hne];simp
    obtain⟨q,hq,rfl⟩:=List.mem_map.1 hc;have hq:=List.mem_range.1 (List.mem_filter.1 hq).1;obtain⟨d,e,hd⟩:=Qgc (hn.dfn (by rw [hk.2];rfl));have:=(List.getElem?_eq_some_iff.1 hd).1;refine⟨?_,rfl⟩;unfold inC;simp only [Bool.and_eq_true,decide_eq_true_eq];omega
   ·cases hc
  have hl4:sc.length≤4:=by
   rw [hsc.length_eq];unfold QTe
   split
   ·rw [List.length_map];exact(Qje hn.stmtB).2
   ·simp
  have hT:OkT (QC p kind).length ⟨(rawT (QN p) (QC p kind) kind i s).gen,(rawT (QN p) (QC p kind) kind i s).kill,Qxa sc⟩:=
   ⟨QIb _ hm,QIb _ hm,by have:=Qhn sc;show(Qxa sc).length≤64;omega,QPe (fun c hc=>(hin c ((hmem c).1 hc)).1) (Qin (t:=idxI (QN p) s.dfn) (fun c hc=>(hin c ((Qvg h hn c).1 (hsc.mem_iff.1 hc))).2) hso) (fun q hq=>by cases hq)⟩
  unfold QKg;rw [hT.b,hT.gen.width];simp only [if_true]
  congr 1
  refine Qkn hm rfl fun a b ha hb=>?_
  unfold folB
  congr 1
  rw [Bool.eq_iff_iff];simp only [decide_eq_true_eq];exact hmem _
end
section
variable [Base]
theorem QGn {p:List Qo} {n:Qx} (h:n.kind≠3):Qkk p n=Qie:=by unfold Qkk;rw [if_neg h]
theorem Qsm {p:List Qo} {kind:Int} (h:Qxb p kind=0) {i:Nat} {n:Qx} (hn:n.kind≠3):QZe p kind i n=idT (QC p kind).length:=by
 have hm:=(Qkb h).2.2.2.2;have hr:rawT (QN p) (QC p kind) kind i Qie=idT (QC p kind).length:=by
  have hg:mkS (QC p kind).length (genF (QN p) (QC p kind) kind i Qie)=Qy (QC p kind).length:=by
   refine(QIb _ hm).ext (QOb hm) fun b=>?_
   rw [Qpb _ hm,QNb];unfold genF Qie dfnB;simp
  have hk:mkS (QC p kind).length (kilF (QN p) (QC p kind) Qie)=Qy (QC p kind).length:=by
   refine(QIb _ hm).ext (QOb hm) fun b=>?_
   rw [Qpb _ hm,QNb];unfold kilF Qie dfnB;simp
  have hc:copF (QN p) kind Qie=[]:=by unfold copF Qie;simp
  unfold rawT;rw [hg,hk,hc];rfl
 unfold QZe;rw [QGn hn,hr,QOs hm]
theorem Qup {p:List Qo} {kind:Int} (h:Qxb p kind=0) {i:Nat} {n:Qx} (hi:(QR p)[i]? = some n):OkT (QC p kind).length (QZe p kind i n):=by
 have hm:=(Qkb h).2.2.2.2;by_cases h3:n.kind=3
 ·obtain⟨hn,hs⟩:=QCp (Qkb h).1 hi h3;have hsF:Qkk p n=Qec p n:=by unfold Qkk;rw [if_pos h3]
  unfold QZe;rw [hsF]
  -- canonical forms of what is in range are valid
  refine⟨QIb _ hm,QIb _ hm,?_,QPe (fun c hc=>?_) (QNh _ _ _) (fun q hq=>by cases hq)⟩
  ·refine Nat.le_trans (Qml (Qqj _ _ _) (b:=QTe (QN p) (QC p kind) kind (Qec p n)) fun c hc=>(Qvg h hn c).2 (Qul hc)) ?_;unfold QTe
   split
   ·rw [List.length_map];have:=(Qje hn.stmtB).2;omega
   ·simp
  ·obtain⟨a,b,rfl,ha,hb,-⟩:=Qvj.1 hc;unfold inC;simp only [Bool.and_eq_true,decide_eq_true_eq];omega
 ·rw [Qsm h h3];exact Qvu hm
theorem QTs {p:List Qo} {kind:Int} (h:Qxb p kind=0) (i:Nat):Ok (QC p kind).length (bndT p kind i):=by
 have hm:=(Qkb h).2.2.2.2;unfold bndT
 split
 ·exact(QOp hm).1
 ·exact QOb hm
theorem Quk {p:List Qo} (h:QFa p=0):1≤(QR p).length:=by
 rw [Qne h];have hv:=(Qzb h).valid;unfold QMa at hv;simp only [Bool.and_eq_true,decide_eq_true_eq] at hv;obtain⟨f,hf⟩:∃f,p[0]? = some f:=⟨_,List.getElem?_eq_getElem (by omega)⟩;exact List.length_pos_of_mem (QYt hf)
theorem Qas {p:List Qo} {kind:Int} (h:Qxb p kind=0):QSd (QR p).length (QC p kind).length (QZc p kind):=by
 have hc:=(Qkb h).1;refine⟨rfl,(Qkb h).2.2.2.2,Quk hc,Qme,?_,by simp [QZc],by simp [QZc],?_,?_,?_,?_⟩
 ·unfold QZc Qkc Qmc
  split <;> simp
 ·intro l hl;unfold QZc Qkc Qmc QLl Qgm at hl;simp only at hl
  split at hl
  ·obtain⟨i,_,rfl⟩:=List.mem_map.1 hl;exact Qqk _ _
  ·obtain⟨i,_,rfl⟩:=List.mem_map.1 hl;exact Qqk _ _
 ·unfold QZc totI;simp only
  split
  ·exact(Qmi hc).1
  ·exact(Qmi hc).2
 ·intro b hb;obtain⟨i,hi,rfl⟩:=List.mem_mapIdx.1 hb;exact QTs h i
 ·intro t ht;obtain⟨i,hi,rfl⟩:=List.mem_mapIdx.1 ht;exact Qup h (List.getElem?_eq_getElem hi)
theorem Qkt {m:Nat} (t:Qw) {a b:QSet} (ha:Ok m a) (hb:Ok m b) (k:Nat):valB t m (orS a b) k=(valB t m a k||valB t m b k):=by
 obtain⟨-,ho⟩:=QCf ha hb;rw [Bool.eq_iff_iff];unfold valB;simp only [Bool.or_eq_true,List.any_eq_true,List.mem_range,Bool.and_eq_true,ho];constructor
 ·rintro(h|⟨x,hx,h1|h1,h2⟩)
  ·exact .inl (.inl h)
  ·exact .inl (.inr ⟨x,hx,h1,h2⟩)
  ·exact .inr (.inr ⟨x,hx,h1,h2⟩)
 ·rintro((h|⟨x,hx,h1,h2⟩)|(h|⟨x,hx,h1,h2⟩))
  ·exact .inl h
  ·exact .inr ⟨x,hx,.inl h1,h2⟩
  ·exact .inl h
  ·exact .inr ⟨x,hx,.inr h1,h2⟩
theorem QSd.dep {n m:Nat} {s:SysS} (h:QSd n m s) {k:Nat} (hk:k<n):∃l,s.deps[k]? = some l∧ascB n l=true∧∀x∈l,0≤x∧x<n:=by
 have hlt:k<s.deps.length:=by rw [h.deps];exact hk
 have ha:=h.asc _ (List.getElem_mem hlt);exact⟨_,List.getElem?_eq_getElem hlt,ha,Qci ha⟩
theorem QSd.bnd {n m:Nat} {s:SysS} (h:QSd n m s) {k:Nat} (hk:k<n):∃b,s.bnds[k]? = some b∧Ok m b:=by
 have hlt:k<s.bnds.length:=by rw [h.bnds];exact hk
 exact⟨_,List.getElem?_eq_getElem hlt,h.okB _ (List.getElem_mem hlt)⟩
theorem QNf {n m:Nat} {s:SysS} {v:List QSet} (h:QSd n m s) (hv:v.length=n) (hvo:∀x∈v,Ok m x) {k:Nat} (hk:k<n):∃l o,s.deps[k]? = some l∧Ok m o∧s.bnds[k]? = some o∧(∀x∈l,0≤x∧x<n)∧Ok m (QWa s v k) ∧
  ∀b,b<m→QE (QWa s v k).words b=(QE o.words b||l.any fun x=>valB ((s.trans[x.toNat]?).getD ⟨⟨0,[]⟩,⟨0,[]⟩,[]⟩) m ((v[x.toNat]?).getD ⟨0,[]⟩) b):=by
 obtain⟨l,hl,-,hl2⟩:=h.dep hk;obtain⟨o,ho,ho2⟩:=h.bnd hk;obtain⟨h1,h2⟩:=Qmj h hv hvo l o hl2 ho2;have e:QWa s v k=QPa s v l o:=by unfold QWa;rw [hl,ho];rfl
 exact⟨l,o,hl,ho2,ho,hl2,by rw [e];exact h1,by rw [e];exact h2⟩
theorem QOr {n m:Nat} {s:SysS} {a b:List QSet} (h:QSd n m s) (ha:a.length=n) (hb:b.length=n) (hao:∀x∈a,Ok m x) (hbo:∀x∈b,Ok m x) {k:Nat} (hk:k<n):
  orS (QWa s a k) (QWa s b k)=QWa s (List.zipWith orS a b) k∧∀c:Nat,QE (QWa s a k).words c=true→QE (QWa s (List.zipWith orS a b) k).words c=true:=by
 have hu:(List.zipWith orS a b).length=n:=by rw [List.length_zipWith,ha,hb];omega
 have huo:∀x∈List.zipWith orS a b,Ok m x:=fun x hx=>by
  obtain⟨i,hi,rfl⟩:=List.mem_iff_getElem.1 hx;rw [List.getElem_zipWith];exact(QCf (hao _ (List.getElem_mem _)) (hbo _ (List.getElem_mem _))).1
 obtain⟨l,o,hl,ho,ho2,hl2,x1,x2⟩:=QNf h ha hao hk;obtain⟨l',o',hl',_,ho',_,y1,y2⟩:=QNf h hb hbo hk;obtain⟨l'',o'',hl'',_,ho'',_,z1,z2⟩:=QNf h hu huo hk;obtain rfl:l=l':=by rw [hl] at hl';injection hl'
 obtain rfl:l=l'':=by rw [hl] at hl'';injection hl''
 obtain rfl:o=o':=by rw [ho2] at ho';injection ho'
 obtain rfl:o=o'':=by rw [ho2] at ho'';injection ho''
 obtain⟨w1,w2⟩:=QCf x1 y1;have key:∀c,c<m→QE (QWa s (List.zipWith orS a b) k).words c=(QE (QWa s a k).words c||QE (QWa s b k).words c):=fun c hc=>by
  rw [x2 c hc,y2 c hc,z2 c hc];have hany:(l.any fun x=>valB ((s.trans[x.toNat]?).getD ⟨⟨0,[]⟩,⟨0,[]⟩,[]⟩) m (((List.zipWith orS a b)[x.toNat]?).getD ⟨0,[]⟩) c) =
    ((l.any fun x=>valB ((s.trans[x.toNat]?).getD ⟨⟨0,[]⟩,⟨0,[]⟩,[]⟩) m ((a[x.toNat]?).getD ⟨0,[]⟩) c)||(l.any fun x=>valB ((s.trans[x.toNat]?).getD ⟨⟨0,[]⟩,⟨0,[]⟩,[]⟩) m ((b[x.toNat]?).getD ⟨0,[]⟩) c)):=by
   have:∀r:List Int,(∀x∈r,0≤x∧x<n)→(r.any fun x=>valB ((s.trans[x.toNat]?).getD ⟨⟨0,[]⟩,⟨0,[]⟩,[]⟩) m (((List.zipWith orS a b)[x.toNat]?).getD ⟨0,[]⟩) c) =
    ((r.any fun x=>valB ((s.trans[x.toNat]?).getD ⟨⟨0,[]⟩,⟨0,[]⟩,[]⟩) m ((a[x.toNat]?).getD ⟨0,[]⟩) c)||(r.any fun x=>valB ((s.trans[x.toNat]?).getD ⟨⟨0,[]⟩,⟨0,[]⟩,[]⟩) m ((b[x.toNat]?).getD ⟨0,[]⟩) c)):=by
    intro r
    induction r with
   |nil=>intro _;rfl
   |cons x r ih=>
     intro hr;have hx:=hr x (by simp);have ha1:x.toNat<a.length:=by omega
     have hb1:x.toNat<b.length:=by omega
     have hu1:x.toNat<(List.zipWith orS a b).length:=by omega
     rw [List.any_cons,List.any_cons,List.any_cons,ih fun y hy=>hr y (List.mem_cons_of_mem _ hy),List.getElem?_eq_getElem ha1,List.getElem?_eq_getElem hb1,List.getElem?_eq_getElem hu1,List.getElem_zipWith];simp only [Option.getD_some];rw [Qkt _ (hao _ (List.getElem_mem _)) (hbo _ (List.getElem_mem _))];simp only [Bool.or_assoc,Bool.or_left_comm]
   exact this l hl2
  rw [hany]
  cases QE o.words c <;> simp
 refine⟨w1.ext z1 fun c=>?_,fun c hc=>?_⟩
 ·rw [w2];rcases Nat.lt_or_ge c m with hc|hc
  ·exact(key c hc).symm
  ·rw [x1.tail hc,y1.tail hc,z1.tail hc];rfl
 ·rcases Nat.lt_or_ge c m with h1|h1
  ·rw [key c h1,hc];rfl
  ·rw [x1.tail h1] at hc;cases hc
end
section
open Go.RowKit
variable [Base]
theorem int0 (n:Nat):(((n:Nat):Int)==0)=decide (n=0):=by
 rw [Bool.eq_iff_iff];simp
theorem Qfm {P:Program} {f:FuncId} {args:Array Value} {w:World} {a n:Nat} {v:Value} (h:Calls P f args (w.drewN (a+n)) fun e w'=>e=.returned v∧w'=w.drewN (a+n)):Calls P f args (w.drewN (a+n)) fun e w'=>e=.returned v∧∃m,w'=w.drewN (a+m):=
 h.mono fun _ _ hh=>⟨hh.1,n,hh.2⟩
theorem QYd {n:Int} {b:Bool} (h:QEa n=b) (w:World):Calls Tryz.prog 116 #[.int .i64 n] w fun e w'=>e=.returned (.bool b)∧w'=w:=h▸QYn n w
theorem QOj (s:QSet) (u:Value) (w:World) (h:Qi w u s.words):Calls Tryz.prog 90 #[setV s u] w (Qia (setB s) w):=by
 obtain⟨a,c,rfl,hm,hc,hcm,hk⟩:=h.cell;obtain⟨n,hn⟩:=Ze s.words.length;obtain⟨W,hW⟩:=Ze (w.alloc (.cells #[.int .i64 s.width,.slice a n c] 52));have B0:Below w.heap.size w W:=by rw [←hW];exact Zb
 have HB0:W.heap[w.heap.size]? = some (.cells #[.int .i64 s.width,.slice a n c] 52 (0,0)):=by rw [←hW];exact heap_alloc_new _ _
 have x0:=(Qa HB0).1 0;have x1:=(Qa HB0).1 1;simp at x0 x1;rw [hn] at hm hc ⊢;by_cases h1:QEa s.width=true
 ·have hr:0≤s.width∧s.width≤256:=by simpa [QEa] using h1
  obtain⟨hr0,hr1⟩:=hr;by_cases h2:QId s=true
  ·by_cases h3:s.width % 64=0
   ·have d2:((n:Int) !=(s.width+63) / 64)=false:=by simpa [QId,hn] using h2
    have hv:setB s=true:=by unfold setB Qli;rw [h1,h2];simp [h3]
    rw [hv];have HW:=Zh hW;have BB:=Zh B0;have ht:s.width.tmod 64=0:=by rw [Int.tmod_eq_emod_of_nonneg hr0];exact h3
    clear hW HB0 hk B0 h;go_enter Tryz.func90,Tryz.ntmps90;go_wp2_with fail;rw [show w.alloc (.cells #[.int .i64 s.width,.slice a n c] 52)=W from HW.o];go_quiet (first|(go_at_call 116;exact Calls.quiet_of_same (QYd h1 _))|(go_at_call 117;exact Calls.quiet_of_same (QLf s.width hr0 hr1 _)));go_wp2;go_quiet (fail);go_wp2;go_ret;exact⟨rfl,BB.o.trans (Qp (Qp (Below.refl _ _) _) _)⟩
   ·have d2:((n:Int) !=(s.width+63) / 64)=false:=by simpa [QId,hn] using h2
    have he:(n:Int)=(s.width+63) / 64:=by simpa [QId,hn] using h2
    have hpos:0<n:=by omega
    obtain⟨x,hx⟩:∃x,s.words[n-1]? = some x:=⟨s.words[n-1],List.getElem?_eq_getElem (by omega)⟩;obtain⟨b,off,rfl,hb,-,hcell⟩:=hk (n-1) x hx;have hxl:x<18446744073709551616:=h.2 x (List.mem_of_getElem? hx);have hlast:s.words.getLastD 0=x:=by
     rw [List.getLastD_eq_getLast?,List.getLast?_eq_getElem?,hn,hx];rfl
    have hr:(s.width % 64).toNat<64:=by omega
    have hand:bits .and .u64 (x:Int) ((18446744073709551616-2 ^ (s.width % 64).toNat:Nat):Int)=((x &&& (18446744073709551616-2 ^ (s.width % 64).toNat):Nat):Int):=QBl _ _ hxl (by have:=Nat.two_pow_pos (s.width % 64).toNat;omega);obtain⟨V,hV⟩:∃V:Nat,18446744073709551616-2 ^ (s.width % 64).toNat=V:=⟨_,rfl⟩;have hv:setB s=decide ((x &&& V:Nat)=0):=by
     unfold setB Qli;rw [h1,h2,hlast,←hV];simp only [h3,decide_false,Bool.true_and,Bool.false_or]
     congr 1
     exact propext (Qxr x _ hxl (by omega)).symm
    have SP:=fun w=>Qoq s.width hr0 hr1 w
    rw [hV] at hand SP;rw [hv];have HW:=Zh hW;have BB:=Zh B0;have SPH:=Zh SP;have ht:s.width.tmod 64=s.width % 64:=Int.tmod_eq_emod_of_nonneg hr0;have ht2:(s.width % 64==0)=false:=by simpa using h3
    have e1:IntKind.i64.wrap ((n:Int)-1)=(n:Int)-1:=IntWalk.i64_in _ (by unfold maxLen at hm;omega);have e2:0≤(n:Int)-1:=by omega
    have e4:(n:Int)-1<n:=by omega
    have e3:((n:Int)-1).toNat=n-1:=by omega
    have hcW:W.cell? ⟨b,off+(n-1),none⟩=some (uv x):=by rw [←hcell];exact B0.cell (p:=⟨b,off+(n-1),none⟩) hb
    have bt:bits .and .u64 (x:Int) (V:Int)=((x &&& V:Nat):Int):=hand;clear hW HB0 hk B0 h SP hand hV hlast hx hxl hcell hv hr he;go_enter Tryz.func90,Tryz.ntmps90;go_wp2_with fail;rw [show w.alloc (.cells #[.int .i64 s.width,.slice (some ⟨b,off,none⟩) n c] 52)=W from HW.o];go_quiet (first|(go_at_call 116;exact Calls.quiet_of_same (QYd h1 _))|(go_at_call 117;exact Calls.quiet_of_same (QLf s.width hr0 hr1 _)));go_wp2;go_quiet ((go_at_call 150;first|exact Qfm (SPH.o _)|exact Calls.quiet_of_same (SPH.o _)));go_wp2;go_ret;exact⟨Qyb (int0 _),BB.o.trans (Qp (Qp (Below.refl _ _) _) _)⟩
  ·have d2:((n:Int) !=(s.width+63) / 64)=true:=by simpa [QId,hn] using h2
   have hv:setB s=false:=by unfold setB;rw [h1];simp [h2]
   rw [hv];have HW:=Zh hW;have BB:=Zh B0;clear hW HB0 hk B0 h;go_enter Tryz.func90,Tryz.ntmps90;go_wp2_with fail;rw [show w.alloc (.cells #[.int .i64 s.width,.slice a n c] 52)=W from HW.o];go_quiet (first|(go_at_call 116;exact Calls.quiet_of_same (QYd h1 _))|(go_at_call 117;exact Calls.quiet_of_same (QLf s.width hr0 hr1 _)));go_wp2;go_ret;exact⟨rfl,BB.o.trans (Qp (Below.refl _ _) _)⟩
 ·have h1':QEa s.width=false:=by simpa using h1
  have hv:setB s=false:=by unfold setB;rw [h1'];rfl
  rw [hv];have HW:=Zh hW;have BB:=Zh B0;clear hW HB0 hk B0 h;go_enter Tryz.func90,Tryz.ntmps90;go_wp2_with fail;rw [show w.alloc (.cells #[.int .i64 s.width,.slice a n c] 52)=W from HW.o];go_quiet ((go_at_call 116;exact Calls.quiet_of_same (QYd h1' _)));go_wp2;go_ret;exact⟨rfl,BB.o.trans (Qp (Below.refl _ _) _)⟩
end
section
open Go.RowKit
variable [Base]
theorem Qnt (x k idx:Nat) (w:World) (hx0:((x:Int)==0)=false)
  (key:IntKind.u64.wrap (bits BinOp.and IntKind.u64 (x:Int) (IntKind.u64.wrap (-(x:Int)))*285870213051353865) / 288230376151711744=(idx:Int))
  (hi:idx<64) (hk:k<64) (hcell:w.cell? ⟨1,idx,none⟩=some (.int .u8 k)):
  Calls Tryz.prog 182 #[.int .u64 x] w fun e w'=>e=.returned (.int .i64 k)∧w=w':=by
 go_enter Tryz.func182,Tryz.ntmps182;go_wp2_with (simp only [key]);go_ret;exact⟨rfl,rfl⟩
theorem Qeu (x:Nat) (hx0:x≠0) (hx:x<18446744073709551616) (w:World) (hT:TabAt 1 Lib.deBruijn64tab w):
  Calls Tryz.prog 182 #[.int .u64 x] w fun e w'=>e=.returned (.int .i64 (Lib.ctz 64 x:Nat))∧w=w':=by
 obtain⟨hlow,hk⟩:=Lib.lowest_bit 64 x hx0 hx;obtain⟨hi,htab⟩:=Lib.deBruijn64_at _ hk;have hcell:=hT _ hi;rw [htab] at hcell;exact Qnt x _ _ w (by simp;omega) (tz64_key x _ hx hx0 hlow) hi hk hcell
theorem Qai (c:Nat) (hc:c<9223372036854775808):bits .and .i64 (c:Int) 127=((c % 128:Nat):Int):=by
 have h1:(BitVec.ofInt 64 (c:Int)).toNat=c:=by
  rw [BitVec.ofInt_natCast,BitVec.toNat_ofNat];exact Nat.mod_eq_of_lt (by omega)
 show IntKind.i64.wrap ((BitVec.ofInt 64 (c:Int) &&& BitVec.ofInt 64 (127:Int)).toNat:Int)=_;rw [BitVec.toNat_and,h1,show(BitVec.ofInt 64 (127:Int)).toNat=2 ^ 7-1 from by decide,Nat.and_two_pow_sub_one_eq_mod,IntWalk.i64_in _ (by omega)]
theorem ones1 (x:Nat) (hx:x<18446744073709551616):IntKind.u64.wrap (bits BinOp.and IntKind.u64 ((x:Int) / 2) 6148914691236517205+bits BinOp.and IntKind.u64 (x:Int) 6148914691236517205)=((A1 8 x:Nat):Int):=by
 have h1:(x:Int) / 2=((x / 2:Nat):Int):=by omega
 have l1:x / 2 &&& 6148914691236517205≤6148914691236517205:=Nat.and_le_right;have l2:x &&& 6148914691236517205≤6148914691236517205:=Nat.and_le_right;rw [h1,show(6148914691236517205:Int)=((6148914691236517205:Nat):Int) from rfl,bits_and_u64_nat _ _ (by omega) (by omega),bits_and_u64_nat _ _ hx (by omega),IntKind.wrap_u64];unfold A1;rw [show repB 8 85=6148914691236517205 from by decide];omega
theorem ones2 (x:Nat) (hx:x<18446744073709551616):IntKind.u64.wrap (bits BinOp.and IntKind.u64 ((x:Int) / 4) 3689348814741910323+bits BinOp.and IntKind.u64 (x:Int) 3689348814741910323)=((A2 8 x:Nat):Int):=by
 have h1:(x:Int) / 4=((x / 4:Nat):Int):=by omega
 have l1:x / 4 &&& 3689348814741910323≤3689348814741910323:=Nat.and_le_right;have l2:x &&& 3689348814741910323≤3689348814741910323:=Nat.and_le_right;rw [h1,show(3689348814741910323:Int)=((3689348814741910323:Nat):Int) from rfl,bits_and_u64_nat _ _ (by omega) (by omega),bits_and_u64_nat _ _ hx (by omega),IntKind.wrap_u64];unfold A2;rw [show repB 8 51=3689348814741910323 from by decide];omega
theorem ones3 (x:Nat) (hx:x≤7378697629483820646):bits BinOp.and IntKind.u64 (IntKind.u64.wrap ((x:Int) / 16+(x:Int))) 1085102592571150095=((A3 8 x:Nat):Int):=by
 have h1:IntKind.u64.wrap ((x:Int) / 16+(x:Int))=((x / 16+x:Nat):Int):=by rw [IntKind.wrap_u64];omega
 rw [h1,show(1085102592571150095:Int)=((1085102592571150095:Nat):Int) from rfl,bits_and_u64_nat _ _ (by omega) (by omega)];unfold A3;rw [show repB 8 15=1085102592571150095 from by decide]
theorem A1_lt (x:Nat):A1 8 x<18446744073709551616:=by
 have l1:x / 2 &&& 6148914691236517205≤6148914691236517205:=Nat.and_le_right;have l2:x &&& 6148914691236517205≤6148914691236517205:=Nat.and_le_right;unfold A1;rw [show repB 8 85=6148914691236517205 from by decide];omega
theorem A2_le (x:Nat):A2 8 x≤7378697629483820646:=by
 have l1:x / 4 &&& 3689348814741910323≤3689348814741910323:=Nat.and_le_right;have l2:x &&& 3689348814741910323≤3689348814741910323:=Nat.and_le_right;unfold A2;rw [show repB 8 51=3689348814741910323 from by decide];omega
theorem A3_le (x:Nat):A3 8 x≤1085102592571150095:=by
 unfold A3;rw [show repB 8 15=1085102592571150095 from by decide];exact Nat.and_le_right
theorem ones4 (x:Nat) (hx:x≤1085102592571150095):bits BinOp.and IntKind.i64 (wrap64 (IntKind.u64.wrap (IntKind.u64.wrap (IntKind.u64.wrap ((x:Int)+(x:Int) / 256)+IntKind.u64.wrap ((x:Int)+(x:Int) / 256) / 65536)+IntKind.u64.wrap (IntKind.u64.wrap ((x:Int)+(x:Int) / 256)+IntKind.u64.wrap ((x:Int)+(x:Int) / 256) / 65536) / 4294967296))) 127=((QFk x:Nat):Int):=by
 have h1:IntKind.u64.wrap ((x:Int)+(x:Int) / 256)=((x+x / 256:Nat):Int):=by rw [IntKind.wrap_u64];omega
 rw [h1];obtain⟨y,hy⟩:=Ze (x+x / 256);have yl:y≤1089341274573381300:=by omega
 rw [hy];have h2:IntKind.u64.wrap ((y:Int)+(y:Int) / 65536)=((y+y / 65536:Nat):Int):=by rw [IntKind.wrap_u64];omega
 rw [h2];obtain⟨z,hz⟩:=Ze (y+y / 65536);have zl:z≤1089357896609000000:=by omega
 rw [hz];have h3:IntKind.u64.wrap ((z:Int)+(z:Int) / 4294967296)=((z+z / 4294967296:Nat):Int):=by rw [IntKind.wrap_u64];omega
 rw [h3,IntWalk.wrap64_in _ (by omega),Qai _ (by omega)];unfold QFk;dsimp only;rw [hy,hz]
theorem QYr (x:Nat) (hx:x<18446744073709551616) (w:World):
  Calls Tryz.prog 153 #[.int .u64 x] w fun e w'=>e=.returned (.int .i64 (pop 64 x:Nat))∧w=w':=by
 go_enter Tryz.func153,Tryz.ntmps153;go_wp2_with fail;go_ret;refine⟨?_,rfl⟩;simp only [Array.getD_eq_getD_getElem?,List.getElem?_toArray,List.getElem?_cons_zero,List.getElem?_cons_succ,Option.getD_some];rw [ones1 x hx,ones2 _ (A1_lt x),ones3 _ (A2_le _),ones4 _ (A3_le _),Qyt x hx]
end
section
variable [Base]
def memS (s:QSet):List Nat:=if setB s=true then (List.range s.width.toNat).filter (QE s.words) else []
def Qjg (w:Nat):List Nat:=(List.range 64).filter (w.testBit ·)
def Qcd (l:List Nat) (k:Nat):List Nat:=(List.range (64*k)).filter (QE l)
theorem Qwj {l:List Nat} {k w:Nat} (h:l[k]? = some w):Qcd l (k+1)=Qcd l k++(Qjg w).map (64*k + ·):=by
 unfold Qcd Qjg;rw [show 64*(k+1)=64*k+64 by omega,List.range_add,List.filter_append,List.filter_map]
 congr 2
 apply List.filter_congr;intro i hi;have hi:=List.mem_range.1 hi;simp only [Function.comp];unfold QE;rw [show(64*k+i) / 64=k by omega,show(64*k+i) % 64=i by omega,List.getD_eq_getElem?_getD,h];rfl
theorem Qyk {s:QSet} (h:setB s=true) (hw:QLa s.words):Qcd s.words s.words.length=memS s:=by
 have hf:=QBa h hw;obtain⟨m,e1,e2,e3⟩:=Qka hf;unfold memS Qcd;rw [if_pos h,e1,Int.toNat_natCast];have hle:m≤64*s.words.length:=by rw [e3];unfold Qj;omega
 obtain⟨d,hd⟩:∃d,64*s.words.length=m+d:=⟨64*s.words.length-m,by omega⟩;rw [hd,List.range_add,List.filter_append];have:List.filter (QE s.words) (List.map (m + ·) (List.range d))=[]:=by
  rw [List.filter_eq_nil_iff];intro x hx;obtain⟨i,_,rfl⟩:=List.mem_map.1 hx;rw [Qge h hw (b:=m+i) (by rw [e1];omega)];simp
 rw [this,List.append_nil]
theorem QGp {s:QSet} (h:setB s=false):memS s=[]:=by unfold memS;rw [h];rfl
theorem Qxp:∀(n x:Nat),pop n x=((List.range n).filter (x.testBit ·)).length
|0,x=>rfl
|n+1,x=>by
  rw [QXe,List.range_succ_eq_map,List.filter_cons,Qxp n (x / 2),List.filter_map]
  have e:((fun i=>x.testBit i) ∘ Nat.succ)=fun i=>(x / 2).testBit i:=by
   funext i
   exact Nat.testBit_succ x i
  rw [e];rcases Nat.mod_two_eq_zero_or_one x with h|h
  ·rw [show x.testBit 0=false by rw [Nat.testBit_zero];simp [h]];simp [h]
  ·rw [show x.testBit 0=true by rw [Nat.testBit_zero];simp [h]];simp [h];omega
theorem QRk (x:Nat):(Qjg x).length=pop 64 x:=(Qxp 64 x).symm
theorem Qap:Qjg 0=[]:=by decide
theorem Qzi {p q:Nat→Bool} {k:Nat} (hk:p k=true) (hp:∀j,j<k→p j=false) (hq:∀j,j≤k→q j=false) (he:∀j,k<j→p j=q j):∀n,(n≤k→(List.range n).filter p=[])∧(n≤k+1→(List.range n).filter q=[])∧(k<n→(List.range n).filter p=k::(List.range n).filter q)
|0=>⟨fun _=>rfl,fun _=>rfl,fun h=>by omega⟩
|n+1=>by
  obtain⟨h1,h2,h3⟩:=Qzi hk hp hq he n
  refine⟨fun h=>?_,fun h=>?_,fun h=>?_⟩
  ·rw [List.range_succ,List.filter_append,h1 (by omega),List.filter_cons,hp n (by omega)];rfl
  ·rw [List.range_succ,List.filter_append,h2 (by omega),List.filter_cons,hq n (by omega)];rfl
  ·rw [List.range_succ,List.filter_append,List.filter_append]
   by_cases hn:n=k
   ·subst hn
    rw [h1 (Nat.le_refl _),h2 (by omega),List.filter_cons,List.filter_cons,hk,hq n (Nat.le_refl _)]
    rfl
   ·rw [h3 (by omega),List.filter_cons,List.filter_cons,he n (by omega)]
    rfl
theorem Qbp {w:Nat} (h0:w≠0) (hw:w<18446744073709551616):Lib.ctz 64 w<64∧Qjg w=Lib.ctz 64 w::Qjg (w &&& (w-1)):=by
 obtain⟨m,hm,hk⟩:=Lib.ctzFrom_spec 64 w (by omega) hw;have hc:Lib.ctz 64 w=Lib.ctzFrom 64 w:=by unfold Lib.ctz;rw [if_neg h0]
 rw [hc];generalize Lib.ctzFrom 64 w=k at *;have hp:0<2 ^ k:=Nat.two_pow_pos k;have hwd:w / 2 ^ k=2*m+1:=by rw [hm,Nat.mul_div_cancel_left _ hp]
 have hw1:(w-1) / 2 ^ k=2*m:=by
  rw [hm];have e:2 ^ k*(2*m+1)-1=(2 ^ k-1)+2 ^ k*(2*m):=by
   rw [Nat.mul_add,Nat.mul_one];omega
  rw [e,Nat.add_mul_div_left _ _ hp,Nat.div_eq_of_lt (by omega),Nat.zero_add]
 have hlow:∀j,j<k→w.testBit j=false:=by
  intro j hj;obtain⟨d,rfl⟩:∃d,k=j+(d+1):=⟨k-j-1,by omega⟩;rw [hm,Nat.testBit_eq_decide_div_mod_eq,Nat.pow_add,Nat.mul_assoc,Nat.mul_div_cancel_left _ (Nat.two_pow_pos j),Nat.pow_succ];have:2 ^ d*2*(2*m+1) % 2=0:=by
   rw [Nat.mul_comm (2 ^ d) 2,Nat.mul_assoc];exact Nat.mul_mod_right _ _
  rw [this];rfl
 have hbit:w.testBit k=true:=by
  rw [Nat.testBit_eq_decide_div_mod_eq,hwd];simp
 have hhigh:∀(x y:Nat),x / 2 ^ k=y→∀j,k≤j→x.testBit j=y.testBit (j-k):=by
  intro x y hxy j hj;rw [←hxy,Nat.testBit_div_two_pow]
  congr 1
  omega
 have hq:∀j,j≤k→(w &&& (w-1)).testBit j=false:=by
  intro j hj;rw [Nat.testBit_and];rcases Nat.lt_or_ge j k with h1|h1
  ·rw [hlow j h1];rfl
  ·obtain rfl:j=k:=by omega
   rw [hhigh _ _ hw1 j (Nat.le_refl _),Nat.sub_self,Nat.testBit_zero];simp
 have he:∀j,k<j→w.testBit j=(w &&& (w-1)).testBit j:=by
  intro j hj;rw [Nat.testBit_and,hhigh _ _ hw1 j (by omega),hhigh _ _ hwd j (by omega)];obtain⟨d,hd⟩:∃d,j-k=d+1:=⟨j-k-1,by omega⟩;rw [hd,Nat.testBit_succ,Nat.testBit_succ,show(2*m+1) / 2=m by omega,show 2*m / 2=m by omega,Bool.and_self]
 exact⟨hk,(Qzi hbit hlow hq he 64).2.2 hk⟩
theorem QNs {w:Nat} (h0:w≠0):w &&& (w-1)<w:=Nat.lt_of_le_of_lt Nat.and_le_right (by omega)
theorem QQf (l:List Nat) (k:Nat):(Qcd l k).length≤64*k:=by
 unfold Qcd;have:=List.length_filter_le (QE l) (List.range (64*k))
 simpa using this
theorem QUs (w:Nat):(Qjg w).length≤64:=by
 unfold Qjg;have:=List.length_filter_le (w.testBit ·) (List.range 64)
 simpa using this
end
section
open Go.RowKit
variable [Base]
theorem Qjj {P:Program} (ea:Option Addr) (w:World) (base:Nat) (t ty e:TypeId) (i:TypeInfo) (size:Nat) (ht:P.underlying t=some (.slice e)) (hi:P.info? e=some i)
  (v:Value) (n:Nat) (xs:List Value) (hown:w.ownsRow base e size v n xs):(Builtin.append_ #[t,t] ty #[v,.slice ea 0 0]).run P w=.ok v w:=by
 have hz:∀a:Addr,(loadCells a 0).run P w=.ok #[] w:=fun a=>by simp [loadCells,loadCellsFrom]
 rcases hown.2 with⟨rfl,rfl⟩|⟨g,cap,cur,rfl,_,_,hnc,_⟩
 ·cases ea <;> simp [Builtin.append_,run_underlying ht,sizeOf,typeInfo,hi,Builtin.lenOf,Builtin.firstCells,hz]
 ·cases ea <;> simp [Builtin.append_,run_underlying ht,sizeOf,typeInfo,hi,Builtin.lenOf,Builtin.firstCells,hz,hnc,storeCells]
theorem Qun (b off j:Nat):(⟨b,off,none⟩:Addr).add j=⟨b,off+j,none⟩:=by
 unfold Addr.add
 split
 ·rename_i h;subst h;rfl
 ·rfl
theorem QXa {w:World} {base:Nat} {e:TypeId} {size:Nat} {v:Value} {n:Nat} {xs:List Value} (h:w.ownsRow base e size v n xs):∃a c,v=.slice a n c∧n≤c∧c≤maxLen:=by
 rcases h.2 with⟨rfl,rfl⟩|⟨g,cap,cur,rfl,_,_,hnc,hc,_⟩
 ·exact⟨none,0,rfl,Nat.le_refl _,Nat.zero_le _⟩
 ·exact⟨_,_,rfl,hnc,hc⟩
theorem Qbk {P:Program} (w:World) (base:Nat) (t ty e:TypeId) (z:Value) (size bytes:Nat) (ht:P.underlying t=some (.slice e)) (hi:(P.info? e).map (fun i=>(i.zero,i.size,i.bytes))=some (some z,size,bytes))
  (hzs:z.cells.size=size) (hsz:0<size) (v:Value) (n:Nat) (xs:List Value) (hown:w.ownsRow base e size v n xs)
  (u:Value) (m:Nat) (ys:List Value) (hsl:Qg w e size u ys) (hm:ys.length=m*size) (h1:ys.all Value.oneCell'=true)
  (h63:n+m≤maxLen) (hbytes:(n+m)*bytes≤140737488355328) (hbase:base≤w.heap.size):
  ∃a c w',(Builtin.append_ #[t,t] ty #[v,u]).run P w=.ok (.slice a (n+m) c) w'∧w'.ownsRow base e size (.slice a (n+m) c) (n+m) (xs++ys)∧w.grownBy w' v.ownBlock:=by
 obtain⟨i,hi',hz,hs1,hs2⟩:=info_parts hi;obtain⟨m',cap,e1,e2,e3,h4⟩:=hsl;have hmm:m'=m:=Nat.eq_of_mul_eq_mul_right hsz (e1.symm.trans hm);subst hmm;rcases h4 with⟨⟨ea,rfl⟩,rfl⟩|⟨b,off,c,fr,rfl,hb,hc⟩
 ·have hy:ys=[]:=List.length_eq_zero_iff.1 (by omega);subst hy;obtain⟨a,c,rfl,_⟩:=QXa hown;refine⟨a,c,w,Qjj ea w base t ty e i size ht hi' _ n xs hown,by simpa using hown,World.grownBy.refl w _⟩
 ·have hcells:∀j u,ys[j]? = some u→w.cell? ((⟨b,off,none⟩:Addr).add j)=some u:=by
   intro j u hu;have hj:=(List.getElem?_eq_some_iff.1 hu).1;rw [Qun,←hu,←hc j hj];exact hb.cell _
  obtain⟨v',w',hrun,h2,h3,_,_⟩:=run_append_own_at (P:=P) w base t ty e i z size bytes ht hi' hz hs1 hs2 hzs hsz v n xs hown ⟨b,off,none⟩ m' cap ys e1 hcells (fun u hu=>List.all_eq_true.1 h1 u hu) h63 hbytes hbase;obtain⟨a,c,rfl,_⟩:=QXa h2;exact⟨a,c,w',hrun,h2,h3⟩
theorem Qlf {P:Program} {w:World} {o:Oper} {a:Act} {K:Act→World→Prop} {Q:Exit→Act→World→Prop} (s x:Operand) (t:TypeId)
  (ho:o.op=.call { callee:=.builtin .append,args:=#[s,x],argTypes:=#[t,t] })
  (base:Nat) (e:TypeId) (z:Value) (size bytes:Nat) (ht:P.underlying t=some (.slice e)) (hi:(P.info? e).map (fun i=>(i.zero,i.size,i.bytes))=some (some z,size,bytes))
  (hzs:z.cells.size=size) (hsz:0<size) (v:Value) (n:Nat) (xs:List Value) (hown:w.ownsRow base e size v n xs) (hs:a.eval s=v)
  (u:Value) (m:Nat) (ys:List Value) (hx:a.eval x=u) (hsl:Qg w e size u ys) (hm:ys.length=m*size) (h1:ys.all Value.oneCell'=true)
  (h63:n+m≤maxLen) (hbytes:(n+m)*bytes≤140737488355328) (hbase:base≤w.heap.size)
  (h:∀g c w',w'.ownsRow base e size (.slice g (n+m) c) (n+m) (xs++ys)→w.grownBy w' v.ownBlock→K (a.put o.dst (.slice g (n+m) c)) w'):o.wp P a w K Q:=by
 obtain⟨g,c,w',hrun,h2,h3⟩:=Qbk (P:=P) w base t o.type e z size bytes ht hi hzs hsz v n xs hown u m ys hsl hm h1 h63 hbytes hbase;unfold Oper.wp execOp;simp only [ho,resolve,invoke,builtin,Sem.run_bind,Sem.run_pure,Result.andThen_ok,List.map_toArray,List.map_cons,List.map_nil,hs,hx,hrun];exact h g c w' h2 h3
theorem wpList_append_sl {P:Program} {w:World} {ops:Array Oper} {rest:List Oper} {o:Oper} {a:Act} {Q:Exit→Act→World→Prop} (hgd:o.guard=none) (s x:Operand) (t:TypeId)
  (ho:o.op=.call { callee:=.builtin .append,args:=#[s,x],argTypes:=#[t,t] })
  (base:Nat) (e:TypeId) (z:Value) (size bytes:Nat) (ht:P.underlying t=some (.slice e)) (hi:(P.info? e).map (fun i=>(i.zero,i.size,i.bytes))=some (some z,size,bytes))
  (hzs:z.cells.size=size) (hsz:0<size) (v:Value) (n:Nat) (xs:List Value) (hown:w.ownsRow base e size v n xs) (hs:a.eval s=v)
  (u:Value) (m:Nat) (ys:List Value) (hx:a.eval x=u) (hsl:Qg w e size u ys) (hm:ys.length=m*size) (h1:ys.all Value.oneCell'=true)
  (h63:n+m≤maxLen) (hbytes:(n+m)*bytes≤140737488355328) (hbase:base≤w.heap.size)
  (h:∀g c w',w'.ownsRow base e size (.slice g (n+m) c) (n+m) (xs++ys)→w.grownBy w' v.ownBlock→wpList P ops Q rest (a.put o.dst (.slice g (n+m) c)) w'):wpList P ops Q (o::rest) a w:=
 wpList_plain hgd fun _ hK=>Qlf s x t ho base e z size bytes ht hi hzs hsz v n xs hown hs u m ys hx hsl hm h1 h63 hbytes hbase fun g c w' h2 h3=>hK _ _ (h g c w' h2 h3)
end
section
open Go.RowKit
variable [Base]
structure ButB (g:Nat) (w w':World):Prop where
 os:w'.os=w.os
 tape:w'.tape=w.tape
 output:w'.output=w.output
 size:w.heap.size≤w'.heap.size
 block:∀k,k<w.heap.size→k≠g→w'.heap[k]? = w.heap[k]?
theorem ButB.toBelow {B g:Nat} {w w':World} (h:ButB g w w') (hB:B≤g) (hw:B≤w.heap.size):Below B w w':=
 ⟨h.os,h.tape,h.output,h.size,fun k hk=>h.block k (by omega) (by omega)⟩
theorem QEi {P:Program} {w:World} {ops:Array Oper} {rest:List Oper} {o:Oper} {a:Act} {Q:Exit→Act→World→Prop} (hgd:o.guard=none) (d s:Operand) (dT sT:TypeId)
  (ho:o.op=.call { callee:=.builtin .copy,args:=#[d,s],argTypes:=#[dT,sT] }) (elem:TypeId) (hu:P.underlying dT=some (.slice elem)) (hsz:(P.info? elem).map (·.size)=some 1)
  (g dLen dCap:Nat) (ad:Addr) (sLen sCap:Nat) (hd:a.eval d=.slice (some ⟨g,0,none⟩) dLen dCap) (hs:a.eval s=.slice (some ad) sLen sCap)
  (cur:Array Value) (t:TypeId) (hg:w.heap[g]? = some (.cells cur t (0,0))) (cs:List Value) (hn:cs.length=Nat.min sLen dLen)
  (hsrc:∀j v,cs[j]? = some v→w.cell? (ad.add j)=some v) (hfit:cs.length=cur.size) (h1:∀v∈cs,v.oneCell'=true)
  (h:∀w',w'.heap[g]? = some (.cells cs.toArray t (0,0))→ButB g w w'→wpList P ops Q rest (a.put o.dst (goInt cs.length)) w'):wpList P ops Q (o::rest) a w:=by
 refine wpList_copy_own hgd d s dT sT ho elem hu hsz g 0 dLen dCap ad sLen sCap hd hs cur t hg cs hn hsrc (by omega) h1 ?_;have e:(cur.toList.take 0++(cs++cur.toList.drop (0+cs.length))).toArray=cs.toArray:=by
  simp [hfit]
 rw [e];exact h _ (setRow_heap w g cur _ t _ hg) ⟨rfl,rfl,rfl,by simp,fun k _ hk=>setRow_other w g k _ hk⟩
end
section
open Go.RowKit
variable [Base]
theorem QUt (m:Nat):zc (Qj m)=((Qy m).words.map uv).toArray:=by unfold zc Qy;simp
theorem Qjc (m:Nat) (hm:m≤256) (w:World):Calls Tryz.prog 53 #[.int .i64 m] w (Qht (Qy m) w):=by
 have hmk:=QTd (Qj m) (by unfold Qj;omega) (((m:Int)+63) / 64) (by unfold Qj;omega);have HF:=Zh (QZb hm);have HZ:=Zh (QUt m);go_enter Tryz.func53,Tryz.ntmps53;go_wp2;refine bodyPost_ret (v:=setV (Qy m) (.slice (some ⟨w.heap.size+1,0,none⟩) (Qy m).words.length (Qy m).words.length)) (by simp [results,Tryz.results53,go_sem,Qy]) rfl ⟨_,rfl,⟨w.heap.size+1,rfl,by omega,?_,HF.o⟩,(Zb).alloc (by simp) _⟩;rw [←HZ.o];exact Qda _ _
theorem QAr (l:List Nat):∀x∈l.map uv,x.oneCell'=true:=by
 intro x hx;obtain⟨y,_,rfl⟩:=List.mem_map.1 hx;rfl
theorem Qzo:(Tryz.prog.info? 139).map (·.size)=some 1:=by kernel_rfl
theorem Qvp (s:QSet) (b:Nat) (u:Value) (w:World) (hf:QUb s) (hb:(b:Int)<s.width) (hu:Qi w u s.words):Calls Tryz.prog 58 #[setV s u,.int .i64 b] w (Qht (putS s b) w):=by
 obtain⟨m,hm,hm2,hk⟩:=Qka hf;obtain⟨ua,uc,rfl,-,-,-,hcell⟩:=hu.cell;obtain⟨k,hk2⟩:=Ze s.words.length;have hbk:b / 64<k:=by rw [←hk2,hk];unfold Qj;omega
 have hkk:k=Qj m:=by omega
 have hm3:m≤64*k:=by rw [hkk];unfold Qj;omega
 have hk5:k≤4:=by rw [hkk];unfold Qj;omega
 rw [hk2] at hu ⊢;rw [hm] at hb;rw [show setV s (.slice ua k uc)=.agg #[.int .i64 (m:Int),.slice ua k uc] from by unfold setV;rw [hm]];obtain⟨W,hW⟩:=Ze ((w.alloc (.cells #[.int .i64 (m:Int),.slice ua k uc] 52)).alloc (.cells #[.int .i64 0,.slice none 0 0] 52));have B0:Below w.heap.size w W:=by rw [←hW];exact(Zb).alloc (by simp) _
 have HB1:W.heap[w.heap.size]? = some (.cells #[.int .i64 (m:Int),.slice ua k uc] 52 (0,0)):=by rw [←hW];exact Qz _ (heap_alloc_new _ _)
 have HB2:W.heap[w.heap.size+1]? = some (.cells #[.int .i64 0,.slice none 0 0] 52 (0,0)):=by rw [←hW];exact Qda _ _
 have H1:=Zh HB1;have H2:=Zh HB2;have HW:=Zh hW;have BB:=Zh B0;have HU:=Zh hu;have HF:=Zh hf;have HK:=Zh hk2;have HM:=Zh hm;have HC:=Zh hcell;have HKK:=Zh hkk;clear hW HB1 HB2 B0 hk hk2 hkk hf hu hcell hm;go_enter Tryz.func58,Tryz.ntmps58;go_wp2_with fail;rw [show(w.alloc (.cells #[.int .i64 (m:Int),.slice ua k uc] 52)).alloc (.cells #[.int .i64 0,.slice none 0 0] 52)=W from HW.o];refine(Qjc m hm2 W).mono ?_;rintro e v ⟨u1,rfl,⟨g,rfl,hg1,hg2,-⟩,b1⟩;have L1:=Qc H1.o b1 (Qb H1.o);have L2:=Qc H2.o b1 (Qb H2.o);have hz1:=Nat.lt_of_lt_of_le (Qb H1.o) b1.size;have hz2:=Nat.lt_of_lt_of_le (Qb H2.o) b1.size;have hgv:=Qb hg2;have e1:(Qy m).words.length=k:=by have:=HKK.o;unfold Qy;simp;omega
 rw [show setV (Qy m) (.slice (some ⟨g,0,none⟩) (Qy m).words.length (Qy m).words.length)=.agg #[.int .i64 (m:Int),.slice (some ⟨g,0,none⟩) k k] from by rw [e1];rfl];obtain⟨V,hV⟩:=Ze (v.alloc (.cells #[.int .i64 (m:Int),.slice (some ⟨g,0,none⟩) k k] 52));have BV:Below v.heap.size v V:=by rw [←hV];exact Zb
 have L3:V.heap[v.heap.size]? = some (.cells #[.int .i64 (m:Int),.slice (some ⟨g,0,none⟩) k k] 52 (0,0)):=by rw [←hV];exact heap_alloc_new _ _
 have HG:=Zh (Qc hg2 BV hgv);have x0:=(Qa L1).1 0;have x1:=(Qa L1).1 1;simp only [Zx,Zy,Zz] at x0 x1;have L1:=Qc L1 BV hz1;have L2:=Qc L2 BV hz2;have B1:=Zh (b1.trans (BV.mono b1.size));have HV:=Zh hV;have HL1:=Zh L1;have HL2:=Zh L2;have HL3:=Zh L3;have E1:=Zh e1;obtain⟨x,hx⟩:∃x,s.words[b / 64]? = some x:=⟨_,List.getElem?_eq_getElem (show b / 64<s.words.length by have:=HK.o;omega)⟩;obtain⟨b0,o0,rfl,-,-,-⟩:=HC.o _ _ hx;have SRC:=Zh (show ∀j x,(s.words.map uv)[j]? = some x→V.cell? ((⟨b0,o0,none⟩:Addr).add j)=some x from by
  intro j x hx;rw [List.getElem?_map] at hx;obtain⟨y,hy,rfl⟩:=Option.map_eq_some_iff.1 hx;obtain⟨b3,o3,e3,hb3,-,hc3⟩:=HC.o j y hy;injection e3 with e3
  injection e3 with e3 e4
  subst e3 e4;rw [Qun];exact((BB.o.trans (B1.o.mono BB.o.size)).cell (p:=⟨b0,o0+j,none⟩) hb3).trans hc3)
 have OC:=Zh (QAr s.words);have LN1:=Zh (show(s.words.map uv).length=Nat.min k k by rw [List.length_map,HK.o];simp);have LN2:=Zh (show(s.words.map uv).length=((Qy m).words.map uv).toArray.size by simp only [List.size_toArray,List.length_map];rw [HK.o,e1]);have hvW:v.heap.size≠g:=by omega
 clear x0 x1 b1 hg2 BV L1 L2 L3 e1;have x0:=(Qa HL1.o).1 0;have x1:=(Qa HL1.o).1 1;have y0:=(Qa HL3.o).1 0;have y1:=(Qa HL3.o).1 1;simp only [Zx,Zy,Zz] at x0 x1 y0 y1;have HX:=Zh hx;have hxl:x<18446744073709551616:=HF.o.2.2 x (List.mem_of_getElem? hx);clear hx;go_wp2_with ((with_reducible refine QEi (o:=⟨some 13,_,_,_,_,_⟩) rfl (.tmp 10) (.tmp 12) 50 50 rfl 139 Tryz.underlying50 Qzo g k k ⟨b0,o0,none⟩ k uc rfl rfl _ 139 HG.o (s.words.map uv) LN1.o SRC.o LN2.o OC.o ?_));rintro v2 h2 b2;have M1:=(b2.block (v.heap.size) (Qb HL3.o) hvW).trans HL3.o;have M2:=(b2.block (w.heap.size+1) (Qb HL2.o) (by have:=Qb H2.o;omega)).trans HL2.o;have y0:=(Qa M1).1 0;have y1:=(Qa M1).1 1;have z0:=(Qa M2).1 0;have z1:=(Qa M2).1 1;have f0:=(Qa M2).2 0;have f1:=(Qa M2).2 1;have g0:=(Qa h2).1 (b / 64);have g1:=(Qa h2).2 (b / 64);rw [List.getElem?_toArray,List.getElem?_map,HX.o] at g0;simp only [List.getElem?_toArray,List.getElem?_cons_zero,List.getElem?_cons_succ,Option.map_some] at y0 y1 z0 z1 g0;have B2:=Zh b2;have HM1:=Zh M1;have HM2:=Zh M2;have HG2:=Zh h2;have q1:0≤(b:Int) / 64:=by omega
 have q2:(b:Int) / 64<k:=by omega
 have q3:((b:Int) / 64).toNat=b / 64:=by omega
 have q4:0≤(b:Int) % 64:=by omega
 have q5:IntKind.u64.wrap ((b:Int) % 64)=(b:Int) % 64:=by rw [IntKind.wrap_u64];omega
 have q6:((b:Int) % 64).toNat=b % 64:=by omega
 obtain⟨y,hy⟩:=Ze (x ||| 2 ^ (b % 64));have q7:bits .or .u64 (x:Int) (IntKind.u64.wrap (2 ^ (b % 64)))=(y:Int):=by
  have h1:IntKind.u64.wrap (2 ^ (b % 64))=((2 ^ (b % 64):Nat):Int):=by
   have:=Qjd b;rw [show((2:Int) ^ (b % 64))=((2 ^ (b % 64):Nat):Int) by simp,IntKind.wrap_u64];generalize 2 ^ (b % 64)=p at *;omega
  rw [h1,Qhl x _ hxl (Qjd b),hy]
 have HY:=Zh hy;have hg3:w.heap.size+1≠g:=by have:=Qb H2.o;omega
 clear x0 x1 b2 M1 M2 h2 hV hy;go_wp2;have HP:=Zh (show(putS s b).words=s.words.set (b / 64) y by
  unfold putS;rw [List.getD_eq_getElem?_getD,HX.o];simp [←HY.o])
 have HL:=Zh (show(putS s b).words.length=k by rw [HP.o,List.length_set];exact HK.o);have BF:Below w.heap.size w v2:=(BB.o.trans (B1.o.mono BB.o.size)).trans (B2.o.toBelow (Nat.le_trans BB.o.size hg1) (Nat.le_trans BB.o.size B1.o.size));refine bodyPost_ret (v:=setV (putS s b) (.slice (some ⟨g,0,none⟩) (putS s b).words.length (putS s b).words.length)) (by rw [HL.o,show setV (putS s b) (.slice (some ⟨g,0,none⟩) k k)=.agg #[.int .i64 (m:Int),.slice (some ⟨g,0,none⟩) k k] by unfold setV;rw [show(putS s b).width=s.width from rfl,HM.o]];simp [results,Tryz.results58,go_sem,z0,z1,hg3,Ne.symm hg3]) rfl ⟨_,rfl,⟨g,rfl,Nat.le_trans BB.o.size hg1,?_,Qnd HF.o b⟩,((BF.setCell (p:=⟨g,b / 64,none⟩) (Nat.le_trans BB.o.size hg1) _).setCell (p:=⟨w.heap.size+1,0,none⟩) (by show w.heap.size≤w.heap.size+1;omega) _).setCell (p:=⟨w.heap.size+1,1,none⟩) (by show w.heap.size≤w.heap.size+1;omega) _⟩;rw [Below.heap_setCell _ _ _ _ (by show g≠w.heap.size+1;omega),Below.heap_setCell _ _ _ _ (by show g≠w.heap.size+1;omega),HP.o,List.map_set];have hgg:=HG2.o;simp [World.setCell,Array.getElem?_modify,hgg]
end
section
open Go.RowKit
variable [Base]
def OwnE (s:QSet) (w:World) (e:Ending) (w':World):Prop:=∃u,e=.returned (.tuple #[setV s u,.int .i64 0])∧OwnS w.heap.size w' u s∧Below w.heap.size w w'
def NewS (B:Nat) (w:World) (u:Value) (s:QSet):Prop:=(u=.slice none 0 0∧s.words=[])∨OwnS B w u s
theorem NewS.words {B:Nat} {w:World} {u:Value} {s:QSet} (h:NewS B w u s):Qi w u s.words:=by
 rcases h with⟨rfl,h⟩|h
 ·rw [h];exact Qi.nil
 ·exact h.words
theorem NewS.shape {B:Nat} {w:World} {u:Value} {s:QSet} (h:NewS B w u s):∃a n c,u=.slice a n c:=by
 rcases h with⟨rfl,h⟩|⟨g,e,_⟩
 ·exact⟨_,_,_,rfl⟩
 ·exact⟨_,_,_,e⟩
theorem NewS.setCell {B r o:Nat} {x:Value} {w:World} {u:Value} {s:QSet} (h:NewS B w u s) (hr:r<B):NewS B (w.setCell ⟨r,o,none⟩ x) u s:=by
 rcases h with h|⟨g,e,h1,h2,h3⟩
 ·exact .inl h
 ·exact .inr ⟨g,e,h1,by rw [Below.heap_setCell _ _ _ _ (by show g≠r;omega)];exact h2,h3⟩
theorem NewS.mono {B C:Nat} {w:World} {u:Value} {s:QSet} (h:NewS B w u s) (hb:C≤B):NewS C w u s:=h.imp_right fun k=>k.mono hb
def SetE (r:QSet×Int) (w:World) (e:Ending) (w':World):Prop:=∃u,e=.returned (.tuple #[setV r.1 u,.int .i64 r.2])∧NewS w.heap.size w' u r.1∧Below w.heap.size w w'
def Qrd:QSet:=⟨0,[]⟩
abbrev QPd:Value:=.agg #[.int .i64 0,.slice none 0 0]
def QJd (n:Int) (w:World) (e:Ending) (w':World):Prop:=e=.returned (.tuple #[QPd,.int .i64 n])∧Below w.heap.size w w'
theorem QJd.set {n:Int} {w w':World} {e:Ending} (h:QJd n w e w'):SetE (Qrd,n) w e w':=⟨.slice none 0 0,h.1,.inl ⟨rfl,rfl⟩,h.2⟩
theorem Qxe (m:Nat) (hm:m≤256) (w:World):Calls Tryz.prog 49 #[.int .i64 m] w (OwnE (Qy m) w):=by
 have hmk:=QTd (Qj m) (by unfold Qj;omega) (((m:Int)+63) / 64) (by unfold Qj;omega);have HF:=Zh (QZb hm);have HZ:=Zh (QUt m);have hr:QEa (m:Int)=true:=by unfold QEa;simp;omega
 have HR:=Zh hr;clear hr;go_enter Tryz.func49,Tryz.ntmps49;go_wp2_with first|(go_at_call 116;refine(QYd HR.o _).mono ?_;rintro e w' ⟨rfl,rfl⟩)|(go_at_call 117;refine(QLf _ (by omega) (by omega) _).mono ?_;rintro e w' ⟨rfl,rfl⟩)
 refine bodyPost_ret (v:=.tuple #[setV (Qy m) (.slice (some ⟨w.heap.size+1,0,none⟩) (Qy m).words.length (Qy m).words.length),.int .i64 0]) (by simp [results,Tryz.results49,go_sem,Qy]) rfl ⟨_,rfl,⟨w.heap.size+1,rfl,by omega,?_,HF.o⟩,(Zb).alloc (by simp) _⟩;rw [←HZ.o];exact Qda _ _
theorem QSk (n:Int) (hn:QEa n=false) (w:World):Calls Tryz.prog 49 #[.int .i64 n] w (QJd 3 w):=by
 have HR:=Zh hn;clear hn;go_enter Tryz.func49,Tryz.ntmps49;go_wp2_with (go_at_call 116;refine(QYd HR.o _).mono ?_;rintro e w' ⟨rfl,rfl⟩);exact bodyPost_ret (v:=.tuple #[QPd,.int .i64 3]) (by simp [results,Tryz.results49,go_sem]) rfl ⟨rfl,Zb⟩
theorem ButB.refl (g:Nat) (w:World):ButB g w w:=⟨rfl,rfl,rfl,Nat.le_refl _,fun _ _ _=>rfl⟩
theorem ButB.trans {g:Nat} {a b c:World} (h:ButB g a b) (k:ButB g b c):ButB g a c:=⟨k.os.trans h.os,k.tape.trans h.tape,k.output.trans h.output,Nat.le_trans h.size k.size,fun i hi hn=>(k.block i (Nat.lt_of_lt_of_le hi h.size) hn).trans (h.block i hi hn)⟩
theorem ButB.alloc {g:Nat} {a w:World} (h:ButB g a w) (o:Obj):ButB g a (w.alloc o):=h.trans ⟨rfl,rfl,rfl,by simp,fun k hk _=>Below.heap_alloc _ _ _ hk⟩
theorem ButB.setCell {g:Nat} {a w:World} (h:ButB g a w) (o:Nat) (u:Value):ButB g a (w.setCell ⟨g,o,none⟩ u):=
 ⟨h.os,h.tape,h.output,by simpa using h.size,fun k hk hn=>by rw [Below.heap_setCell _ _ _ _ (by exact hn)];exact h.block k hk hn⟩
theorem ButB.below {g:Nat} {a w w':World} (h:ButB g a w) (k:Below w.heap.size w w'):ButB g a w':=h.trans ⟨k.os,k.tape,k.output,k.size,fun i hi _=>k.block i hi⟩
def PutQ (g:Nat) (s:QSet) (w:World) (e:Ending) (w':World):Prop:=
 e=.returned (.tuple #[])∧w'.heap[g]? = some (.cells (s.words.map uv).toArray 139 (0,0))∧ButB g w w'
theorem QRs (s:QSet) (b g:Nat) (w:World) (hf:QUb s) (hb:(b:Int)<s.width) (hg:w.heap[g]? = some (.cells (s.words.map uv).toArray 139 (0,0))):
  Calls Tryz.prog 118 #[setV s (.slice (some ⟨g,0,none⟩) s.words.length s.words.length),.int .i64 b] w (PutQ g (putS s b) w):=by
 obtain⟨m,hm,hm2,hk⟩:=Qka hf;obtain⟨k,hk2⟩:=Ze s.words.length;have hbk:b / 64<k:=by rw [←hk2,hk];unfold Qj;omega
 have hk5:k≤4:=by rw [←hk2,hk];unfold Qj;omega
 obtain⟨x,hx⟩:∃x,s.words[b / 64]? = some x:=⟨_,List.getElem?_eq_getElem (show b / 64<s.words.length by omega)⟩;have hxl:x<18446744073709551616:=hf.2.2 x (List.mem_of_getElem? hx);have hlt:=Qb hg;have g0:=(Qa hg).1 (b / 64);have g1:=(Qa hg).2 (b / 64);rw [List.getElem?_toArray,List.getElem?_map,hx] at g0;simp only [Option.map_some] at g0;have q1:0≤(b:Int) / 64:=by omega
 have q2:(b:Int) / 64<k:=by omega
 have q3:((b:Int) / 64).toNat=b / 64:=by omega
 have q4:0≤(b:Int) % 64:=by omega
 have q5:IntKind.u64.wrap (b:Int)=(b:Int):=by rw [IntKind.wrap_u64];omega
 have q6:((b:Int) % 64).toNat=b % 64:=by omega
 obtain⟨y,hy⟩:=Ze (x ||| 2 ^ (b % 64));have q7:bits .or .u64 (x:Int) (IntKind.u64.wrap (2 ^ (b % 64)))=(y:Int):=by
  have h1:IntKind.u64.wrap (2 ^ (b % 64))=((2 ^ (b % 64):Nat):Int):=by
   have:=Qjd b;rw [show((2:Int) ^ (b % 64))=((2 ^ (b % 64):Nat):Int) by simp,IntKind.wrap_u64];generalize 2 ^ (b % 64)=p at *;omega
  rw [h1,Qhl x _ hxl (Qjd b),hy]
 have HY:=Zh hy;have HX:=Zh hx;have HG:=Zh hg;have hne:w.heap.size≠g:=by omega
 rw [hk2];clear hy hx hg hf hm hk hk2;go_enter Tryz.func118,Tryz.ntmps118;go_wp2_with fail;have HP:=Zh (show(putS s b).words=s.words.set (b / 64) y by
  unfold putS;rw [List.getD_eq_getElem?_getD,HX.o];simp [←HY.o])
 go_end0;refine⟨rfl,?_,?_⟩
 ·rw [HP.o,List.map_set];have hgg:=HG.o;rw [Below.heap_alloc _ _ _ (by rw [World.size_setCell];exact Qb hgg)];simp [World.setCell,Array.getElem?_modify,hgg]
 ·exact((ButB.refl g w).setCell _ _).alloc _
end
section
open Go.RowKit
variable [Base]
theorem Qem (s:QSet) (u:Value) (w:World) (h:Qi w u s.words):Calls Tryz.prog 80 #[setV s u] w (Qia (setB s) w):=by
 obtain⟨a,c,rfl,hm,hc,hcm,hk⟩:=h.cell;obtain⟨n,hn⟩:=Ze s.words.length;obtain⟨W,hW⟩:=Ze (w.alloc (.cells #[.int .i64 s.width,.slice a n c] 52));have B0:Below w.heap.size w W:=by rw [←hW];exact Zb
 have HB0:W.heap[w.heap.size]? = some (.cells #[.int .i64 s.width,.slice a n c] 52 (0,0)):=by rw [←hW];exact heap_alloc_new _ _
 have x0:=(Qa HB0).1 0;have x1:=(Qa HB0).1 1;simp at x0 x1;rw [hn] at hm hc ⊢;have HW:=Zh hW;have BB:=Zh B0;have HN:=Zh hn;unfold maxLen at hm;by_cases h1:0≤s.width;rotate_left
 ·have hv:setB s=false:=by unfold setB QEa;simp [h1]
  rw [hv];clear hW HB0 hk B0 h hn hv;go_enter Tryz.func80,Tryz.ntmps80;go_wp2_with fail;rw [show w.alloc (.cells #[.int .i64 s.width,.slice a n c] 52)=W from HW.o];go_wp2;go_ret;exact⟨rfl,BB.o⟩
 by_cases h2:s.width≤256;rotate_left
 ·have hv:setB s=false:=by unfold setB QEa;simp [h2]
  rw [hv];clear hW HB0 hk B0 h hn hv;go_enter Tryz.func80,Tryz.ntmps80;go_wp2_with fail;rw [show w.alloc (.cells #[.int .i64 s.width,.slice a n c] 52)=W from HW.o];go_wp2;go_ret;exact⟨rfl,BB.o⟩
 by_cases h3:(n:Int)=(s.width+63) / 64;rotate_left
 ·have hv:setB s=false:=by unfold setB QId;rw [hn];simp [h3]
  have d2:((n:Int) !=(s.width+63) / 64)=true:=by simpa using h3
  rw [hv];clear hW HB0 hk B0 h hn hv h3;go_enter Tryz.func80,Tryz.ntmps80;go_wp2_with fail;rw [show w.alloc (.cells #[.int .i64 s.width,.slice a n c] 52)=W from HW.o];go_wp2;go_ret;exact⟨rfl,BB.o⟩
 have d2:((n:Int) !=(s.width+63) / 64)=false:=by simpa using h3
 have hlens:QId s=true:=by unfold QId;rw [hn];simpa using h3
 have HT:=Zh (QFh h.2 h1 hlens);have hv:setB s=Qli s:=by unfold setB QEa;rw [hlens];simp [h1,h2]
 rw [hv];have HK:=Zh hk;have HOK:=Zh h.2;obtain⟨sw,ws⟩:=s;dsimp only at *;obtain⟨m,rfl⟩:=Int.eq_ofNat_of_zero_le h1;have hle:m≤64*n:=by omega
 have hn5:n≤5:=by omega
 clear hW HB0 hk B0 h hn hv h3 hlens h1;go_enter Tryz.func80,Tryz.ntmps80;go_wp2_with fail;rw [show w.alloc (.cells #[.int .i64 (m:Int),.slice a n c] 52)=W from HW.o];go_wp2;go_loop [3] (fun y=>∃b:Nat,m≤b∧b≤64*n∧y=.int .i64 b∧Hid (∀k:Nat,m≤k→k<b→QE ws k=false)) (fun y=>64*n-(intOf y).toNat)
 case atStart=>exact⟨m,Nat.le_refl _,hle,rfl,fun k h1 h2=>by omega⟩
 case round=>
  obtain⟨b,hb1,hb2,rfl,HF⟩:=hrel;by_cases hlt:b<64*n
  ·obtain⟨x,hx⟩:∃x,ws[b / 64]? = some x:=⟨_,List.getElem?_eq_getElem (show b / 64<ws.length by have:=HN.o;omega)⟩;obtain⟨xb,off,rfl,hxb,-,hcell⟩:=HK.o (b / 64) x hx;have hxl:x<18446744073709551616:=HOK.o x (List.mem_of_getElem? hx);have gc:=(BB.o.cell (p:=⟨xb,off+b / 64,none⟩) hxb).trans hcell;have hbit:QE ws b=x.testBit (b % 64):=by unfold QE;rw [List.getD_eq_getElem?_getD,hx];rfl
   have sh:=Qbj x (b % 64) hxl;have e1:0≤(b:Int) / 64:=by omega
   have e2:(b:Int) / 64<n:=by omega
   have e3:((b:Int) / 64).toNat=b / 64:=by omega
   have e4:0≤(b:Int) % 64:=by omega
   have e5:IntKind.u64.wrap ((b:Int) % 64)=(b:Int) % 64:=by rw [IntKind.wrap_u64];omega
   have e6:((b:Int) % 64).toNat=b % 64:=by omega
   have HX:=Zh hbit;clear hx hxl hbit hcell HK
   cases hb:x.testBit (b % 64)
   ·rw [hb] at sh;have HB:=Zh (HX.o.trans hb);go_wp2;go_round
    case rel=>
     refine⟨b+1,by omega,by omega,by go_num,fun k h1 h2=>?_⟩;rcases Nat.lt_or_ge k b with h3|h3
     ·exact HF.o k h1 h3
     ·obtain rfl:k=b:=by omega
      exact HB.o
    case measure=>simp [intOf];omega
   ·rw [hb] at sh;have HB:=Zh (HX.o.trans hb);have hv:Qli ⟨m,ws⟩=false:=by
     rw [Bool.eq_false_iff];intro h;have h5:=HT.o.1 h b (by omega) (by have:=HN.o;omega);rw [HB.o] at h5
     cases h5
    rw [hv];clear HT hv;go_wp2;go_ret;exact⟨rfl,BB.o⟩
  ·have hv:Qli ⟨m,ws⟩=true:=HT.o.2 fun k h1 h2=>HF.o k (by omega) (by have:=HN.o;omega)
   have HV:=Zh hv;clear HT hv;go_wp2;go_ret;exact⟨Qyb HV.o.symm,BB.o⟩
end
end Go.Proofs.YtijekimobahgpaaGreatDoor
