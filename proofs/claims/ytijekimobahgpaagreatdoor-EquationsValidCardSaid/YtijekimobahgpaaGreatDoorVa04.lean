/- A part of the proof. -/
import Derived.Test.YtijekimobahgpaaGreatDoorVa03
set_option linter.unusedVariables false
set_option linter.unusedSimpArgs false
set_option linter.unusedSectionVars false
set_option maxRecDepth 100000
set_option maxHeartbeats 16000000
namespace Go.Proofs.YtijekimobahgpaaGreatDoor
section
def Asc (l:List Int):Prop:=l.Pairwise (· < ·)
theorem QIi:∀{a b:List Int},Asc a→Asc b→(∀x,x∈a↔x∈b)→a=b
|[],[],_,_,_=>rfl
|[],y::b,_,_,h=>by have:=(h y).2 ZS;cases this
|x::a,[],_,_,h=>by have:=(h x).1 ZS;cases this
|x::a,y::b,ha,hb,h=>by
  obtain⟨ha1,ha2⟩:=List.pairwise_cons.1 ha
  obtain⟨hb1,hb2⟩:=List.pairwise_cons.1 hb
  have e:x=y:=by
   rcases List.mem_cons.1 ((h x).1 ZS) with e|e
   ·exact e
   ·rcases List.mem_cons.1 ((h y).2 ZS) with e'|e'
    ·exact e'.symm
    ·have:=ha1 y e';have:=hb1 x e;omega
  subst e
  congr 1
  refine QIi ha2 hb2 fun z=>?_
  constructor
  ·intro hz;rcases List.mem_cons.1 ((h z).1 (List.mem_cons_of_mem _ hz)) with e|e
   ·have:=ha1 z hz;omega
   ·exact e
  ·intro hz;rcases List.mem_cons.1 ((h z).2 (List.mem_cons_of_mem _ hz)) with e|e
   ·have:=hb1 z hz;omega
   ·exact e
def insI (l:List Int)(n:Int):List Int:=if n∈l then l else l.takeWhile (decide <| · < n)++n::l.dropWhile (decide <| · < n)
theorem Qls {l:List Int}{n x:Int}:x∈insI l n↔x∈l∨x=n:=by
 unfold insI
 split
 ·constructor
  ·exact .inl
  ·rintro(h|rfl) <;> assumption
 ·have:=List.takeWhile_append_dropWhile (p:=fun y:Int=>decide (y<n)) (l:=l);constructor
  ·intro h;rcases List.mem_append.1 h with h|h
   ·left;rw[←this];exact List.mem_append.2 (.inl h)
   ·rcases List.mem_cons.1 h with h|h
    ·exact .inr h
    ·left;rw[←this];exact List.mem_append.2 (.inr h)
  ·rintro(h|rfl)
   ·rw[←this] at h;rcases List.mem_append.1 h with h|h
    ·exact List.mem_append.2 (.inl h)
    ·exact List.mem_append.2 (.inr (List.mem_cons_of_mem _ h))
   ·exact List.mem_append.2 (.inr ZS)
theorem Qsl {n:Int}:∀{l:List Int},Asc l→n∉l→∀x∈l.dropWhile (decide <| · < n),n<x
|[],_,_,x,hx=>by simp at hx
|y::l,ha,hn,x,hx=>by
  obtain⟨h1,h2⟩:=List.pairwise_cons.1 ha
  have hn':n≠y∧n∉l:=by simpa using hn
  rw[List.dropWhile_cons] at hx
  split at hx
  ·exact Qsl h2 hn'.2 x hx
  ·rename_i hy
   have hy':n<y:=by
    have:¬y<n:=by simpa using hy
    omega
   rcases List.mem_cons.1 hx with rfl|hx
   ·exact hy'
   ·have:=h1 x hx;omega
theorem Qop {n x:Int}:∀{l:List Int},x∈l.takeWhile (decide <| · < n)→x<n
|[],h=>by simp at h
|y::l,h=>by
  rw[List.takeWhile_cons] at h
  split at h
  ·rename_i hy
   rcases List.mem_cons.1 h with rfl|h
   ·simpa using hy
   ·exact Qop h
  ·cases h
theorem QYs {l:List Int}{n:Int}(h:Asc l):Asc (insI l n):=by
 unfold insI
 split
 ·exact h
 ·rename_i hn;have hw:=List.takeWhile_append_dropWhile (p:=fun y:Int=>decide (y<n)) (l:=l);refine List.pairwise_append.2 ⟨h.sublist (List.takeWhile_sublist _),List.pairwise_cons.2 ⟨Qsl h hn,h.sublist (List.dropWhile_sublist _)⟩,?_⟩;intro a ha b hb;have h1:=Qop ha;rcases List.mem_cons.1 hb with rfl|hb
  ·exact h1
  ·have:=Qsl h hn b hb;omega
theorem Qox {s:List Int}:∀{l:List Int},Asc l→Asc (s.foldl insI l)∧∀x,x∈s.foldl insI l↔x∈l∨x∈s:=by
 induction s with
|nil=>intro l h;exact⟨h,fun x=>by simp⟩
|cons n s ih=>
  intro l h;obtain⟨h1,h2⟩:=ih (QYs h (n:=n));refine⟨h1,fun x=>?_⟩;rw[List.foldl_cons,h2,Qls,List.mem_cons];constructor
  ·rintro((h|h)|h)
   ·exact .inl h
   ·exact .inr (.inl h)
   ·exact .inr (.inr h)
  ·rintro(h|h|h)
   ·exact .inl (.inl h)
   ·exact .inl (.inr h)
   ·exact .inr h
def rowF (n:Nat)(f:Nat→Bool):List Int:=((List.range n).filter f).map fun k:Nat=>(k:Int)
theorem Qih {n:Nat}{f:Nat→Bool}{x:Int}:x∈rowF n f↔∃k:Nat,x=k∧k<n∧f k=true:=by
 unfold rowF;simp only[List.mem_map,List.mem_filter,List.mem_range];constructor
 ·rintro⟨k,⟨h1,h2⟩,rfl⟩;exact⟨k,rfl,h1,h2⟩
 ·rintro⟨k,rfl,h1,h2⟩;exact⟨k,⟨h1,h2⟩,rfl⟩
theorem Qzh (n:Nat)(f:Nat→Bool):Asc (rowF n f):=by
 unfold Asc rowF;refine List.Pairwise.map (R:=(· < ·)) _ (fun a b h=>by omega) ?_;exact List.pairwise_lt_range.sublist List.filter_sublist
theorem Qbm (n:Nat)(f:Nat→Bool):(rowF n f).length≤n:=by
 unfold rowF;rw[List.length_map];exact Nat.le_trans (List.length_filter_le _ _) ZS
def Qve (p:List Qo)(l:List Qx)(i j:Nat):Bool:=
 match l[i]?,l[j]? with
|some n,some m=>decide (m∈Qmd p l n)
|_,_=>false
def QLl (p:List Qo)(i:Nat):List Int:=rowF (QR p).length fun j=>Qve p (QR p) i j
def Qgm (p:List Qo)(j:Nat):List Int:=rowF (QR p).length fun i=>Qve p (QR p) i j
def Qkc (p:List Qo):List (List Int):=(List.range (QR p).length).map (QLl p)
def Qmc (p:List Qo):List (List Int):=(List.range (QR p).length).map (Qgm p)
theorem QGf {α:Type} [DecidableEq α]:∀{a b:List α},a.Nodup→(∀x∈a,x∈b)→a.length≤b.length
|[],b,_,_=>Nat.zero_le _
|x::a,b,h,hs=>by
  obtain⟨h1,h2⟩:=List.nodup_cons.1 h
  have hx:x∈b:=hs x ZS
  have h3:=QGf (b:=b.erase x) h2 (fun y hy=>by
   have hne:y≠x:=fun e=>h1 (e▸hy)
   exact(List.mem_erase_of_ne hne).2 (hs y (List.mem_cons_of_mem _ hy)))
  have h4:=List.length_erase_of_mem hx
  have h5:0<b.length:=List.length_pos_of_mem hx
  simp only[List.length_cons]
  omega
theorem QVe (a b:List Int):sumI (a++b)=sumI a+sumI b:=by
 have h:∀(l:List Int) (x:Int),l.foldl (· + ·) x=x+sumI l:=by
  intro l
  induction l with
 |nil=>intro x;simp[sumI]
 |cons y l ih=>intro x;unfold sumI;rw[List.foldl_cons,List.foldl_cons,ih,ih (0+y)];omega
 unfold sumI;rw[List.foldl_append,h b];rfl
theorem QGh (x:Int)(l:List Int):sumI (x::l)=x+sumI l:=by
 have:=QVe [x] l
 simpa [sumI] using this
theorem Que (p:List Qo)(a b:List Qx):Qva p (a++b)=Qva p a++Qva p b:=by
 unfold Qva;rw[List.map_append,List.flatten_append]
theorem QOe (p:List Qo)(n:Qx)(b:List Qx):Qva p (n::b)=QU p n++Qva p b:=rfl
theorem QHn {s:QD}(h:stmtB s=true):(s.op=7→s.targets.length=1)∧(s.op=8→s.targets.length=2):=by
 unfold stmtB opB at h;simp only[Bool.and_eq_true] at h;have h4:=h.2.2;constructor
 ·intro e;rw[e] at h4;simp at h4;exact h4.2.2
 ·intro e;rw[e] at h4;simp at h4;exact h4.2.2
theorem QUo {p:List Qo}(hc:Ckd p){i k j:Nat}{f:Qo}{b:QI}{s:QD}(h:At p i k j f b s):((Qva p (QWe i k j s)).length:Int)=Qod s:=by
 obtain⟨hsb,-,-⟩:=hc.at_ h;obtain⟨h7,h8⟩:=QHn hsb;have e4:QU p ⟨4,(i:Nat),(k:Nat),(j:Nat)⟩=[]:=by simp[QU]
 have e3:((QU p ⟨3,(i:Nat),(k:Nat),(j:Nat)⟩).length:Int)=Qod s:=by
  unfold QU Qod;rw[if_neg ZS,if_pos rfl,h.d 3];by_cases c7:s.op=7
  ·rw[if_pos (.inl c7),List.length_map,h7 c7,if_neg ZO,if_neg ZO];rfl
  by_cases c8:s.op=8
  ·rw[if_pos (.inr c8),List.length_map,h8 c8,if_neg ZO,if_pos c8];rfl
  rw[if_neg ZO];by_cases c9:s.op=9
  ·rw[if_pos c9,if_neg ZO,if_neg ZO];rfl
  rw[if_neg c9];by_cases c3:s.op=3
  ·rw[if_pos c3,if_pos c3];rfl
  ·rw[if_neg c3,if_neg c3,if_neg c8];rfl
 unfold QWe;rw[QOe,List.length_append,Int.natCast_add,e3];by_cases c3:s.op=3
 ·rw[if_pos c3,QOe,e4];simp[Qva]
 ·rw[if_neg c3];simp[Qva]
theorem QAi {p:List Qo}(hc:Ckd p){i k:Nat}{f:Qo}{b:QI}(hf:p[i]? = some f)(hb:f.blocks[k]? = some b):∀(l:List QD) (m:Nat),(∀j s,l[j]? = some s→b.stmts[m+j]? = some s)→((Qva p (Qta i k l m)).length:Int)=sumI (l.map Qod)
|[],m,_=>by simp[Qta,Qva,sumI]
|s::r,m,h=>by
  unfold Qta
  have h0:=QUo hc (j:=m) ⟨hf,hb,by simpa using h 0 s rfl⟩
  have h1:=QAi hc hf hb r (m+1) (fun j s' hj=>by rw[show m+1+j=m+(j+1) by omega];exact h (j+1) s' (by simpa using hj))
  rw[Que,List.length_append,Int.natCast_add,h0,h1,List.map_cons,QGh]
theorem Qrh {p:List Qo}(hc:Ckd p){i:Nat}{f:Qo}(hf:p[i]? = some f):∀(l:List QI) (m:Nat),(∀k b,l[k]? = some b→f.blocks[m+k]? = some b)→((Qva p (Qca i l m)).length:Int)=sumI ((l.map QI.stmts).flatten.map Qod)
|[],m,_=>by simp[Qca,Qva,sumI]
|b::r,m,h=>by
  unfold Qca
  have h0:=QAi hc hf (by simpa using h 0 b rfl:f.blocks[m]? = some b) b.stmts 0 (fun j s hj=>by simpa using hj)
  have h1:=Qrh hc hf r (m+1) (fun j s' hj=>by rw[show m+1+j=m+(j+1) by omega];exact h (j+1) s' (by simpa using hj))
  rw[Que,List.length_append,Int.natCast_add,h0,h1,List.map_cons,List.flatten_cons,List.map_append,QVe]
theorem QBi {p:List Qo}(hc:Ckd p):∀(l:List Qo) (m:Nat),(∀k f,l[k]? = some f→p[m+k]? = some f)→((Qva p (QB l m)).length:Int)=l.length+sumI ((QH l).map Qod)
|[],m,_=>by simp[QB,Qva,sumI,QH]
|f::r,m,h=>by
  unfold QB
  have h0:=Qrh hc (by simpa using h 0 f rfl:p[m]? = some f) f.blocks 0 (fun j s hj=>by simpa using hj)
  have h1:=QBi hc r (m+1) (fun j s' hj=>by rw[show m+1+j=m+(j+1) by omega];exact h (j+1) s' (by simpa using hj))
  have e1:QU p ⟨1,(m:Nat),-1,-1⟩=[(⟨1,(m:Nat),-1,-1⟩,⟨3,(m:Nat),0,0⟩)]:=by simp[QU]
  have e2:Qva p [(⟨2,(m:Nat),-1,-1⟩:Qx)]=[]:=by simp[Qva,QU]
  have e3:QH (f::r)=(f.blocks.map QI.stmts).flatten++QH r:=rfl
  unfold Qcf
  rw[Que,QOe,Que,e1,e2,List.append_nil,List.length_append,List.length_append,Int.natCast_add,Int.natCast_add,h0,h1,e3,List.map_append,QVe,List.length_cons]
  simp only[List.length_cons,List.length_nil]
  omega
theorem QVm {p:List Qo}(hc:Ckd p):((Qva p (QB p 0)).length:Int)=QNd p:=by
 rw[QBi hc p 0 (fun k f h=>by simpa using h)];unfold QNd;rw[if_pos hc.valid]
theorem Qri (i k:Nat):∀(l:List QD) (m:Nat),((Qta i k l m).length:Int)=sumI (l.map QHd)
|[],m=>by simp[Qta,sumI]
|s::r,m=>by
  unfold Qta
  rw[List.length_append,Int.natCast_add,Qri i k r (m+1),List.map_cons,QGh]
  congr 1
  unfold QWe QHd
  by_cases h:s.op=3 <;> simp[h]
theorem Qfh (i:Nat):∀(l:List QI) (m:Nat),((Qca i l m).length:Int)=sumI ((l.map QI.stmts).flatten.map QHd)
|[],m=>by simp[Qca,sumI]
|s::r,m=>by
  unfold Qca
  rw[List.length_append,Int.natCast_add,Qri,Qfh i r (m+1),List.map_cons,List.flatten_cons,List.map_append,QVe]
theorem Qsi:∀(l:List Qo) (m:Nat),((QB l m).length:Int)=2*l.length+sumI ((QH l).map QHd)
|[],m=>by simp[QB,sumI,QH]
|f::r,m=>by
  unfold QB Qcf
  have e3:QH (f::r)=(f.blocks.map QI.stmts).flatten++QH r:=rfl
  rw[List.length_append,List.length_cons,List.length_append,e3,List.map_append,QVe]
  have h1:=Qfh m f.blocks 0
  have h2:=Qsi r (m+1)
  simp only[List.length_cons,List.length_nil]
  omega
theorem Qpm {p:List Qo}(hc:Ckd p):((QB p 0).length:Int)=QMd p:=by
 rw[Qsi];unfold QMd;rw[if_pos hc.valid]
theorem Qne {p:List Qo}(h:QFa p=0):QR p=QB p 0:=by unfold QR;rw[if_pos h]
theorem Qme {p:List Qo}:(QR p).length≤256:=by
 unfold QR
 split
 ·rename_i h;have hc:=Qzb h;have:=Qpm hc;have:=hc.nodes;omega
 ·simp
def Qle (n:Nat)(g:Nat→Nat→Bool):Nat→List (Nat×Nat)
|0=>[]
|i+1=>Qle n g i++((List.range n).filter (g i)).map fun j=>(i,j)
theorem Qoe {n:Nat}{g:Nat→Nat→Bool}{a b:Nat}:∀{k:Nat},(a,b)∈Qle n g k↔a<k∧b<n∧g a b=true
|0=>by simp[Qle]
|k+1=>by
  unfold Qle
  rw[List.mem_append,Qoe]
  simp only[List.mem_map,List.mem_filter,List.mem_range,Prod.mk.injEq]
  constructor
  ·rintro(⟨h1,h2⟩|⟨j,⟨h1,h2⟩,rfl,rfl⟩)
   ·exact⟨by omega,h2⟩
   ·exact⟨by omega,h1,h2⟩
  ·rintro⟨h1,h2,h3⟩
   by_cases e:a=k
   ·subst e;exact .inr ⟨b,⟨h2,h3⟩,rfl,rfl⟩
   ·exact .inl ⟨by omega,h2,h3⟩
theorem Qeh (n:Nat)(g:Nat→Nat→Bool):∀k,(Qle n g k).Nodup
|0=>List.nodup_nil
|k+1=>by
  unfold Qle
  refine List.nodup_append.2 ⟨Qeh n g k,?_,?_⟩
  ·refine List.Pairwise.map (R:=(·≠·)) _ (fun a b h e=>h (by injection e)) ?_
   exact(List.nodup_range).sublist List.filter_sublist
  ·intro a ha b hb e
   subst e
   obtain⟨x,y⟩:=a
   have h1:=(Qoe.1 ha).1
   simp only[List.mem_map,Prod.mk.injEq] at hb
   obtain⟨j,_,h2,_⟩:=hb
   omega
theorem Qwg (n:Nat)(g:Nat→Nat→Bool):∀k,((Qle n g k).length:Int)=sumI ((List.range k).map fun i=>((rowF n (g i)).length:Int))
|0=>by simp[Qle,sumI]
|k+1=>by
  unfold Qle
  rw[List.length_append,Int.natCast_add,Qwg n g k,List.range_succ,List.map_append,QVe]
  congr 1
  simp[sumI,rowF]
theorem Qmi {p:List Qo}(h:QFa p=0):sumI ((Qkc p).map fun l=>(l.length:Int))≤1024∧sumI ((Qmc p).map fun l=>(l.length:Int))≤1024:=by
 have hc:=Qzb h;have hl:=Qne h;have hn:(QB p 0).Nodup:=QIe p 0;obtain⟨l,hl2⟩:=Ze (QB p 0);have key:∀(q:Nat→Nat→Nat×Nat),(∀a b c d,q a b=q c d→a=c∧b=d)→(Qle l.length (fun i j=>Qve p l (q i j).1 (q i j).2) l.length).length≤(Qva p l).length:=fun q hq=>by
  have h1:=QGf (a:=(Qle l.length (fun i j=>Qve p l (q i j).1 (q i j).2) l.length).map fun x=>((l[(q x.1 x.2).1]?).getD ⟨0,0,0,0⟩,(l[(q x.1 x.2).2]?).getD ⟨0,0,0,0⟩)) (b:=Qva p l) ?_ ?_
  ·rwa [List.length_map] at h1
  ·refine List.pairwise_map.2 ((Qeh _ _ _).imp_of_mem ?_);rintro⟨a,b⟩ ⟨c,d⟩ ha hb hne e;have ha:=(Qoe.1 ha).2.2;have hb:=(Qoe.1 hb).2.2;unfold Qve at ha hb
   split at ha
   ·rename_i n m h1 h2
    split at hb
    ·rename_i n' m' h3 h4;simp only[h1,h2,h3,h4,Option.getD_some,Prod.mk.injEq] at e;obtain⟨rfl,rfl⟩:=e;rw[hl2] at hn;have i1:=(List.getElem?_inj (List.getElem?_eq_some_iff.1 h1).1 hn).1 (h1.trans h3.symm);have i2:=(List.getElem?_inj (List.getElem?_eq_some_iff.1 h2).1 hn).1 (h2.trans h4.symm);have:=hq a b c d (Prod.ext i1 i2);exact hne (by rw[this.1,this.2])
    ·cases hb
   ·cases ha
  ·intro x hx;obtain⟨⟨a,b⟩,hx1,rfl⟩:=List.mem_map.1 hx;have hx:=(Qoe.1 hx1).2.2;unfold Qve at hx
   split at hx
   ·rename_i n m h1 h2;simp only[h1,h2,Option.getD_some];rw[←hl2];refine(Qsh hc n m).2 ⟨?_,by rw[hl2];simpa using hx⟩;rw[hl2];exact List.mem_of_getElem? h1
   ·cases hx
 have hE:=QVm hc;rw[hl2] at hE;have h3:=hc.edges;have k1:=key (fun i j=>(i,j)) (fun a b c d e=>by injection e with e1 e2;exact⟨e1,e2⟩);have k2:=key (fun i j=>(j,i)) (fun a b c d e=>by injection e with e1 e2;exact⟨e2,e1⟩);have p1:=Qwg l.length (fun i j=>Qve p l i j) l.length;have p2:=Qwg l.length (fun i j=>Qve p l j i) l.length;unfold Qkc Qmc QLl Qgm;rw[hl,hl2,List.map_map,List.map_map];simp only[] at k1 k2;refine⟨?_,?_⟩
 ·have:sumI (List.map ((fun l=>(l.length:Int)) ∘ fun i=>rowF l.length fun j=>Qve p l i j) (List.range l.length))=sumI ((List.range l.length).map fun i=>((rowF l.length (fun j=>Qve p l i j)).length:Int)):=rfl;rw[this,←p1];omega
 ·have:sumI (List.map ((fun l=>(l.length:Int)) ∘ fun j=>rowF l.length fun i=>Qve p l i j) (List.range l.length))=sumI ((List.range l.length).map fun i=>((rowF l.length (fun j=>Qve p l j i)).length:Int)):=rfl;rw[this,←p2];omega
end
section
variable [Base]
structure SysS where
 width:Int
 deps:List (List Int)
 trans:List Qw
 bnds:List QSet
deriving DecidableEq
def sysW (s:SysS):Prop:=(∀t∈s.trans,QSi t)∧∀b∈s.bnds,QLa b.words
def Qye (n:Int):Option Int→List Int→Bool
|_,[]=>true
|p,x::r=>((decide (0≤x)&&decide (x<n))&&(match p with|none=>true|some q=>decide (q<x)))&&Qye n (some x) r
def ascB (n:Int)(l:List Int):Bool:=Qye n none l
def QLd (w n:Int):Bool:=(decide (0≤w)&&decide (w≤256))&&(decide (1≤n)&&decide (n≤256))
def QDe (w:Int)(l:List QSet):Bool:=l.all fun s=>setB s&&decide (s.width=w)
def Qrc (w:Int)(t:Qw):Bool:=Qtd t&&decide (t.gen.width=w)
def lenI {α:Type}(l:List α):Int:=(l.length:Int)
def totI (l:List (List Int)):Int:=sumI (l.map lenI)
def sysB (s:SysS):Bool:=
 QLd s.width s.deps.length&&((decide (s.trans.length=s.deps.length)&&decide (s.bnds.length=s.deps.length))&&((s.deps.all (ascB s.deps.length)&&decide (totI s.deps≤1024))&&(QDe s.width s.bnds&&s.trans.all (Qrc s.width))))
def QIg (s:SysS):Int:=if sysB s then totI s.deps else 0
theorem Qci {n:Int}:∀{l:List Int} {p:Option Int},Qye n p l=true→∀c∈l,0≤c∧c<n
|[],_,_,c,hc=>by cases hc
|d::r,p,h,c,hc=>by
  unfold Qye at h
  simp only[Bool.and_eq_true,decide_eq_true_eq] at h
  rcases List.mem_cons.1 hc with rfl|hc
  ·exact h.1.1
  ·exact Qci h.2 c hc
theorem QTk {n:Int}:∀{l:List Int} {p:Option Int},Qye n p l=true→Asc l∧∀q,p=some q→∀x∈l,q<x
|[],_,_=>⟨List.Pairwise.nil,fun q _ x hx=>by cases hx⟩
|d::r,p,h=>by
  unfold Qye at h
  simp only[Bool.and_eq_true,decide_eq_true_eq] at h
  obtain⟨h1,h2⟩:=QTk h.2
  refine⟨List.pairwise_cons.2 ⟨fun x hx=>h2 d rfl x hx,h1⟩,fun q hq x hx=>?_⟩
  subst hq
  have h3:q<d:=by simpa using h.1.2
  rcases List.mem_cons.1 hx with rfl|hx
  ·exact h3
  ·have:=h2 d rfl x hx;omega
theorem QQj {n:Int}:∀{l:List Int} {p:Option Int},Asc l→(∀x∈l,0≤x∧x<n)→(∀q,p=some q→∀x∈l,q<x)→Qye n p l=true
|[],_,_,_,_=>by simp[Qye]
|d::r,p,h1,h2,h3=>by
  obtain⟨h4,h5⟩:=List.pairwise_cons.1 h1
  unfold Qye
  simp only[Bool.and_eq_true,decide_eq_true_eq]
  refine⟨⟨h2 d ZS,?_⟩,QQj h5 (fun x hx=>h2 x (List.mem_cons_of_mem _ hx)) (fun q hq x hx=>by cases hq;exact h4 x hx)⟩
  cases p with
 |none=>rfl
 |some q=>simpa using h3 q rfl d ZS
theorem QYp {n:Nat}{l:List Int}(h:ascB n l=true):l.length≤n:=by
 have h1:=(QTk h).1;have h2:=Qci h;have h3:=QGf (a:=l) (b:=(List.range n).map fun k:Nat=>(k:Int)) (h1.imp fun {a b} h=>by omega) (fun x hx=>by
  have:=h2 x hx;exact List.mem_map.2 ⟨x.toNat,List.mem_range.2 ZO,by omega⟩)
 simpa using h3
theorem Qqk (n:Nat)(f:Nat→Bool):ascB n (rowF n f)=true:=
 QQj (Qzh n f) (fun x hx=>by obtain⟨k,rfl,h,_⟩:=Qih.1 hx;omega) (fun q hq=>by cases hq)
structure QSd (n m:Nat)(s:SysS):Prop where
 width:s.width=m
 wle:m≤256
 n1:1≤n
 nle:n≤256
 deps:s.deps.length=n
 trans:s.trans.length=n
 bnds:s.bnds.length=n
 asc:∀l∈s.deps,ascB n l=true
 tot:totI s.deps≤1024
 okB:∀b∈s.bnds,Ok m b
 okT:∀t∈s.trans,OkT m t
theorem QDr {s:SysS}(h:sysB s=true)(hw:sysW s):∃n m,QSd n m s:=by
 unfold sysB QLd QDe Qrc at h;simp only[Bool.and_eq_true,decide_eq_true_eq,List.all_eq_true] at h;obtain⟨⟨⟨w0,w1⟩,n1,n2⟩,⟨h1,h2⟩,⟨h3,h4⟩,h5,h6⟩:=h;obtain⟨m,hm⟩:=Int.eq_ofNat_of_zero_le w0;refine⟨s.deps.length,m,hm,by omega,by omega,by omega,rfl,h1,h2,h3,h4,fun b hb=>?_,fun t ht=>?_⟩
 ·obtain⟨k1,k2⟩:=h5 b hb;obtain⟨k,e,hk⟩:=Qcj k1 (hw.2 b hb);have:k=m:=by omega
  exact this▸hk
 ·obtain⟨k1,k2⟩:=h6 t ht;obtain⟨k,e,hk⟩:=QRi k1 (hw.1 t ht);have:k=m:=by omega
  exact this▸hk
theorem QSd.b {n m:Nat}{s:SysS}(h:QSd n m s):sysB s=true:=by
 unfold sysB QLd QDe Qrc;simp only[Bool.and_eq_true,decide_eq_true_eq,List.all_eq_true];have h1:=h.wle;have h2:=h.n1;have h3:=h.nle;have h4:=h.width;have h5:=h.deps;refine⟨⟨⟨by omega,by omega⟩,by omega,by omega⟩,⟨by rw[h.trans,h5],by rw[h.bnds,h5]⟩,⟨fun l hl=>by rw[h5];exact h.asc l hl,h.tot⟩,fun b hb=>⟨(h.okB b hb).ok,by rw[(h.okB b hb).width,h4]⟩,fun t ht=>⟨(h.okT t ht).b,by rw[(h.okT t ht).gen.width,h4]⟩⟩
end
section
variable [Base]
def Qyf (l:List Qra)(b:Nat):Int:=((l[b]?).getD ⟨0,-2⟩).var
def Qxc (l:List Qra)(b:Nat):Int:=((l[b]?).getD ⟨-2,0⟩).node
def kilF (vars:List Str)(l:List Qra)(s:QD)(b:Nat):Bool:=dfnB s.op&&decide (Qyf l b=idxI vars s.dfn)
def genF (vars:List Str)(l:List Qra)(kind:Int)(i:Nat)(s:QD)(b:Nat):Bool:=
 if kind=2 then s.uses.any fun u=>decide (idxI vars u=(b:Int))
 else if kind=1 then dfnB s.op&&decide (Qxc l b=(i:Int))
 else if kind=3 then decide (s.op=4)&&decide (Qyf l b=idxI vars s.dfn)
 else false
def copF (vars:List Str)(kind:Int)(s:QD):List Cp:=
 if (kind=3∨kind=4)∧s.op=1 then ((List.range vars.length).filter fun u=>s.uses.contains ((vars[u]?).getD [])).map fun u:Nat=>((u:Int),idxI vars s.dfn) else []
def rawT (vars:List Str)(l:List Qra)(kind:Int)(i:Nat)(s:QD):Qw:=⟨mkS l.length (genF vars l kind i s),mkS l.length (kilF vars l s),copF vars kind s⟩
def Qie:QD:=⟨0,[],[],[]⟩
def Qkk (p:List Qo)(n:Qx):QD:=if n.kind=3 then Qec p n else Qie
def QZe (p:List Qo)(kind:Int)(i:Nat)(n:Qx):Qw:=Qlb (rawT (QN p) (QC p kind) kind i (Qkk p n)) (QC p kind).length
def bndT (p:List Qo)(kind:Int)(i:Nat):QSet:=if kind=4∧i=0 then QMb (QC p kind).length (QC p kind).length else Qy (QC p kind).length
def QZc (p:List Qo)(kind:Int):SysS:=
 ⟨(QC p kind).length,if kind=2 then Qkc p else Qmc p,(QR p).mapIdx (QZe p kind),(QR p).mapIdx fun i _=>bndT p kind i⟩
def ofT (p:List Qo)(kind:Int):SysS×Int:=if Qxb p kind=0 then (QZc p kind,0) else (⟨0,[],[],[]⟩,Qxb p kind)
theorem Qkb {p:List Qo}{kind:Int}(h:Qxb p kind=0):QFa p=0∧1≤kind∧kind≤4∧QC p kind=QBc p kind∧(QC p kind).length≤256:=by
 have h0:=h;unfold Qxb at h
 split at h
 ·rename_i h1;exact absurd h h1
 rename_i h1
 split at h
 ·cases h
 split at h
 ·cases h
 have e:QC p kind=QBc p kind:=by unfold QC;rw[if_pos h0]
 exact⟨by omega,by omega,by omega,e,by rw[e];omega⟩
theorem Qtf {p:List Qo}{kind:Int}(h:Qxb p kind=0)(hk:kind≠1):QC p kind=(List.range (QN p).length).map fun v:Nat=>(⟨-1,(v:Int)⟩:Qra):=by
 rw[(Qkb h).2.2.2.1];unfold QBc;rw[if_neg hk]
theorem QQi {p:List Qo}{kind:Int}(h:Qxb p kind=0)(hk:kind≠1){b:Nat}(hb:b<(QN p).length):Qyf (QC p kind) b=b:=by
 unfold Qyf;rw[Qtf h hk,List.getElem?_map,List.getElem?_range hb];rfl
theorem Qes {out:List Str}{n x:Str}:x∈Qfc out n↔x∈out∨(x=n∧n≠[]):=by
 unfold Qfc
 split
 ·rename_i h;simp only[Bool.or_eq_true,List.isEmpty_iff,List.contains_iff_mem] at h;constructor
  ·exact .inl
  ·rintro(h1|⟨rfl,h1⟩)
   ·exact h1
   ·rcases h with h|h
    ·exact absurd h h1
    ·exact h
 ·rename_i h;simp only[Bool.or_eq_true,List.isEmpty_iff,List.contains_iff_mem,not_or] at h;rw[List.mem_append,List.mem_singleton];constructor
  ·rintro(h1|rfl)
   ·exact .inl h1
   ·exact .inr ⟨rfl,h.1⟩
  ·rintro(h1|⟨rfl,_⟩)
   ·exact .inl h1
   ·exact .inr rfl
theorem Qdo {out:List Str}{n:Str}(h:out.Nodup):(Qfc out n).Nodup:=by
 unfold Qfc
 split
 ·exact h
 ·rename_i hn;simp only[Bool.or_eq_true,List.isEmpty_iff,List.contains_iff_mem,not_or] at hn;exact List.nodup_append.2 ⟨h,by simp,fun a ha b hb e=>by simp at hb;subst hb;exact hn.2 (e▸ha)⟩
theorem Qtk {x:Str}:∀{l:List Str} {out:List Str},x∈l.foldl Qfc out↔x∈out∨(x∈l∧x≠[])
|[],out=>by simp
|n::r,out=>by
  rw[List.foldl_cons,Qtk,Qes,List.mem_cons]
  constructor
  ·rintro((h|⟨rfl,h⟩)|⟨h1,h2⟩)
   ·exact .inl h
   ·exact .inr ⟨.inl rfl,h⟩
   ·exact .inr ⟨.inr h1,h2⟩
  ·rintro(h|⟨rfl|h1,h2⟩)
   ·exact .inl (.inl h)
   ·exact .inl (.inr ⟨rfl,h2⟩)
   ·exact .inr ⟨h1,h2⟩
theorem Qqi:∀{l:List Str} {out:List Str},out.Nodup→(l.foldl Qfc out).Nodup
|[],_,h=>h
|n::r,out,h=>by rw[List.foldl_cons];exact Qqi (Qdo h)
theorem Qoj {x:Str}:∀{l:List QD} {out:List Str},x∈l.foldl QYe out↔x∈out∨∃s∈l,x∈s.dfn::s.uses∧x≠[]
|[],out=>by simp
|n::r,out=>by
  rw[List.foldl_cons,Qoj]
  unfold QYe
  rw[Qtk]
  constructor
  ·rintro((h|h)|⟨s,h1,h2⟩)
   ·exact .inl h
   ·exact .inr ⟨n,by simp,h⟩
   ·exact .inr ⟨s,List.mem_cons_of_mem _ h1,h2⟩
  ·rintro(h|⟨s,h1,h2⟩)
   ·exact .inl (.inl h)
   ·rcases List.mem_cons.1 h1 with rfl|h1
    ·exact .inl (.inr h2)
    ·exact .inr ⟨s,h1,h2⟩
theorem Qch:∀{l:List QD} {out:List Str},out.Nodup→(l.foldl QYe out).Nodup
|[],_,h=>h
|n::r,out,h=>by rw[List.foldl_cons];exact Qch (Qqi h)
theorem Qwn (p:List Qo):(QN p).Nodup:=by
 unfold QN
 split
 ·exact Qch List.nodup_nil
 ·exact List.nodup_nil
theorem QFl {p:List Qo}(hv:QMa p=true){x:Str}:x∈QN p↔∃s∈QH p,x∈s.dfn::s.uses∧x≠[]:=by
 unfold QN;rw[if_pos hv,Qoj];simp
theorem At.mem {p:List Qo}{i k j:Nat}{f:Qo}{b:QI}{s:QD}(h:At p i k j f b s):s∈QH p:=by
 unfold QH;simp only[List.mem_flatten,List.mem_map];exact⟨_,⟨f,h.fm,rfl⟩,by simp only[List.mem_flatten,List.mem_map];exact⟨_,⟨b,h.bm,rfl⟩,h.sm⟩⟩
theorem Qvm {x:Str}(h:QV x=true):x≠[]:=by
 rintro rfl;unfold QV QGg at h;simp at h
theorem Qje {s:QD}(h:stmtB s=true):(∀u∈s.uses,QV u=true)∧s.uses.length≤4:=by
 unfold stmtB Qjl at h;simp only[Bool.and_eq_true,List.all_eq_true,decide_eq_true_eq] at h;exact⟨h.1.1,by omega⟩
theorem Ckd.uses {p:List Qo}(hc:Ckd p){i k j:Nat}{f:Qo}{b:QI}{s:QD}(h:At p i k j f b s):∀u∈s.uses,u∈QN p:=fun u hu=>
 (QFl hc.valid).2 ⟨s,h.mem,List.mem_cons_of_mem _ hu,Qvm ((Qje (hc.at_ h).1).1 u hu)⟩
theorem Qnq {s:QD}(h:stmtB s=true)(hd:dfnB s.op=true):QV s.dfn=true:=by
 unfold stmtB opB at h;unfold dfnB at hd;simp only[Bool.and_eq_true] at h;have h4:=h.2.2;simp only[Bool.or_eq_true,beq_iff_eq] at hd;rcases hd with(e|e)|e <;> rw[e] at h4 <;> simp at h4 <;> exact h4.1
theorem Ckd.dfn {p:List Qo}(hc:Ckd p){i k j:Nat}{f:Qo}{b:QI}{s:QD}(h:At p i k j f b s)(hd:dfnB s.op=true):s.dfn∈QN p:=
 (QFl hc.valid).2 ⟨s,h.mem,by simp,Qvm (Qnq (hc.at_ h).1 hd)⟩
def QGa (l:List Qra)(v:Int):List Int:=rowF l.length fun i=>decide (Qyf l i=v)
theorem QJe {l:List Qra}{v x:Int}:x∈QGa l v↔∃k:Nat,x=k∧k<l.length∧Qyf l k=v:=by
 unfold QGa;rw[Qih];simp
theorem QBp {m:Nat}:∀(l:List Int) (s:QSet),(∀x∈l,0≤x∧x<m)→Ok m s→∃r,ofGo m l s=(r,0)∧Ok m r∧∀b,b<m→QE r.words b=(QE s.words b||decide ((b:Int)∈l))
|[],s,_,hs=>⟨s,rfl,hs,fun b _=>by simp⟩
|x::r,s,hl,hs=>by
  have hx:=hl x ZS
  unfold ofGo
  rw[if_neg ZO]
  obtain⟨k1,k2⟩:=hs.put (k:=x.toNat) ZO
  obtain⟨q,h1,h2,h3⟩:=QBp r (putS s x.toNat) (fun y hy=>hl y (List.mem_cons_of_mem _ hy)) k1
  refine⟨q,h1,h2,fun b hb=>?_⟩
  rw[h3 b hb,k2]
  rw[Bool.eq_iff_iff]
  simp only[Bool.or_eq_true,decide_eq_true_eq,List.mem_cons]
  constructor
  ·rintro((h|h)|h)
   ·exact .inl h
   ·exact .inr (.inl ZO)
   ·exact .inr (.inr h)
  ·rintro(h|h|h)
   ·exact .inl (.inl h)
   ·exact .inl (.inr ZO)
   ·exact .inr h
theorem Qbs {m:Nat}(hm:m≤256){l:List Int}(hl:∀x∈l,0≤x∧x<m):ofS (m:Int) l=(mkS m fun b=>decide ((b:Int)∈l),0):=by
 obtain⟨r,h1,h2,h3⟩:=QBp l (Qy m) hl (QOb hm);unfold ofS;rw[if_pos ZO];have:(m:Int).toNat=m:=by simp
 rw[this,h1]
 congr 1
 refine h2.ext (QIb _ hm) fun b=>?_
 rw[Qpb _ hm];by_cases hb:b<m
 ·rw[h3 b hb,QNb];simp[hb]
 ·rw[h2.tail (Nat.le_of_not_lt hb)];simp[hb]
end
section
variable [Base]
def useB (op:Int):Bool:=op==1||op==2||op==5||op==8
def ownF (l:List Qra)(i:Nat):Int:=match (List.range l.length).find? (fun b=>decide (Qxc l b=(i:Int))) with|some b=>(b:Int)|none=>-1
def Qgg (vars:List Str)(l:List Qra)(kind:Int)(i:Nat)(s:QD):List Int:=
 (if kind=1∧dfnB s.op=true then [ownF l i] else [])++((if kind=3∧s.op=4 then QGa l (idxI vars s.dfn) else [])++(if kind=2∧useB s.op=true then (s.uses.map fun u=>QGa l (idxI vars u)).flatten else []))
def QQh (vars:List Str)(l:List Qra)(s:QD):List Int:=if dfnB s.op=true then QGa l (idxI vars s.dfn) else []
def QTe (vars:List Str)(l:List Qra)(kind:Int)(s:QD):List Cp:=
 if (kind=3∨kind=4)∧s.op=1 then s.uses.map fun u=>((QGa l (idxI vars u)).headD 0,(QGa l (idxI vars s.dfn)).headD 0) else []
def Qxa:List Cp→List Cp
|[]=>[]
|c::r=>match r with
 |[]=>[c]
 |d::_=>if c=d then Qxa r else c::Qxa r
theorem QRp {vars:List Str}{p:List Qo}:∀{ns:List Qx} {i:Nat} {f:Qra},f∈QUa vars p ns i→(i:Int)≤f.node
|[],_,_,h=>by cases h
|n::r,i,f,h=>by
  unfold QUa at h
  rcases List.mem_append.1 h with h|h
  ·split at h
   ·split at h
    ·split at h
     ·simp at h;subst h;simp
     ·cases h
    ·cases h
   ·cases h
  ·have:=QRp h;omega
theorem QZm {vars:List Str}{p:List Qo}:∀(ns:List Qx) (i:Nat),(QUa vars p ns i).Pairwise fun a b=>a.node<b.node
|[],_=>List.Pairwise.nil
|n::r,i=>by
  unfold QUa
  refine List.pairwise_append.2 ⟨?_,QZm r (i+1),?_⟩
  ·split
   ·split
    ·split <;> simp
    ·simp
   ·simp
  ·intro a ha b hb
   have h1:=QRp hb
   split at ha
   ·split at ha
    ·split at ha
     ·simp at ha;subst ha;simp;omega
     ·cases ha
    ·cases ha
   ·cases ha
theorem QYm {vars:List Str}{p:List Qo}{f:Qra}:∀{ns:List Qx} {i:Nat},f∈QUa vars p ns i↔∃k n s,ns[k]? = some n∧n.kind=3∧QFd p n=some s∧dfnB s.op=true∧f=⟨((i+k:Nat):Int),idxI vars s.dfn⟩
|[],i=>by simp[QUa]
|n::r,i=>by
  unfold QUa
  rw[List.mem_append,QYm]
  constructor
  ·rintro(h|⟨k,m,s,h1,h2,h3,h4,h5⟩)
   ·split at h
    ·rename_i hk
     split at h
     ·rename_i s hs
      split at h
      ·rename_i hd
       simp at h
       exact⟨0,n,s,rfl,hk,hs,hd,by simpa using h⟩
      ·cases h
     ·cases h
    ·cases h
   ·exact⟨k+1,m,s,by simpa using h1,h2,h3,h4,by rw[h5,show i+1+k=i+(k+1) by omega]⟩
  ·rintro⟨k,m,s,h1,h2,h3,h4,h5⟩
   cases k with
  |zero=>
    simp at h1
    subst h1
    left
    rw[if_pos h2,h3]
    simp only[h4,if_true]
    simpa using h5
  |succ k=>exact .inr ⟨k,m,s,by simpa using h1,h2,h3,h4,by rw[h5,show i+1+k=i+(k+1) by omega]⟩
structure QOd (p:List Qo)(i:Nat)(n:Qx)(s:QD):Prop where
 ck:QFa p=0
 at_:(QR p)[i]? = some n
 k3:n.kind=3
 st:∃a k j f b,n=⟨3,(a:Nat),(k:Nat),(j:Nat)⟩∧At p a k j f b s
theorem QCp {p:List Qo}(h:QFa p=0){i:Nat}{n:Qx}(hi:(QR p)[i]? = some n)(h3:n.kind=3):QOd p i n (Qec p n)∧QFd p n=some (Qec p n):=by
 have hm:n∈QB p 0:=by rw[←Qne h];exact List.mem_of_getElem? hi
 obtain⟨a,f,hf,hk⟩:=QLb.1 hm;rcases hk with rfl|rfl|⟨k,b,j,s,hb,hs,rfl|⟨_,rfl⟩⟩
 ·simp at h3
 ·simp at h3
 ·have hA:At p a k j f b s:=⟨hf,hb,hs⟩;rw[hA.d 3];refine⟨⟨h,hi,rfl,a,k,j,f,b,rfl,hA⟩,?_⟩;unfold QFd;simp[hf,hb,hs]
 ·simp at h3
theorem QOd.stmtB {p:List Qo}{i:Nat}{n:Qx}{s:QD}(h:QOd p i n s):stmtB s=true:=by
 obtain⟨a,k,j,f,b,-,hA⟩:=h.st;exact((Qzb h.ck).at_ hA).1
theorem QOd.uses {p:List Qo}{i:Nat}{n:Qx}{s:QD}(h:QOd p i n s):∀u∈s.uses,u∈QN p:=by
 obtain⟨a,k,j,f,b,-,hA⟩:=h.st;exact(Qzb h.ck).uses hA
theorem QOd.dfn {p:List Qo}{i:Nat}{n:Qx}{s:QD}(h:QOd p i n s)(hd:dfnB s.op=true):s.dfn∈QN p:=by
 obtain⟨a,k,j,f,b,-,hA⟩:=h.st;exact(Qzb h.ck).dfn hA hd
theorem QGr {s:QD}(h:stmtB s=true)(hu:s.uses≠[]):useB s.op=true:=by
 unfold stmtB opB at h;simp only[Bool.and_eq_true] at h;have h4:=h.2.2;have hl:0<s.uses.length:=List.length_pos_iff.2 hu;unfold useB;simp only[Bool.or_eq_true,beq_iff_eq]
 split at h4
 ·omega
 split at h4
 ·omega
 split at h4
 ·omega
 split at h4
 ·simp only[Bool.and_eq_true,decide_eq_true_eq] at h4;omega
 split at h4
 ·simp only[Bool.and_eq_true,decide_eq_true_eq] at h4;omega
 split at h4
 ·omega
 split at h4
 ·simp only[Bool.and_eq_true,decide_eq_true_eq] at h4;omega
 ·cases h4
theorem Qac {p:List Qo}{kind:Int}(h:Qxb p kind=0)(hk:kind≠1){x:Str}(hx:x∈QN p):QGa (QC p kind) (idxI (QN p) x)=[idxI (QN p) x]:=by
 obtain⟨k,e,hk2⟩:=Qgc hx;have hlt:=(List.getElem?_eq_some_iff.1 hk2).1;have hlen:(QC p kind).length=(QN p).length:=by rw[Qtf h hk];simp
 refine QIi (Qzh _ _) (List.pairwise_singleton _ _) fun y=>?_
 rw[e];show y∈QGa _ _↔_;rw[QJe,List.mem_singleton];constructor
 ·rintro⟨b,rfl,h1,h2⟩;rw[QQi h hk ZO] at h2;exact h2
 ·rintro rfl;exact⟨k,rfl,by omega,QQi h hk hlt⟩
theorem QFq {p:List Qo}(h:Qxb p 1=0){i:Nat}{n:Qx}{s:QD}(hn:QOd p i n s)(hs:QFd p n=some s)(hd:dfnB s.op=true):
  ∃b:Nat,ownF (QC p 1) i=b∧b<(QC p 1).length∧∀c,c<(QC p 1).length→(Qxc (QC p 1) c=(i:Int)↔c=b):=by
 have e:QC p 1=QUa (QN p) p (QR p) 0:=by
  rw[(Qkb h).2.2.2.1];unfold QBc;rw[if_pos rfl]
 have hm:(⟨(i:Int),idxI (QN p) s.dfn⟩:Qra)∈QC p 1:=by
  rw[e];exact QYm.2 ⟨i,n,s,hn.at_,hn.k3,hs,hd,by simp⟩
 obtain⟨b,hb,hb2⟩:=List.mem_iff_getElem.1 hm;have hnode:∀c (hc:c<(QC p 1).length),Qxc (QC p 1) c=((QC p 1)[c]).node:=fun c hc=>by unfold Qxc;rw[List.getElem?_eq_getElem hc];rfl
 have huniq:∀c,c<(QC p 1).length→(Qxc (QC p 1) c=(i:Int)↔c=b):=fun c hc=>by
  rw[hnode c hc];constructor
  ·intro h1;have hp:(QC p 1).Pairwise fun a b=>a.node<b.node:=by rw[e];exact QZm _ _
   rcases Nat.lt_trichotomy c b with h2|h2|h2
   ·have:=List.pairwise_iff_getElem.1 hp c b hc hb h2;rw[hb2,h1] at this;simp at this
   ·exact h2
   ·have:=List.pairwise_iff_getElem.1 hp b c hb hc h2;rw[hb2,h1] at this;simp at this
  ·rintro rfl;rw[hb2]
 refine⟨b,?_,hb,huniq⟩;unfold ownF;have hf:(List.range (QC p 1).length).find? (fun c=>decide (Qxc (QC p 1) c=(i:Int)))=some b:=by
  rw[List.find?_range_eq_some];refine⟨by simpa using (huniq b hb).2 rfl,by simpa using hb,fun j hj=>?_⟩;have hj2:j<(QC p 1).length:=by omega
  have:¬Qxc (QC p 1) j=(i:Int):=fun h1=>by have:=(huniq j hj2).1 h1;omega
  simpa using this
 rw[hf]
theorem QHg {l:List Qra}{v x:Int}(h:x∈QGa l v):0≤x∧x<l.length:=by
 obtain⟨k,rfl,h1,_⟩:=QJe.1 h;omega
theorem Qdr {p:List Qo}{kind:Int}(h:Qxb p kind=0){i:Nat}{n:Qx}{s:QD}(hn:QOd p i n s)(hs:QFd p n=some s):
  (∀x∈Qgg (QN p) (QC p kind) kind i s,0≤x∧x<((QC p kind).length:Int))∧∀b,b<(QC p kind).length→decide ((b:Int)∈Qgg (QN p) (QC p kind) kind i s)=genF (QN p) (QC p kind) kind i s b:=by
 have h14:=Qkb h;by_cases k1:kind=1
 ·subst k1;unfold Qgg genF;simp only[reduceCtorEq,Int.reduceEq,false_and,if_false,true_and,List.nil_append,List.append_nil,if_true];by_cases hd:dfnB s.op=true
  ·obtain⟨c,e,hc,hu⟩:=QFq h hn hs hd;rw[if_pos hd,e];refine⟨fun x hx=>by simp at hx;omega,fun b hb=>?_⟩;rw[hd,Bool.eq_iff_iff];simp only[List.append_nil,List.mem_singleton,decide_eq_true_eq,Bool.true_and];rw[hu b hb];omega
  ·rw[if_neg hd];refine⟨fun x hx=>by simp at hx,fun b hb=>?_⟩;simp[hd]
 by_cases k2:kind=2
 ·subst k2;unfold Qgg genF;simp only[reduceCtorEq,Int.reduceEq,false_and,if_false,true_and,List.nil_append,List.append_nil,if_true];have hfl:∀x:Int,x∈(s.uses.map fun u=>QGa (QC p 2) (idxI (QN p) u)).flatten↔∃u∈s.uses,x=idxI (QN p) u:=fun x=>by
   simp only[List.mem_flatten,List.mem_map];constructor
   ·rintro⟨_,⟨u,hu,rfl⟩,hx⟩;rw[Qac h ZD (hn.uses u hu)] at hx;exact⟨u,hu,by simpa using hx⟩
   ·rintro⟨u,hu,rfl⟩;exact⟨_,⟨u,hu,rfl⟩,by rw[Qac h ZD (hn.uses u hu)];simp⟩
  have hlen:(QC p 2).length=(QN p).length:=by rw[Qtf h ZD];simp
  have hin:∀u∈s.uses,0≤idxI (QN p) u∧idxI (QN p) u<((QC p 2).length:Int):=fun u hu=>by
   obtain⟨q,e,hq⟩:=Qgc (hn.uses u hu);have:=(List.getElem?_eq_some_iff.1 hq).1;omega
  by_cases hu:s.uses=[]
  ·rw[hu]
   split <;> exact⟨fun x hx=>by simp at hx,fun b hb=>by simp⟩
  ·rw[if_pos (QGr hn.stmtB hu)];refine⟨fun x hx=>?_,fun b hb=>?_⟩
   ·obtain⟨u,hu,rfl⟩:=(hfl x).1 hx;exact hin u hu
   ·rw[Bool.eq_iff_iff];simp only[decide_eq_true_eq,List.any_eq_true,hfl];constructor
    ·rintro⟨u,hu,e⟩;exact⟨u,hu,e.symm⟩
    ·rintro⟨u,hu,e⟩;exact⟨u,hu,e.symm⟩
 by_cases k3:kind=3
 ·subst k3;unfold Qgg genF;simp only[reduceCtorEq,Int.reduceEq,false_and,if_false,true_and,List.nil_append,List.append_nil,if_true];by_cases h4:s.op=4
  ·rw[if_pos h4];refine⟨fun x hx=>QHg hx,fun b hb=>?_⟩;rw[Bool.eq_iff_iff];simp only[decide_eq_true_eq,QJe,h4,Bool.and_eq_true,true_and];constructor
   ·rintro⟨k,e,_,h2⟩;obtain rfl:b=k:=by omega
    exact h2
   ·intro h2;exact⟨b,rfl,hb,h2⟩
  ·rw[if_neg h4];refine⟨fun x hx=>by simp at hx,fun b hb=>by simp[h4]⟩
 ·have k4:kind=4:=by omega
  subst k4;unfold Qgg genF;simp only[reduceCtorEq,Int.reduceEq,false_and,if_false,true_and,List.nil_append,List.append_nil,if_true];exact⟨fun x hx=>by simp at hx,fun b hb=>by simp⟩
theorem Qmo {vars:List Str}{l:List Qra}{s:QD}:(∀x∈QQh vars l s,0≤x∧x<(l.length:Int))∧∀b,b<l.length→decide ((b:Int)∈QQh vars l s)=kilF vars l s b:=by
 unfold QQh kilF;by_cases hd:dfnB s.op=true
 ·rw[if_pos hd];refine⟨fun x hx=>QHg hx,fun b hb=>?_⟩;rw[hd,Bool.eq_iff_iff];simp only[decide_eq_true_eq,QJe,Bool.true_and];constructor
  ·rintro⟨k,e,_,h2⟩;obtain rfl:b=k:=by omega
   exact h2
  ·intro h2;exact⟨b,rfl,hb,h2⟩
 ·rw[if_neg hd];exact⟨fun x hx=>by simp at hx,fun b hb=>by simp[hd]⟩
theorem Qvg {p:List Qo}{kind:Int}(h:Qxb p kind=0){i:Nat}{n:Qx}{s:QD}(hn:QOd p i n s)(c:Cp):
  c∈QTe (QN p) (QC p kind) kind s↔c∈copF (QN p) kind s:=by
 unfold QTe copF;by_cases hk:(kind=3∨kind=4)∧s.op=1
 ·rw[if_pos hk,if_pos hk];have hd:dfnB s.op=true:=by rw[hk.2];rfl
  have hne:kind≠1:=by omega
  rw[Qac h hne (hn.dfn hd)];simp only[List.mem_map,List.mem_filter,List.mem_range,List.headD_cons];constructor
  ·rintro⟨u,hu,rfl⟩;rw[Qac h hne (hn.uses u hu)];obtain⟨q,e,hq⟩:=Qgc (hn.uses u hu);refine⟨q,⟨(List.getElem?_eq_some_iff.1 hq).1,?_⟩,by rw[e];rfl⟩;rw[hq]
   simpa using hu
  ·rintro⟨q,⟨hq,hu⟩,rfl⟩;rw[List.getElem?_eq_getElem hq] at hu;have hu:(QN p)[q]∈s.uses:=by simpa using hu
   refine⟨(QN p)[q],hu,?_⟩;rw[Qac h hne (hn.uses _ hu),QBg (Qwn p) (List.getElem?_eq_getElem hq)];rfl
 ·rw[if_neg hk,if_neg hk]
theorem Qvh:∀{l:List Cp} {c:Cp},c∈Qxa l↔c∈l
|[],c=>by simp[Qxa]
|[x],c=>by simp[Qxa]
|x::y::r,c=>by
  unfold Qxa
  simp only
  split
  ·rename_i e
   subst e
   rw[Qvh]
   simp
  ·rw[List.mem_cons,Qvh,List.mem_cons (a:=c) (b:=x)]
theorem Qhn:∀(l:List Cp),(Qxa l).length≤l.length
|[]=>by simp[Qxa]
|[x]=>by simp[Qxa]
|x::y::r=>by
  unfold Qxa
  simp only
  have:=Qhn (y::r)
  split
  ·simp only[List.length_cons] at *;omega
  ·simp only[List.length_cons] at *;omega
theorem Qin {t:Int}:∀{l:List Cp},(∀c∈l,c.2=t)→l.Pairwise (fun a b=>a.1≤b.1)→(Qxa l).Pairwise fun a b=>befC a b=true
|[],_,_=>by simp[Qxa]
|[x],_,_=>by simp[Qxa]
|x::y::r,h1,h2=>by
  obtain⟨h3,h4⟩:=List.pairwise_cons.1 h2
  have ih:=Qin (l:=y::r) (fun c hc=>h1 c (List.mem_cons_of_mem _ hc)) h4
  unfold Qxa
  simp only
  split
  ·exact ih
  ·rename_i hne
   refine List.pairwise_cons.2 ⟨fun c hc=>?_,ih⟩
   have hc:=Qvh.1 hc
   have e1:=h1 x ZS
   have hxy:x.1<y.1:=by
    have h5:=h3 y ZS;have e2:=h1 y ZS;rcases Int.lt_or_eq_of_le h5 with h6|h6
    ·exact h6
    ·exact absurd (Prod.ext h6 (e1.trans e2.symm)) hne
   have hyc:y.1≤c.1:=by
    rcases List.mem_cons.1 hc with rfl|hc
    ·exact Int.le_refl _
    ·exact(List.pairwise_cons.1 h4).1 c hc
   unfold befC;simp only[Bool.or_eq_true,decide_eq_true_eq];left;omega
theorem QQr {p:List Qo}{kind:Int}(h:Qxb p kind=0){i:Nat}{n:Qx}{s:QD}(hn:QOd p i n s)(hs:QFd p n=some s){sc:List Cp}(hsc:sc.Perm (QTe (QN p) (QC p kind) kind s))(hso:sc.Pairwise fun a b=>a.1≤b.1):
  ofS (QC p kind).length (Qgg (QN p) (QC p kind) kind i s)=((rawT (QN p) (QC p kind) kind i s).gen,0)∧ofS (QC p kind).length (QQh (QN p) (QC p kind) s)=((rawT (QN p) (QC p kind) kind i s).kill,0) ∧
  QKg ⟨(rawT (QN p) (QC p kind) kind i s).gen,(rawT (QN p) (QC p kind) kind i s).kill,Qxa sc⟩=(Qlb (rawT (QN p) (QC p kind) kind i s) (QC p kind).length,0):=by
 have hm:=(Qkb h).2.2.2.2;obtain⟨g1,g2⟩:=Qdr h hn hs;obtain⟨k1,k2⟩:=Qmo (vars:=QN p) (l:=QC p kind) (s:=s);refine⟨?_,?_,?_⟩
 ·rw[Qbs hm g1]
  congr 1
  exact Qad hm g2
 ·rw[Qbs hm k1]
  congr 1
  exact Qad hm k2
 ·have hmem:∀c,c∈Qxa sc↔c∈copF (QN p) kind s:=fun c=>by rw[Qvh,hsc.mem_iff,Qvg h hn]
  have hin:∀c∈copF (QN p) kind s,inC (QC p kind).length c=true∧c.2=idxI (QN p) s.dfn:=fun c hc=>by
   unfold copF at hc
   split at hc
   ·rename_i hk;have hne:kind≠1:=by omega
    have hlen:(QC p kind).length=(QN p).length:=by rw[Qtf h hne];simp
    obtain⟨q,hq,rfl⟩:=List.mem_map.1 hc;have hq:=List.mem_range.1 (List.mem_filter.1 hq).1;obtain⟨d,e,hd⟩:=Qgc (hn.dfn (by rw[hk.2];rfl));have:=(List.getElem?_eq_some_iff.1 hd).1;refine⟨?_,rfl⟩;unfold inC;simp only[Bool.and_eq_true,decide_eq_true_eq];omega
   ·cases hc
  have hl4:sc.length≤4:=by
   rw[hsc.length_eq];unfold QTe
   split
   ·rw[List.length_map];exact(Qje hn.stmtB).2
   ·simp
  have hT:OkT (QC p kind).length ⟨(rawT (QN p) (QC p kind) kind i s).gen,(rawT (QN p) (QC p kind) kind i s).kill,Qxa sc⟩:=
   ⟨QIb _ hm,QIb _ hm,by have:=Qhn sc;show(Qxa sc).length≤64;omega,QPe (fun c hc=>(hin c ((hmem c).1 hc)).1) (Qin (t:=idxI (QN p) s.dfn) (fun c hc=>(hin c ((Qvg h hn c).1 (hsc.mem_iff.1 hc))).2) hso) (fun q hq=>by cases hq)⟩
  unfold QKg;rw[hT.b,hT.gen.width];simp only[if_true]
  congr 1
  refine Qkn hm rfl fun a b ha hb=>?_
  unfold folB
  congr 1
  rw[Bool.eq_iff_iff];simp only[decide_eq_true_eq];exact hmem _
end
section
variable [Base]
theorem QGn {p:List Qo}{n:Qx}(h:n.kind≠3):Qkk p n=Qie:=by unfold Qkk;rw[if_neg h]
theorem Qsm {p:List Qo}{kind:Int}(h:Qxb p kind=0){i:Nat}{n:Qx}(hn:n.kind≠3):QZe p kind i n=idT (QC p kind).length:=by
 have hm:=(Qkb h).2.2.2.2;have hr:rawT (QN p) (QC p kind) kind i Qie=idT (QC p kind).length:=by
  have hg:mkS (QC p kind).length (genF (QN p) (QC p kind) kind i Qie)=Qy (QC p kind).length:=by
   refine(QIb _ hm).ext (QOb hm) fun b=>?_
   rw[Qpb _ hm,QNb];unfold genF Qie dfnB;simp
  have hk:mkS (QC p kind).length (kilF (QN p) (QC p kind) Qie)=Qy (QC p kind).length:=by
   refine(QIb _ hm).ext (QOb hm) fun b=>?_
   rw[Qpb _ hm,QNb];unfold kilF Qie dfnB;simp
  have hc:copF (QN p) kind Qie=[]:=by unfold copF Qie;simp
  unfold rawT;rw[hg,hk,hc];rfl
 unfold QZe;rw[QGn hn,hr,QOs hm]
theorem Qup {p:List Qo}{kind:Int}(h:Qxb p kind=0){i:Nat}{n:Qx}(hi:(QR p)[i]? = some n):OkT (QC p kind).length (QZe p kind i n):=by
 have hm:=(Qkb h).2.2.2.2;by_cases h3:n.kind=3
 ·obtain⟨hn,hs⟩:=QCp (Qkb h).1 hi h3;have hsF:Qkk p n=Qec p n:=by unfold Qkk;rw[if_pos h3]
  unfold QZe;rw[hsF]
  -- canonical forms of what is in range are valid
  refine⟨QIb _ hm,QIb _ hm,?_,QPe (fun c hc=>?_) (QNh _ _ _) (fun q hq=>by cases hq)⟩
  ·refine Nat.le_trans (Qml (Qqj _ _ _) (b:=QTe (QN p) (QC p kind) kind (Qec p n)) fun c hc=>(Qvg h hn c).2 (Qul hc)) ?_;unfold QTe
   split
   ·rw[List.length_map];have:=(Qje hn.stmtB).2;omega
   ·simp
  ·obtain⟨a,b,rfl,ha,hb,-⟩:=Qvj.1 hc;unfold inC;simp only[Bool.and_eq_true,decide_eq_true_eq];omega
 ·rw[Qsm h h3];exact Qvu hm
theorem QTs {p:List Qo}{kind:Int}(h:Qxb p kind=0)(i:Nat):Ok (QC p kind).length (bndT p kind i):=by
 have hm:=(Qkb h).2.2.2.2;unfold bndT
 split
 ·exact(QOp hm).1
 ·exact QOb hm
theorem Quk {p:List Qo}(h:QFa p=0):1≤(QR p).length:=by
 rw[Qne h];have hv:=(Qzb h).valid;unfold QMa at hv;simp only[Bool.and_eq_true,decide_eq_true_eq] at hv;obtain⟨f,hf⟩:∃f,p[0]? = some f:=⟨_,List.getElem?_eq_getElem ZO⟩;exact List.length_pos_of_mem (QYt hf)
theorem Qas {p:List Qo}{kind:Int}(h:Qxb p kind=0):QSd (QR p).length (QC p kind).length (QZc p kind):=by
 have hc:=(Qkb h).1;refine⟨rfl,(Qkb h).2.2.2.2,Quk hc,Qme,?_,by simp[QZc],by simp[QZc],?_,?_,?_,?_⟩
 ·unfold QZc Qkc Qmc
  split <;> simp
 ·intro l hl;unfold QZc Qkc Qmc QLl Qgm at hl;simp only at hl
  split at hl
  ·obtain⟨i,_,rfl⟩:=List.mem_map.1 hl;exact Qqk _ _
  ·obtain⟨i,_,rfl⟩:=List.mem_map.1 hl;exact Qqk _ _
 ·unfold QZc totI;simp only
  split
  ·exact(Qmi hc).1
  ·exact(Qmi hc).2
 ·intro b hb;obtain⟨i,hi,rfl⟩:=List.mem_mapIdx.1 hb;exact QTs h i
 ·intro t ht;obtain⟨i,hi,rfl⟩:=List.mem_mapIdx.1 ht;exact Qup h (List.getElem?_eq_getElem hi)
theorem QFx {p:List Qo}{kind:Int}(h:Qxb p kind=0):∀t∈(QZc p kind).trans,QKg t=(t,0):=by
 intro t ht;obtain⟨i,hi,rfl⟩:=List.mem_mapIdx.1 ht;have hT:=Qup h (List.getElem?_eq_getElem hi);unfold QKg;rw[hT.b,hT.gen.width];simp only[if_true]
 congr 1
 have hm:=(Qkb h).2.2.2.2;show Qlb (QZe p kind i _) (QC p kind).length=QZe p kind i _;unfold QZe;exact QGx hm
end
section
open Go.RowKit
variable [Base]
theorem Qt {b:Nat}{w:World}{v0 v1 v2 v3:Value}{t:TypeId}(h:w.heap[b]? = some (.cells #[v0,v1,v2,v3] t (0,0))):
  w.cell? ⟨b,0,none⟩=some v0∧w.cell? ⟨b,1,none⟩=some v1∧w.cell? ⟨b,2,none⟩=some v2∧w.cell? ⟨b,3,none⟩=some v3:=by
 simp[World.cell?,h]
theorem Qq {b:Nat}{w:World}{v0 v1:Value}{t:TypeId}(h:w.heap[b]? = some (.cells #[v0,v1] t (0,0))):
  w.cell? ⟨b,0,none⟩=some v0∧w.cell? ⟨b,1,none⟩=some v1:=by
 simp[World.cell?,h]
section
variable (s:QD) (u t:Value) (w:World)
theorem QUi:Calls Tryz.prog 235 #[.agg #[iv s.op,sv s.dfn,u,t]] w (Qia (QTg s.op) w):=by
 have ba:=Zh (fun x:Int=>(Below.refl w.heap.size w).alloc (Nat.le_refl _) (.cells #[iv x,sv s.dfn,u,t] 94));obtain⟨c0,c1,c2,c3⟩:=Qt (heap_alloc_new w (.cells #[iv s.op,sv s.dfn,u,t] 94));go_enter Tryz.func235,Tryz.ntmps235;go_wp2
 all_goals
  go_ret;exact⟨by unfold QTg;simp_all,ba.o _⟩
theorem Qbn:Calls Tryz.prog 159 #[.agg #[iv s.op,sv s.dfn,u,t]] w (Qia (dfnB s.op) w):=by
 have ba:=Zh (fun x:Int=>(Below.refl w.heap.size w).alloc (Nat.le_refl _) (.cells #[iv x,sv s.dfn,u,t] 94));obtain⟨c0,c1,c2,c3⟩:=Qt (heap_alloc_new w (.cells #[iv s.op,sv s.dfn,u,t] 94));go_enter Tryz.func159,Tryz.ntmps159;go_wp2
 all_goals
  go_ret;exact⟨by unfold dfnB;simp_all,ba.o _⟩
def StrQ (x:Str)(w:World)(e:Ending)(w':World):Prop:=e=.returned (sv x)∧Below w.heap.size w w'
theorem QWf (x:Str)(v:Value):Calls Tryz.prog 156 #[.agg #[sv x,v]] w (StrQ x w):=by
 have ba:=Zh ((Below.refl w.heap.size w).alloc (Nat.le_refl _) (.cells #[sv x,v] 89));obtain⟨c0,c1⟩:=Qq (heap_alloc_new w (.cells #[sv x,v] 89));go_enter Tryz.func156,Tryz.ntmps156;go_wp2;go_ret;exact⟨rfl,ba.o⟩
theorem QZf (x:Str)(v:Value):Calls Tryz.prog 191 #[.agg #[sv x,v]] w (StrQ x w):=by
 have ba:=Zh ((Below.refl w.heap.size w).alloc (Nat.le_refl _) (.cells #[sv x,v] 92));obtain⟨c0,c1⟩:=Qq (heap_alloc_new w (.cells #[sv x,v] 92));go_enter Tryz.func191,Tryz.ntmps191;go_wp2;go_ret;exact⟨rfl,ba.o⟩
end
end
end Go.Proofs.YtijekimobahgpaaGreatDoor
