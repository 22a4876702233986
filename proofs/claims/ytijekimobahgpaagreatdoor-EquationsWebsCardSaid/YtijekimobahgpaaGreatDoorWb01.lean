/- A part of the proof. -/
import Derived.Test.YtijekimobahgpaaGreatDoorWb00
import Derived.Maps.AppendAt
import Derived.Lib.AppendZerosOnto
set_option linter.unusedVariables false
set_option linter.unusedSimpArgs false
set_option linter.unusedSectionVars false
set_option maxRecDepth 100000
set_option maxHeartbeats 16000000
namespace Go.Proofs.YtijekimobahgpaaGreatDoor
section
variable [Base]
structure Ok (m:Nat)(s:QSet):Prop where
 form:QUb s
 ok:setB s=true
 width:s.width=(m:Int)
theorem Ok.le {m:Nat}{s:QSet}(h:Ok m s):m≤256:=by
 obtain⟨k,h1,h2,-⟩:=Qka h.form;have:=h.width;omega
theorem Ok.words {m:Nat}{s:QSet}(h:Ok m s):QLa s.words:=h.form.2.2
theorem Ok.ext {m:Nat}{s t:QSet}(h:Ok m s)(k:Ok m t)(hb:∀b:Nat,QE s.words b=QE t.words b):s=t:=Qrp (h.width.trans k.width.symm) h.form k.form hb
theorem QOp {m:Nat}(h:m≤256):Ok m (QMb m m)∧∀b:Nat,QE (QMb m m).words b=decide (b<m):=by
 have hf:=QMe h m;have hb:=QFj h m (Nat.le_refl _);refine⟨⟨hf.1,QQg hf.1 fun b hb2=>?_,hf.2⟩,hb⟩;rw[hb];rw[hf.2] at hb2;simp;omega
theorem Ok.tail {m:Nat}{s:QSet}(h:Ok m s){b:Nat}(hb:m≤b):QE s.words b=false:=Qge h.ok h.words (by rw[h.width];omega)
theorem QOb {m:Nat}(h:m≤256):Ok m (Qy m):=⟨QZb h,QUm h,rfl⟩
theorem Ok.put {m:Nat}{s:QSet}(h:Ok m s){k:Nat}(hk:k<m):Ok m (putS s k)∧∀b,QE (putS s k).words b=(QE s.words b||decide (b=k)):=
 ⟨⟨Qnd h.form k,QPr h.ok h.words (by rw[h.width];omega),h.width⟩,fun b=>Qah h.form (by rw[h.width];omega) b⟩
def mkTo (m:Nat)(f:Nat→Bool)(i:Nat):QSet:=(List.range i).foldl (fun a k=>if f k=true then putS a k else a) (Qy m)
def mkS (m:Nat)(f:Nat→Bool):QSet:=mkTo m f m
theorem QPq (m:Nat)(f:Nat→Bool)(i:Nat):mkTo m f (i+1)=if f i=true then putS (mkTo m f i) i else mkTo m f i:=by
 unfold mkTo;rw[List.range_succ,List.foldl_append];rfl
theorem Qkl {m:Nat}{f:Nat→Bool}(h:m≤256):∀i,i≤m→Ok m (mkTo m f i)∧∀b,QE (mkTo m f i).words b=(decide (b<i)&&f b)
|0,_=>⟨QOb h,fun b=>by rw[show mkTo m f 0=Qy m from rfl,QNb];simp⟩
|i+1,hi=>by
  obtain⟨h1,h2⟩:=Qkl (f:=f) h i ZO
  rw[QPq]
  split
  ·rename_i hf
   obtain⟨h3,h4⟩:=h1.put (k:=i) ZO
   refine⟨h3,fun b=>?_⟩
   rw[h4,h2]
   by_cases hb:b=i
   ·subst hb;simp[hf]
   ·have e:decide (b<i+1)=decide (b<i):=by rw[Bool.eq_iff_iff];simp;omega
    simp[hb,e]
  ·rename_i hf
   refine⟨h1,fun b=>?_⟩
   rw[h2]
   by_cases hb:b=i
   ·subst hb;simp[hf]
   ·have e:decide (b<i+1)=decide (b<i):=by rw[Bool.eq_iff_iff];simp;omega
    rw[e]
theorem QIb {m:Nat}(f:Nat→Bool)(h:m≤256):Ok m (mkS m f):=(Qkl h m (Nat.le_refl _)).1
theorem Qpb {m:Nat}(f:Nat→Bool)(h:m≤256)(b:Nat):QE (mkS m f).words b=(decide (b<m)&&f b):=(Qkl h m (Nat.le_refl _)).2 b
theorem Qad {m:Nat}{f g:Nat→Bool}(h:m≤256)(e:∀b,b<m→f b=g b):mkS m f=mkS m g:=
 (QIb f h).ext (QIb g h) fun b=>by
  rw[Qpb f h,Qpb g h]
  by_cases hb:b<m
  ·rw[e b hb]
  ·simp[hb]
theorem Qcj {s:QSet}(h:setB s=true)(hw:QLa s.words):∃m:Nat,s.width=m∧Ok m s:=by
 obtain⟨m,h1,-,-⟩:=Qka (QBa h hw);exact⟨m,h1,QBa h hw,h,h1⟩
end
section
variable [Base]
abbrev Cp:=Int×Int
structure Qw where
 gen:QSet
 kill:QSet
 cops:List Cp
deriving DecidableEq
def befC (a b:Cp):Bool:=decide (a.1<b.1)||(decide (a.1=b.1)&&decide (a.2<b.2))
def inC (w:Int)(c:Cp):Bool:=(decide (0≤c.1)&&decide (c.1<w))&&(decide (0≤c.2)&&decide (c.2<w))
def Qnc (w:Int):Option Cp→List Cp→Bool
|_,[]=>true
|p,c::r=>(inC w c&&(match p with|none=>true|some q=>befC q c))&&Qnc w (some c) r
def Qtd (t:Qw):Bool:=setB t.gen&&(setB t.kill&&(decide (t.gen.width=t.kill.width)&&(decide (t.cops.length≤64)&&Qnc t.gen.width none t.cops)))
def QSi (t:Qw):Prop:=QLa t.gen.words∧QLa t.kill.words
def folB (t:Qw)(a b:Nat):Bool:=(decide (a=b)&&!QE t.kill.words a)||decide (((a:Int),(b:Int))∈t.cops)
theorem QMj {w:Int}:∀{l:List Cp} {p:Option Cp},Qnc w p l=true→∀c∈l,inC w c=true
|[],_,_,c,hc=>by cases hc
|d::r,p,h,c,hc=>by
  unfold Qnc at h
  simp only[Bool.and_eq_true] at h
  rcases List.mem_cons.1 hc with rfl|hc
  ·exact h.1.1
  ·exact QMj h.2 c hc
structure OkT (m:Nat)(t:Qw):Prop where
 gen:Ok m t.gen
 kill:Ok m t.kill
 len:t.cops.length≤64
 cops:Qnc m none t.cops=true
theorem QRi {t:Qw}(h:Qtd t=true)(hw:QSi t):∃m:Nat,t.gen.width=m∧OkT m t:=by
 unfold Qtd at h;simp only[Bool.and_eq_true,decide_eq_true_eq] at h;obtain⟨h1,h2,h3,h4,h5⟩:=h;obtain⟨m,e,hg⟩:=Qcj h1 hw.1;obtain⟨k,e2,hk⟩:=Qcj h2 hw.2;have:k=m:=by omega
 subst this;exact⟨k,e,hg,hk,h4,by rw[←e];exact h5⟩
theorem OkT.b {m:Nat}{t:Qw}(h:OkT m t):Qtd t=true:=by
 unfold Qtd;rw[h.gen.ok,h.kill.ok,h.gen.width,h.kill.width,h.cops];simp[h.len]
theorem OkT.mem {m:Nat}{t:Qw}(h:OkT m t){c:Cp}(hc:c∈t.cops):∃a b:Nat,c=((a:Int),(b:Int))∧a<m∧b<m:=by
 have:=QMj h.cops c hc;unfold inC at this;simp only[Bool.and_eq_true,decide_eq_true_eq] at this;obtain⟨x,y⟩:=c;obtain⟨a,rfl⟩:=Int.eq_ofNat_of_zero_le this.1.1;obtain⟨b,rfl⟩:=Int.eq_ofNat_of_zero_le this.2.1;have h1:(a:Int)<m:=this.1.2;have h2:(b:Int)<m:=this.2.2;exact⟨a,b,rfl,by omega,by omega⟩
def valB (t:Qw)(m:Nat)(s:QSet)(b:Nat):Bool:=QE t.gen.words b||(List.range m).any fun a=>QE s.words a&&folB t a b
theorem Qlt {m:Nat}{t:Qw}{s:QSet}(ht:OkT m t)(hs:Ok m s)(b:Nat):
  valB t m s b=(((QE s.words b&&!QE t.kill.words b)||QE t.gen.words b)||t.cops.any fun c=>decide (c.2=(b:Int))&&QE s.words c.1.toNat):=by
 rw[Bool.eq_iff_iff];unfold valB folB;simp only[Bool.or_eq_true,List.any_eq_true,List.mem_range,Bool.and_eq_true,decide_eq_true_eq,Bool.not_eq_true'];constructor
 ·rintro(h|⟨a,ha,h1,h2⟩)
  ·exact .inl (.inr h)
  ·rcases h2 with⟨rfl,h2⟩|h2
   ·exact .inl (.inl ⟨h1,h2⟩)
   ·exact .inr ⟨_,h2,rfl,by simpa using h1⟩
 ·rintro((⟨h1,h2⟩|h)|⟨c,hc,h1,h2⟩)
  ·refine .inr ⟨b,?_,h1,.inl ⟨rfl,h2⟩⟩;rcases Nat.lt_or_ge b m with h|h
   ·exact h
   ·rw[hs.tail h] at h1;cases h1
  ·exact .inl h
  ·obtain⟨x,y,rfl,hx,hy⟩:=ht.mem hc;have e:y=b:=by have h1:(y:Int)=(b:Int):=h1;omega
   subst e;exact .inr ⟨x,hx,by simpa using h2,.inr hc⟩
def rowC (t:Qw)(m a:Nat):List Cp:=((List.range m).filter fun b=>decide (a≠b)&&(folB t a b&&!QE t.gen.words b)).map fun b:Nat=>((a:Int),(b:Int))
def copC (t:Qw)(m i:Nat):List Cp:=((List.range i).map (rowC t m)).flatten
def Qlb (t:Qw)(m:Nat):Qw:=⟨t.gen,mkS m (fun a=>QE t.gen.words a||!folB t a a),copC t m m⟩
theorem Quj {t:Qw}{m a:Nat}{c:Cp}:c∈rowC t m a↔∃b:Nat,c=((a:Int),(b:Int))∧b<m∧a≠b∧folB t a b=true∧QE t.gen.words b=false:=by
 unfold rowC;simp only[List.mem_map,List.mem_filter,List.mem_range,Bool.and_eq_true,decide_eq_true_eq,Bool.not_eq_true'];constructor
 ·rintro⟨b,⟨h1,h2,h3,h4⟩,rfl⟩;exact⟨b,rfl,h1,h2,h3,h4⟩
 ·rintro⟨b,rfl,h1,h2,h3,h4⟩;exact⟨b,⟨h1,h2,h3,h4⟩,rfl⟩
theorem Qvj {t:Qw}{m i:Nat}{c:Cp}:c∈copC t m i↔∃a b:Nat,c=((a:Int),(b:Int))∧a<i∧b<m∧a≠b∧folB t a b=true∧QE t.gen.words b=false:=by
 unfold copC;simp only[List.mem_flatten,List.mem_map,List.mem_range];constructor
 ·rintro⟨l,⟨a,ha,rfl⟩,h⟩;obtain⟨b,h1,h2⟩:=Quj.1 h;exact⟨a,b,h1,ha,h2⟩
 ·rintro⟨a,b,h1,ha,h2⟩;exact⟨_,⟨a,ha,rfl⟩,Quj.2 ⟨b,h1,h2⟩⟩
theorem QMk (t:Qw)(m i:Nat):copC t m (i+1)=copC t m i++rowC t m i:=by
 unfold copC;rw[List.range_succ,List.map_append,List.flatten_append];simp
theorem QPe {w:Int}:∀{l:List Cp} {p:Option Cp},(∀c∈l,inC w c=true)→l.Pairwise (fun a b=>befC a b=true)→(∀q,p=some q→∀c∈l,befC q c=true)→Qnc w p l=true
|[],_,_,_,_=>by simp[Qnc]
|c::r,p,h1,h2,h3=>by
  obtain⟨h4,h5⟩:=List.pairwise_cons.1 h2
  unfold Qnc
  simp only[Bool.and_eq_true]
  refine⟨⟨h1 c ZS,?_⟩,QPe (fun d hd=>h1 d (List.mem_cons_of_mem _ hd)) h5 (fun q hq d hd=>by cases hq;exact h4 d hd)⟩
  cases p with
 |none=>rfl
 |some q=>exact h3 q rfl c ZS
theorem QNh (t:Qw)(m:Nat):∀i,(copC t m i).Pairwise (fun a b=>befC a b=true)
|0=>by simp[copC]
|i+1=>by
  rw[QMk]
  refine List.pairwise_append.2 ⟨QNh t m i,?_,?_⟩
  ·unfold rowC
   refine List.Pairwise.map (R:=(· < ·)) _ (fun a b h=>?_) (List.pairwise_lt_range.sublist List.filter_sublist)
   unfold befC;simp;omega
  ·intro a ha b hb
   obtain⟨x,y,rfl,hx,-⟩:=Qvj.1 ha
   obtain⟨z,rfl,-⟩:=Quj.1 hb
   unfold befC;simp;omega
theorem Qqj (t:Qw)(m i:Nat):(copC t m i).Nodup:=(QNh t m i).imp fun {a b} h e=>by
 subst e
 unfold befC at h
 simp at h
theorem Qml {α:Type} [DecidableEq α]:∀{a b:List α},a.Nodup→(∀x∈a,x∈b)→a.length≤b.length
|[],b,_,_=>Nat.zero_le _
|x::a,b,h,hs=>by
  obtain⟨h1,h2⟩:=List.nodup_cons.1 h
  have hx:x∈b:=hs x ZS
  have h3:=Qml (b:=b.erase x) h2 (fun y hy=>by
   have hne:y≠x:=fun e=>h1 (e▸hy)
   exact(List.mem_erase_of_ne hne).2 (hs y (List.mem_cons_of_mem _ hy)))
  have h4:=List.length_erase_of_mem hx
  have h5:0<b.length:=List.length_pos_of_mem hx
  simp only[List.length_cons]
  omega
theorem Qul {m:Nat}{t:Qw}{i:Nat}{c:Cp}(h:c∈copC t m i):c∈t.cops:=by
 obtain⟨a,b,rfl,_,_,hne,hf,_⟩:=Qvj.1 h;unfold folB at hf;simp only[Bool.or_eq_true,Bool.and_eq_true,decide_eq_true_eq] at hf;rcases hf with⟨e,_⟩|hf
 ·exact absurd e hne
 ·exact hf
theorem Qdn {m:Nat}{t:Qw}(h:t.cops.length≤64)(i:Nat):(copC t m i).length≤64:=Nat.le_trans (Qml (Qqj t m i) fun _ hc=>Qul hc) h
theorem Qkn {m:Nat}{s t:Qw}(hm:m≤256)(hg:s.gen=t.gen)(hf:∀a b,a<m→b<m→folB s a b=folB t a b):Qlb s m=Qlb t m:=by
 unfold Qlb;have h1:mkS m (fun a=>QE s.gen.words a||!folB s a a)=mkS m (fun a=>QE t.gen.words a||!folB t a a):=Qad hm fun b hb=>by rw[hf b b hb hb,hg]
 have h2:copC s m m=copC t m m:=by
  unfold copC
  congr 1
  refine List.map_congr_left fun a ha=>?_
  unfold rowC
  congr 1
  refine List.filter_congr fun b hb=>?_
  rw[hf a b (List.mem_range.1 ha) (List.mem_range.1 hb),hg]
 rw[h1,h2,hg]
def QKg (t:Qw):Qw×Int:=if Qtd t then (Qlb t t.gen.width.toNat,0) else (⟨⟨0,[]⟩,⟨0,[]⟩,[]⟩,1)
def idT (m:Nat):Qw:=⟨Qy m,Qy m,[]⟩
theorem Qvu {m:Nat}(h:m≤256):OkT m (idT m):=⟨QOb h,QOb h,by simp[idT],by simp[idT,Qnc]⟩
theorem QHt (m a b:Nat):folB (idT m) a b=decide (a=b):=by
 unfold folB idT;simp only[];rw[QNb];simp
theorem QOs {m:Nat}(h:m≤256):Qlb (idT m) m=idT m:=by
 have hk:mkS m (fun a=>QE (idT m).gen.words a||!folB (idT m) a a)=Qy m:=by
  refine(QIb _ h).ext (QOb h) fun b=>?_
  rw[Qpb _ h,QHt,QNb];show(_&&(QE (Qy m).words b||_))=_;rw[QNb];simp
 have hc:copC (idT m) m m=[]:=by
  rw[List.eq_nil_iff_forall_not_mem];intro c hc;have:=Qul hc;simp[idT] at this
 show(⟨_,_,_⟩:Qw)=⟨_,_,_⟩;rw[hk,hc];rfl
end
section
def QTg (op:Int):Bool:=op==7||op==8||op==9
def dfnB (op:Int):Bool:=op==1||op==4||op==6
def QKj:List Str→List Str→Int→Int
|_,[],_=>-1
|seen,x::r,i=>if seen.contains x then i else QKj (seen++[x]) r (i+1)
def dupI (l:List Str):Int:=QKj [] l 0
def QRc (p:List Qo):List Str:=p.map Qo.name
def QPb (f:Qo):List Str:=f.blocks.map QI.name
def QXi (fs bs:List Str)(s:QD)(last:Bool):Int:=
 if QTg s.op != last then 4 else if s.targets.all (fun t=>(if s.op==3 then fs else bs).contains t) then 0 else 5
def Qte:Int→Int→Int:=fun a b=>if a=0 then b else a
def QIc (fs bs:List Str):List QD→Int
|[]=>0
|s::r=>Qte (QXi fs bs s r.isEmpty) (QIc fs bs r)
def QCd (fs bs:List Str):List QI→Int
|[]=>0
|b::r=>Qte (QIc fs bs b.stmts) (QCd fs bs r)
def Qxf (fs:List Str)(f:Qo):Int:=if 0≤dupI (QPb f) then 6 else QCd fs (QPb f) f.blocks
def QQc (fs:List Str):List Qo→Int
|[]=>0
|f::r=>Qte (Qxf fs f) (QQc fs r)
def QH (p:List Qo):List QD:=(p.map fun f=>(f.blocks.map QI.stmts).flatten).flatten
def Qfc (out:List Str)(n:Str):List Str:=if n.isEmpty||out.contains n then out else out++[n]
def QYe (out:List Str)(s:QD):List Str:=(s.dfn::s.uses).foldl Qfc out
def QN (p:List Qo):List Str:=if QMa p then (QH p).foldl QYe [] else []
def QHd (s:QD):Int:=if s.op=3 then 2 else 1
def Qod (s:QD):Int:=if s.op=3 then 3 else if s.op=8 then 2 else 1
def sumI (l:List Int):Int:=l.foldl (· + ·) 0
def QMd (p:List Qo):Int:=if QMa p then 2*(p.length:Int)+sumI ((QH p).map QHd) else 0
def QNd (p:List Qo):Int:=if QMa p then (p.length:Int)+sumI ((QH p).map Qod) else 0
def QFa (p:List Qo):Int:=
 if QMa p=false then 1
 else if 0≤dupI (QRc p) then 6
 else if QQc (QRc p) p≠0 then QQc (QRc p) p
 else if 64<(QN p).length∨256<QMd p∨1024<QNd p then 7 else 0
structure Qx where
 kind:Int
 fn:Int
 bl:Int
 st:Int
deriving DecidableEq
def QWe (i k n:Nat)(s:QD):List Qx:=⟨3,i,k,n⟩::(if s.op=3 then [⟨4,i,k,n⟩] else [])
def Qta (i k:Nat):List QD→Nat→List Qx
|[],_=>[]
|s::r,n=>QWe i k n s++Qta i k r (n+1)
def Qca (i:Nat):List QI→Nat→List Qx
|[],_=>[]
|b::r,k=>Qta i k b.stmts 0++Qca i r (k+1)
def Qcf (i:Nat)(f:Qo):List Qx:=⟨1,i,-1,-1⟩::(Qca i f.blocks 0++[⟨2,i,-1,-1⟩])
def QB:List Qo→Nat→List Qx
|[],_=>[]
|f::r,i=>Qcf i f++QB r (i+1)
def QR (p:List Qo):List Qx:=if QFa p=0 then QB p 0 else []
def idxI {α:Type} [DecidableEq α](l:List α)(x:α):Int:=if x∈l then ((l.idxOf x:Nat):Int) else -1
def QFd (p:List Qo)(n:Qx):Option QD:=(p[n.fn.toNat]?).bind fun f=>(f.blocks[n.bl.toNat]?).bind fun b=>b.stmts[n.st.toNat]?
def insN (n:Qx):Bool:=n.kind==3||n.kind==4
def QAf (p:List Qo)(n:Qx):Option QD:=if insN n=true∧n∈QR p then QFd p n else none
structure Qra where
 node:Int
 var:Int
deriving DecidableEq
def QUa (vars:List Str)(p:List Qo):List Qx→Nat→List Qra
|[],_=>[]
|n::r,i=>(if n.kind=3 then match QFd p n with|some s=>if dfnB s.op then [⟨i,idxI vars s.dfn⟩] else []|none=>[] else [])++QUa vars p r (i+1)
def QBc (p:List Qo)(kind:Int):List Qra:=if kind=1 then QUa (QN p) p (QR p) 0 else (List.range (QN p).length).map fun v:Nat=>(⟨-1,(v:Int)⟩:Qra)
def Qxb (p:List Qo)(kind:Int):Int:=if QFa p≠0 then QFa p else if kind<1∨4<kind then 3 else if 256<(QBc p kind).length then 7 else 0
def QC (p:List Qo)(kind:Int):List Qra:=if Qxb p kind=0 then QBc p kind else []
end
section
def blkI (f:Qo)(x:Str):Int:=idxI (QPb f) x
def fnI (p:List Qo)(x:Str):Int:=idxI (QRc p) x
def tgt (s:QD):Str:=s.targets.headD []
def fnOf (p:List Qo)(i:Int):Qo:=(p[i.toNat]?).getD ⟨[],[]⟩
def Qec (p:List Qo)(n:Qx):QD:=(QFd p n).getD ⟨0,[],[],[]⟩
def Qmd (p:List Qo)(l:List Qx)(n:Qx):List Qx:=
 if n.kind=1 then [⟨3,n.fn,0,0⟩]
 else if n.kind=2 then l.filter fun k=>k.kind==4&&tgt (Qec p k)==(fnOf p n.fn).name
 else if (Qec p n).op=9 then [⟨2,n.fn,-1,-1⟩]
 else if (Qec p n).op=3∧n.kind=3 then [⟨1,fnI p (tgt (Qec p n)),-1,-1⟩]
 else if (Qec p n).op=7∨(Qec p n).op=8 then (Qec p n).targets.map fun t=>⟨3,n.fn,blkI (fnOf p n.fn) t,0⟩
 else [⟨3,n.fn,n.bl,n.st+1⟩]
def QU (p:List Qo)(n:Qx):List (Qx×Qx):=
 if n.kind=1 then [(n,⟨3,n.fn,0,0⟩)]
 else if n.kind=3 then
  if (Qec p n).op=7∨(Qec p n).op=8 then (Qec p n).targets.map fun t=>(n,⟨3,n.fn,blkI (fnOf p n.fn) t,0⟩)
  else if (Qec p n).op=9 then [(n,⟨2,n.fn,-1,-1⟩)]
  else if (Qec p n).op=3 then [(n,⟨1,fnI p (tgt (Qec p n)),-1,-1⟩),(⟨2,fnI p (tgt (Qec p n)),-1,-1⟩,⟨4,n.fn,n.bl,n.st⟩),(⟨4,n.fn,n.bl,n.st⟩,⟨3,n.fn,n.bl,n.st+1⟩)]
  else [(n,⟨3,n.fn,n.bl,n.st+1⟩)]
 else []
def Qva (p:List Qo)(l:List Qx):List (Qx×Qx):=(l.map (QU p)).flatten
def IsN (p:List Qo)(n:Qx):Prop:=∃i f,p[i]? = some f∧(n=⟨1,(i:Nat),-1,-1⟩∨n=⟨2,(i:Nat),-1,-1⟩∨∃k b j s,f.blocks[k]? = some b∧b.stmts[j]? = some s∧(n=⟨3,(i:Nat),(k:Nat),(j:Nat)⟩∨(s.op=3∧n=⟨4,(i:Nat),(k:Nat),(j:Nat)⟩)))
theorem Qbe {i k j:Nat}{s:QD}{n:Qx}:n∈QWe i k j s↔n=⟨3,i,k,j⟩∨(s.op=3∧n=⟨4,i,k,j⟩):=by
 unfold QWe;by_cases h:s.op=3 <;> simp[h]
theorem Qyc {i k:Nat}{n:Qx}:∀(l:List QD) (m:Nat),n∈Qta i k l m↔∃j s,l[j]? = some s∧n∈QWe i k (m+j) s
|[],m=>by simp[Qta]
|x::r,m=>by
  unfold Qta
  rw[List.mem_append,Qyc r (m+1)]
  constructor
  ·rintro(h|⟨j,s,h1,h2⟩)
   ·exact⟨0,x,rfl,h⟩
   ·exact⟨j+1,s,h1,by rw[show m+(j+1)=m+1+j by omega];exact h2⟩
  ·rintro⟨j,s,h1,h2⟩
   cases j with
  |zero=>simp at h1;subst h1;exact .inl h2
  |succ j=>exact .inr ⟨j,s,by simpa using h1,by rw[show m+1+j=m+(j+1) by omega];exact h2⟩
theorem Qbd {i:Nat}{n:Qx}:∀(l:List QI) (m:Nat),n∈Qca i l m↔∃k b,l[k]? = some b∧n∈Qta i (m+k) b.stmts 0
|[],m=>by simp[Qca]
|x::r,m=>by
  unfold Qca
  rw[List.mem_append,Qbd r (m+1)]
  constructor
  ·rintro(h|⟨j,s,h1,h2⟩)
   ·exact⟨0,x,rfl,h⟩
   ·exact⟨j+1,s,h1,by rw[show m+(j+1)=m+1+j by omega];exact h2⟩
  ·rintro⟨j,s,h1,h2⟩
   cases j with
  |zero=>simp at h1;subst h1;exact .inl h2
  |succ j=>exact .inr ⟨j,s,by simpa using h1,by rw[show m+1+j=m+(j+1) by omega];exact h2⟩
theorem Qxg {n:Qx}:∀(l:List Qo) (m:Nat),n∈QB l m↔∃i f,l[i]? = some f∧n∈Qcf (m+i) f
|[],m=>by simp[QB]
|x::r,m=>by
  unfold QB
  rw[List.mem_append,Qxg r (m+1)]
  constructor
  ·rintro(h|⟨j,s,h1,h2⟩)
   ·exact⟨0,x,rfl,h⟩
   ·exact⟨j+1,s,h1,by rw[show m+(j+1)=m+1+j by omega];exact h2⟩
  ·rintro⟨j,s,h1,h2⟩
   cases j with
  |zero=>simp at h1;subst h1;exact .inl h2
  |succ j=>exact .inr ⟨j,s,by simpa using h1,by rw[show m+1+j=m+(j+1) by omega];exact h2⟩
theorem QLb {p:List Qo}{n:Qx}:n∈QB p 0↔IsN p n:=by
 rw[Qxg];unfold IsN Qcf;constructor
 ·rintro⟨i,f,h1,h2⟩;refine⟨i,f,h1,?_⟩;simp only[Nat.zero_add] at h2;rcases List.mem_cons.1 h2 with h2|h2
  ·exact .inl h2
  ·rcases List.mem_append.1 h2 with h2|h2
   ·obtain⟨k,b,h3,h4⟩:=(Qbd _ _).1 h2;obtain⟨j,s,h5,h6⟩:=(Qyc _ _).1 h4;simp only[Nat.zero_add] at h6;exact .inr (.inr ⟨k,b,j,s,h3,h5,Qbe.1 h6⟩)
   ·exact .inr (.inl (by simpa using h2))
 ·rintro⟨i,f,h1,h2⟩;refine⟨i,f,h1,?_⟩;simp only[Nat.zero_add];rcases h2 with h2|h2|⟨k,b,j,s,h3,h5,h6⟩
  ·exact List.mem_cons.2 (.inl h2)
  ·exact List.mem_cons.2 (.inr (List.mem_append.2 (.inr (by simp[h2]))))
  ·refine List.mem_cons.2 (.inr (List.mem_append.2 (.inl ((Qbd _ _).2 ⟨k,b,h3,(Qyc _ _).2 ⟨j,s,h5,?_⟩⟩))));simp only[Nat.zero_add];exact Qbe.2 h6
theorem Qdh {i k:Nat}:∀(l:List QD) (m:Nat),(Qta i k l m).Nodup
|[],m=>List.nodup_nil
|x::r,m=>by
  unfold Qta
  refine List.nodup_append.2 ⟨?_,Qdh r (m+1),?_⟩
  ·unfold QWe
   by_cases h:x.op=3 <;> simp[h]
  ·intro a ha b hb e
   subst e
   obtain⟨j,s,_,h2⟩:=(Qyc _ _).1 hb
   rw[Qbe] at ha h2
   rcases ha with rfl|⟨_,rfl⟩ <;> rcases h2 with h2|⟨_,h2⟩ <;> injection h2 <;> omega
theorem Qeg {i:Nat}:∀(l:List QI) (m:Nat),(Qca i l m).Nodup
|[],m=>List.nodup_nil
|x::r,m=>by
  unfold Qca
  refine List.nodup_append.2 ⟨Qdh _ _,Qeg r (m+1),?_⟩
  intro a ha b hb e
  subst e
  obtain⟨k,c,_,h2⟩:=(Qbd _ _).1 hb
  obtain⟨j,s,_,h3⟩:=(Qyc _ _).1 h2
  obtain⟨j',s',_,h4⟩:=(Qyc _ _).1 ha
  rw[Qbe] at h3 h4
  rcases h4 with rfl|⟨_,rfl⟩ <;> rcases h3 with h3|⟨_,h3⟩ <;> injection h3 <;> omega
theorem Qjh {i:Nat}{f:Qo}{n:Qx}(h:n∈Qcf i f):n.fn=i:=by
 unfold Qcf at h;rcases List.mem_cons.1 h with rfl|h
 ·rfl
 ·rcases List.mem_append.1 h with h|h
  ·obtain⟨k,b,_,h4⟩:=(Qbd _ _).1 h;obtain⟨j,s,_,h6⟩:=(Qyc _ _).1 h4;rcases Qbe.1 h6 with rfl|⟨_,rfl⟩ <;> rfl
  ·simp at h;subst h;rfl
theorem Qom (i:Nat)(f:Qo):(Qcf i f).Nodup:=by
 unfold Qcf;have hk:∀n,n∈Qca i f.blocks 0→n.kind=3∨n.kind=4:=fun n h=>by
  obtain⟨k,b,_,h4⟩:=(Qbd _ _).1 h;obtain⟨j,s,_,h6⟩:=(Qyc _ _).1 h4;rcases Qbe.1 h6 with rfl|⟨_,rfl⟩
  ·exact .inl rfl
  ·exact .inr rfl
 refine List.nodup_cons.2 ⟨fun h=>?_,List.nodup_append.2 ⟨Qeg _ _,by simp,?_⟩⟩
 ·rcases List.mem_append.1 h with h|h
  ·rcases hk _ h with h|h <;> simp at h
  ·simp at h
 ·intro a ha b hb e;subst e;simp at hb;subst hb;rcases hk _ ha with h|h <;> simp at h
theorem QIe:∀(l:List Qo) (m:Nat),(QB l m).Nodup
|[],m=>List.nodup_nil
|x::r,m=>by
  unfold QB
  refine List.nodup_append.2 ⟨Qom _ _,QIe r (m+1),?_⟩
  intro a ha b hb e
  subst e
  obtain⟨i,f,_,h2⟩:=(Qxg _ _).1 hb
  have h3:=Qjh h2
  have h4:=Qjh ha
  omega
theorem QCi:∀(l seen:List Str) (i:Int),0≤i→¬(0≤QKj seen l i)→(∀x∈l,x∉seen)∧l.Nodup
|[],seen,i,_,_=>⟨(fun x h=>by cases h),List.nodup_nil⟩
|x::r,seen,i,hi,h=>by
  unfold QKj at h
  by_cases hx:seen.contains x=true
  ·rw[if_pos hx] at h;omega
  ·rw[if_neg hx] at h
   obtain⟨h1,h2⟩:=QCi r (seen++[x]) (i+1) ZO h
   have hx':x∉seen:=by simpa using hx
   refine⟨fun y hy=>?_,List.nodup_cons.2 ⟨fun hm=>?_,h2⟩⟩
   ·rcases List.mem_cons.1 hy with rfl|hy
    ·exact hx'
    ·exact fun hm=>h1 y hy (List.mem_append.2 (.inl hm))
   ·exact h1 x hm ZS
theorem QJj {l:List Str}(h:¬0≤dupI l):l.Nodup:=(QCi l [] 0 ZO h).2
theorem QFg {a b:Int}(h:Qte a b=0):a=0∧b=0:=by
 unfold Qte at h
 split at h
 ·exact⟨by assumption,h⟩
 ·exact absurd h (by assumption)
theorem Qoi {fs bs:List Str}:∀(l:List QD),QIc fs bs l=0→∀j s,l[j]? = some s→QXi fs bs s (decide (j+1=l.length))=0
|[],_,j,s,hj=>by simp at hj
|x::r,h,j,s,hj=>by
  unfold QIc at h
  obtain⟨h1,h2⟩:=QFg h
  cases j with
 |zero=>
   simp at hj
   subst hj
   rw[←h1]
   congr 1
   cases r <;> simp
 |succ j=>
   rw[←Qoi r h2 j s (by simpa using hj)]
   congr 1
   simp
theorem Qyh {fs bs:List Str}:∀(l:List QI),QCd fs bs l=0→∀b∈l,QIc fs bs b.stmts=0
|[],_,b,hb=>by cases hb
|x::r,h,b,hb=>by
  unfold QCd at h
  obtain⟨h1,h2⟩:=QFg h
  rcases List.mem_cons.1 hb with rfl|hb
  ·exact h1
  ·exact Qyh r h2 b hb
theorem Qyi {fs:List Str}:∀(l:List Qo),QQc fs l=0→∀f∈l,Qxf fs f=0
|[],_,b,hb=>by cases hb
|x::r,h,b,hb=>by
  unfold QQc at h
  obtain⟨h1,h2⟩:=QFg h
  rcases List.mem_cons.1 hb with rfl|hb
  ·exact h1
  ·exact Qyi r h2 b hb
structure Ckd (p:List Qo):Prop where
 valid:QMa p=true
 funcs:(QRc p).Nodup
 blocks:∀f∈p,(QPb f).Nodup
 stmts:∀f∈p,∀b∈f.blocks,∀j s,b.stmts[j]? = some s→QXi (QRc p) (QPb f) s (decide (j+1=b.stmts.length))=0
 vars:(QN p).length≤64
 nodes:QMd p≤256
 edges:QNd p≤1024
theorem Qzb {p:List Qo}(h:QFa p=0):Ckd p:=by
 unfold QFa at h
 split at h
 ·cases h
 rename_i hv
 split at h
 ·cases h
 rename_i hd
 split at h
 ·rename_i hn;exact absurd h hn
 rename_i hf
 split at h
 ·cases h
 rename_i hs;have hf':QQc (QRc p) p=0:=by simpa using hf
 have hfe:∀f∈p,(QPb f).Nodup∧QCd (QRc p) (QPb f) f.blocks=0:=fun f hm=>by
  have h1:=Qyi p hf' f hm;unfold Qxf at h1
  split at h1
  ·cases h1
  ·rename_i h2;exact⟨QJj h2,h1⟩
 refine⟨by simpa using hv,QJj hd,fun f hm=>(hfe f hm).1,fun f hm b hb=>Qoi _ (Qyh _ (hfe f hm).2 b hb),?_,?_,?_⟩ <;> omega
end
section
section
variable {α:Type} [DecidableEq α]
theorem Qgc {l:List α}{x:α}(h:x∈l):∃k:Nat,idxI l x=k∧l[k]? = some x:=by
 refine⟨l.idxOf x,by unfold idxI;rw[if_pos h],?_⟩;rw[List.getElem?_eq_getElem (List.idxOf_lt_length_of_mem h)];simp
theorem QLp {l:List α}{x:α}(h:x∉l):idxI l x = -1:=by unfold idxI;rw[if_neg h]
theorem QBg {l:List α}(hn:l.Nodup){k:Nat}{x:α}(h:l[k]? = some x):idxI l x=k:=by
 obtain⟨hk,rfl⟩:=List.getElem?_eq_some_iff.1 h;have hm:l[k]∈l:=List.getElem_mem hk;unfold idxI;rw[if_pos hm]
 congr 1
 exact hn.idxOf_getElem k hk
end
theorem Ckd.func {p:List Qo}(h:Ckd p){f:Qo}(hf:f∈p):QNc f=true:=by
 have hv:=h.valid;unfold QMa at hv;simp only[Bool.and_eq_true,List.all_eq_true] at hv;exact hv.2.2 f hf
theorem Ckd.block {p:List Qo}(h:Ckd p){f:Qo}(hf:f∈p):1≤f.blocks.length∧∀b∈f.blocks,Qoc b=true:=by
 have hv:=h.func hf;unfold QNc at hv;simp only[Bool.and_eq_true,List.all_eq_true,decide_eq_true_eq] at hv;exact⟨hv.2.1,hv.2.2.2⟩
theorem Ckd.stmt {p:List Qo}(h:Ckd p){f:Qo}(hf:f∈p){b:QI}(hb:b∈f.blocks):1≤b.stmts.length∧∀s∈b.stmts,stmtB s=true:=by
 have hv:=(h.block hf).2 b hb;unfold Qoc at hv;simp only[Bool.and_eq_true,List.all_eq_true,decide_eq_true_eq] at hv;exact⟨hv.2.1,hv.2.2.2⟩
structure At (p:List Qo)(i k j:Nat)(f:Qo)(b:QI)(s:QD):Prop where
 hf:p[i]? = some f
 hb:f.blocks[k]? = some b
 hs:b.stmts[j]? = some s
theorem At.fm {p:List Qo}{i k j:Nat}{f:Qo}{b:QI}{s:QD}(h:At p i k j f b s):f∈p:=List.mem_of_getElem? h.hf
theorem At.bm {p:List Qo}{i k j:Nat}{f:Qo}{b:QI}{s:QD}(h:At p i k j f b s):b∈f.blocks:=List.mem_of_getElem? h.hb
theorem At.sm {p:List Qo}{i k j:Nat}{f:Qo}{b:QI}{s:QD}(h:At p i k j f b s):s∈b.stmts:=List.mem_of_getElem? h.hs
theorem At.d {p:List Qo}{i k j:Nat}{f:Qo}{b:QI}{s:QD}(h:At p i k j f b s)(x:Int):Qec p ⟨x,i,k,j⟩=s:=by
 unfold Qec QFd;simp[h.hf,h.hb,h.hs]
theorem At.fn {p:List Qo}{i k j:Nat}{f:Qo}{b:QI}{s:QD}(h:At p i k j f b s):fnOf p i=f:=by
 unfold fnOf;simp[h.hf]
theorem QPp {p:List Qo}{i:Nat}{f:Qo}(h:p[i]? = some f):fnOf p i=f:=by
 unfold fnOf;simp[h]
theorem At.node3 {p:List Qo}{i k j:Nat}{f:Qo}{b:QI}{s:QD}(h:At p i k j f b s):(⟨3,i,k,j⟩:Qx)∈QB p 0:=QLb.2 ⟨i,f,h.hf,.inr (.inr ⟨k,b,j,s,h.hb,h.hs,.inl rfl⟩)⟩
theorem At.node4 {p:List Qo}{i k j:Nat}{f:Qo}{b:QI}{s:QD}(h:At p i k j f b s)(h3:s.op=3):(⟨4,i,k,j⟩:Qx)∈QB p 0:=QLb.2 ⟨i,f,h.hf,.inr (.inr ⟨k,b,j,s,h.hb,h.hs,.inr ⟨h3,rfl⟩⟩)⟩
theorem QYt {p:List Qo}{i:Nat}{f:Qo}(h:p[i]? = some f):(⟨1,i,-1,-1⟩:Qx)∈QB p 0:=QLb.2 ⟨i,f,h,.inl rfl⟩
theorem QXt {p:List Qo}{i:Nat}{f:Qo}(h:p[i]? = some f):(⟨2,i,-1,-1⟩:Qx)∈QB p 0:=QLb.2 ⟨i,f,h,.inr (.inl rfl)⟩
theorem Ckd.at_ {p:List Qo}(hc:Ckd p){i k j:Nat}{f:Qo}{b:QI}{s:QD}(h:At p i k j f b s):
  stmtB s=true∧(QTg s.op=decide (j+1=b.stmts.length))∧∀t∈s.targets,t∈(if s.op==3 then QRc p else QPb f):=by
 have h1:=hc.stmts f h.fm b h.bm j s h.hs;unfold QXi at h1
 split at h1
 ·cases h1
 rename_i h2;have h3:(s.targets.all fun t=>(if s.op==3 then QRc p else QPb f).contains t)=true:=by
  cases hq:(s.targets.all fun t=>(if s.op==3 then QRc p else QPb f).contains t) with
 |true=>rfl
 |false=>rw[hq] at h1;simp at h1
 refine⟨(hc.stmt h.fm h.bm).2 s h.sm,by simpa using h2,fun t ht=>?_⟩;have:=List.all_eq_true.1 h3 t ht
 simpa using this
theorem QZi {s:QD}(h:stmtB s=true)(h3:s.op=3):∃t,s.targets=[t]:=by
 unfold stmtB opB at h;simp only[Bool.and_eq_true] at h;have h4:=h.2.2;rw[h3] at h4;simp at h4;obtain⟨t,ht⟩:=List.length_eq_one_iff.1 h4.2.2;exact⟨t,ht⟩
theorem Ckd.callee {p:List Qo}(hc:Ckd p){i k j:Nat}{f:Qo}{b:QI}{s:QD}(h:At p i k j f b s)(h3:s.op=3):∃(g:Nat) (f':Qo),fnI p (tgt s)=g∧p[g]? = some f'∧f'.name=tgt s:=by
 obtain⟨h1,-,h2⟩:=hc.at_ h;obtain⟨t,ht⟩:=QZi h1 h3;have hm:t∈QRc p:=by
  have:=h2 t (by simp[ht]);rw[h3] at this
  simpa using this
 obtain⟨g,hg,hg2⟩:=Qgc hm;have e:tgt s=t:=by unfold tgt;rw[ht];rfl
 rw[e];unfold QRc at hg2;rw[List.getElem?_map] at hg2
 cases hp:p[g]? with
|none=>rw[hp] at hg2;cases hg2
|some f'=>
  rw[hp] at hg2;exact⟨g,f',hg,hp,by simpa using hg2⟩
theorem Ckd.fn_at {p:List Qo}(hc:Ckd p){i:Nat}{f:Qo}(h:p[i]? = some f):fnI p f.name=i:=by
 refine QBg hc.funcs ?_;unfold QRc;rw[List.getElem?_map,h];rfl
theorem Qsh {p:List Qo}(hc:Ckd p)(n m:Qx):(n,m)∈Qva p (QB p 0)↔n∈QB p 0∧m∈Qmd p (QB p 0) n:=by
 have hm:(n,m)∈Qva p (QB p 0)↔∃a∈QB p 0,(n,m)∈QU p a:=by
  unfold Qva;simp only[List.mem_flatten,List.mem_map];constructor
  ·rintro⟨l,⟨a,h1,rfl⟩,h2⟩;exact⟨a,h1,h2⟩
  ·rintro⟨a,h1,h2⟩;exact⟨_,⟨a,h1,rfl⟩,h2⟩
 rw[hm];constructor
 ·rintro⟨a,ha,he⟩;obtain⟨i,f,hi,hk⟩:=QLb.1 ha;rcases hk with rfl|rfl|⟨k,b,j,s,hb,hs,hk⟩
  ·simp only[QU,if_true,List.mem_singleton,Prod.mk.injEq] at he;obtain⟨rfl,rfl⟩:=he;exact⟨ha,by simp[Qmd]⟩
  ·simp[QU] at he
  ·have hA:At p i k j f b s:=⟨hi,hb,hs⟩;rcases hk with rfl|⟨h3,rfl⟩
   ·have hd:=hA.d 3;have hfn:=hA.fn;unfold QU at he;rw[if_neg ZS,if_pos rfl,hd] at he;by_cases h7:s.op=7∨s.op=8
    ·rw[if_pos h7] at he;obtain⟨t,ht,e⟩:=List.mem_map.1 he;injection e with e1 e2
     subst e1 e2;refine⟨ha,?_⟩;unfold Qmd;rw[if_neg ZS,if_neg ZS,hd,if_neg ZO,if_neg ZO,if_pos h7];exact List.mem_map.2 ⟨t,ht,rfl⟩
    rw[if_neg h7] at he;by_cases h9:s.op=9
    ·rw[if_pos h9] at he;simp only[List.mem_singleton,Prod.mk.injEq] at he;obtain⟨rfl,rfl⟩:=he;refine⟨ha,?_⟩;unfold Qmd;rw[if_neg ZS,if_neg ZS,hd,if_pos h9];simp
    rw[if_neg h9] at he;by_cases h3:s.op=3
    ·rw[if_pos h3] at he;obtain⟨g,f',hg,hg2,hg3⟩:=hc.callee hA h3;rw[hg] at he;simp only[List.mem_cons,Prod.mk.injEq,List.not_mem_nil,or_false] at he;rcases he with⟨rfl,rfl⟩|⟨rfl,rfl⟩|⟨rfl,rfl⟩
     ·refine⟨ha,?_⟩;unfold Qmd;rw[if_neg ZS,if_neg ZS,hd,if_neg h9,if_pos ⟨h3,rfl⟩,hg];simp
     ·refine⟨QXt hg2,?_⟩;unfold Qmd;rw[if_neg ZS,if_pos rfl];refine List.mem_filter.2 ⟨hA.node4 h3,?_⟩;simp[hA.d 4,QPp hg2,hg3]
     ·refine⟨hA.node4 h3,?_⟩;unfold Qmd;rw[if_neg ZS,if_neg ZS,hA.d 4,if_neg h9,if_neg ZS,if_neg h7];simp
    ·rw[if_neg h3] at he;simp only[List.mem_singleton,Prod.mk.injEq] at he;obtain⟨rfl,rfl⟩:=he;refine⟨ha,?_⟩;unfold Qmd;rw[if_neg ZS,if_neg ZS,hd,if_neg h9,if_neg (fun h=>h3 h.1),if_neg h7];simp
   ·simp[QU] at he
 ·rintro⟨hn,hx⟩;obtain⟨i,f,hi,hk⟩:=QLb.1 hn;rcases hk with rfl|rfl|⟨k,b,j,s,hb,hs,hk⟩
  ·refine⟨_,hn,?_⟩;simp only[Qmd,if_true,List.mem_singleton] at hx;subst hx;simp[QU]
  ·unfold Qmd at hx;rw[if_neg ZS,if_pos rfl] at hx;obtain⟨hm1,hm2⟩:=List.mem_filter.1 hx;simp only[Bool.and_eq_true,beq_iff_eq,QPp hi] at hm2;obtain⟨i',f',hi',hk'⟩:=QLb.1 hm1;rcases hk' with rfl|rfl|⟨k,b,j,s,hb,hs,hk'⟩
   ·simp at hm2
   ·simp at hm2
   ·have hA:At p i' k j f' b s:=⟨hi',hb,hs⟩;rcases hk' with rfl|⟨h3,rfl⟩
    ·simp at hm2
    ·refine⟨_,hA.node3,?_⟩;unfold QU;rw[if_neg ZS,if_pos rfl,hA.d 3,if_neg ZO,if_neg ZO,if_pos h3];have h5:=hm2.2;rw[hA.d 4] at h5;rw[h5,hc.fn_at hi];simp
  ·have hA:At p i k j f b s:=⟨hi,hb,hs⟩;rcases hk with rfl|⟨h3,rfl⟩
   ·refine⟨_,hn,?_⟩;unfold Qmd at hx;rw[if_neg ZS,if_neg ZS,hA.d 3] at hx;unfold QU;rw[if_neg ZS,if_pos rfl,hA.d 3];by_cases h9:s.op=9
    ·rw[if_pos h9] at hx;rw[if_neg ZO,if_pos h9]
     simpa using hx
    rw[if_neg h9] at hx;by_cases h3:s.op=3
    ·rw[if_pos ⟨h3,rfl⟩] at hx;rw[if_neg ZO,if_neg h9,if_pos h3];simp only[List.mem_singleton] at hx;subst hx;simp
    rw[if_neg (fun h=>h3 h.1)] at hx;by_cases h7:s.op=7∨s.op=8
    ·rw[if_pos h7] at hx ⊢;obtain⟨t,ht,rfl⟩:=List.mem_map.1 hx;exact List.mem_map.2 ⟨t,ht,rfl⟩
    ·rw[if_neg h7] at hx;rw[if_neg h7,if_neg h9,if_neg h3]
     simpa using hx
   ·refine⟨_,hA.node3,?_⟩;unfold Qmd at hx;rw[if_neg ZS,if_neg ZS,hA.d 4,if_neg ZO,if_neg ZS,if_neg ZO] at hx;unfold QU;rw[if_neg ZS,if_pos rfl,hA.d 3,if_neg ZO,if_neg ZO,if_pos h3];simp only[List.mem_singleton] at hx;subst hx;simp
theorem Qum {p:List Qo}(hc:Ckd p){n m:Qx}(hn:n∈QB p 0)(hx:m∈Qmd p (QB p 0) n):m∈QB p 0:=by
 have first:∀(i k:Nat) (f:Qo) (b:QI),p[i]? = some f→f.blocks[k]? = some b→(⟨3,(i:Nat),(k:Nat),0⟩:Qx)∈QB p 0:=fun i k f b h1 h2=>by
  have h3:=(hc.stmt (List.mem_of_getElem? h1) (List.mem_of_getElem? h2)).1;exact At.node3 (j:=0) ⟨h1,h2,List.getElem?_eq_getElem ZO⟩
 obtain⟨i,f,hi,hk⟩:=QLb.1 hn;rcases hk with rfl|rfl|⟨k,b,j,s,hb,hs,hk⟩
 ·simp only[Qmd,if_true,List.mem_singleton] at hx;subst hx;have h1:=(hc.block (List.mem_of_getElem? hi)).1;exact first i 0 f _ hi (List.getElem?_eq_getElem ZO)
 ·unfold Qmd at hx;rw[if_neg ZS,if_pos rfl] at hx;exact(List.mem_filter.1 hx).1
 ·have hA:At p i k j f b s:=⟨hi,hb,hs⟩;obtain⟨hsb,hterm,htg⟩:=hc.at_ hA;have nxt:QTg s.op=false→(⟨3,(i:Nat),(k:Nat),(j:Int)+1⟩:Qx)∈QB p 0:=fun ht=>by
   have h1:=(List.getElem?_eq_some_iff.1 hs).1;rw[ht] at hterm;have h2:j+1<b.stmts.length:=by
    have:¬(j+1=b.stmts.length):=by simpa using hterm.symm
    omega
   have:=At.node3 (j:=j+1) (p:=p) (i:=i) (k:=k) ⟨hi,hb,List.getElem?_eq_getElem h2⟩
   simpa using this
  have goal3:∀x:Int,(x=3∨x=4∧s.op=3)→m∈Qmd p (QB p 0) ⟨x,i,k,j⟩→m∈QB p 0:=fun x hx3 hx=>by
   unfold Qmd at hx;rw[if_neg (by simp;omega),if_neg (by simp;omega),hA.d x] at hx;by_cases h9:s.op=9
   ·rw[if_pos h9] at hx;simp at hx;subst hx;exact QXt hi
   rw[if_neg h9] at hx;by_cases h3:s.op=3∧x=3
   ·rw[if_pos h3] at hx;obtain⟨g,f',hg,hg2,-⟩:=hc.callee hA h3.1;rw[hg] at hx;simp at hx;subst hx;exact QYt hg2
   rw[if_neg h3] at hx;by_cases h7:s.op=7∨s.op=8
   ·rw[if_pos h7] at hx;obtain⟨t,ht,rfl⟩:=List.mem_map.1 hx;have h4:=htg t ht;rw[if_neg (by simp;omega)] at h4;obtain⟨q,hq,hq2⟩:=Qgc h4;simp only[hA.fn];unfold blkI;rw[hq];unfold QPb at hq2;rw[List.getElem?_map] at hq2
    cases hbq:f.blocks[q]? with
   |none=>rw[hbq] at hq2;cases hq2
   |some b'=>exact first i q f b' hi hbq
   ·rw[if_neg h7] at hx;simp at hx;subst hx;refine nxt ?_;unfold QTg;simp;omega
  rcases hk with rfl|⟨h3,rfl⟩
  ·exact goal3 3 (.inl rfl) hx
  ·exact goal3 4 (.inr ⟨rfl,h3⟩) hx
end
section
def Asc (l:List Int):Prop:=l.Pairwise (· < ·)
theorem QIi:∀{a b:List Int},Asc a→Asc b→(∀x,x∈a↔x∈b)→a=b
|[],[],_,_,_=>rfl
|[],y::b,_,_,h=>by have:=(h y).2 ZS;cases this
|x::a,[],_,_,h=>by have:=(h x).1 ZS;cases this
|x::a,y::b,ha,hb,h=>by
  obtain⟨ha1,ha2⟩:=List.pairwise_cons.1 ha
  obtain⟨hb1,hb2⟩:=List.pairwise_cons.1 hb
  have e:x=y:=by
   rcases List.mem_cons.1 ((h x).1 ZS) with e|e
   ·exact e
   ·rcases List.mem_cons.1 ((h y).2 ZS) with e'|e'
    ·exact e'.symm
    ·have:=ha1 y e';have:=hb1 x e;omega
  subst e
  congr 1
  refine QIi ha2 hb2 fun z=>?_
  constructor
  ·intro hz;rcases List.mem_cons.1 ((h z).1 (List.mem_cons_of_mem _ hz)) with e|e
   ·have:=ha1 z hz;omega
   ·exact e
  ·intro hz;rcases List.mem_cons.1 ((h z).2 (List.mem_cons_of_mem _ hz)) with e|e
   ·have:=hb1 z hz;omega
   ·exact e
def insI (l:List Int)(n:Int):List Int:=if n∈l then l else l.takeWhile (decide <| · < n)++n::l.dropWhile (decide <| · < n)
theorem Qls {l:List Int}{n x:Int}:x∈insI l n↔x∈l∨x=n:=by
 unfold insI
 split
 ·constructor
  ·exact .inl
  ·rintro(h|rfl) <;> assumption
 ·have:=List.takeWhile_append_dropWhile (p:=fun y:Int=>decide (y<n)) (l:=l);constructor
  ·intro h;rcases List.mem_append.1 h with h|h
   ·left;rw[←this];exact List.mem_append.2 (.inl h)
   ·rcases List.mem_cons.1 h with h|h
    ·exact .inr h
    ·left;rw[←this];exact List.mem_append.2 (.inr h)
  ·rintro(h|rfl)
   ·rw[←this] at h;rcases List.mem_append.1 h with h|h
    ·exact List.mem_append.2 (.inl h)
    ·exact List.mem_append.2 (.inr (List.mem_cons_of_mem _ h))
   ·exact List.mem_append.2 (.inr ZS)
theorem Qsl {n:Int}:∀{l:List Int},Asc l→n∉l→∀x∈l.dropWhile (decide <| · < n),n<x
|[],_,_,x,hx=>by simp at hx
|y::l,ha,hn,x,hx=>by
  obtain⟨h1,h2⟩:=List.pairwise_cons.1 ha
  have hn':n≠y∧n∉l:=by simpa using hn
  rw[List.dropWhile_cons] at hx
  split at hx
  ·exact Qsl h2 hn'.2 x hx
  ·rename_i hy
   have hy':n<y:=by
    have:¬y<n:=by simpa using hy
    omega
   rcases List.mem_cons.1 hx with rfl|hx
   ·exact hy'
   ·have:=h1 x hx;omega
theorem Qop {n x:Int}:∀{l:List Int},x∈l.takeWhile (decide <| · < n)→x<n
|[],h=>by simp at h
|y::l,h=>by
  rw[List.takeWhile_cons] at h
  split at h
  ·rename_i hy
   rcases List.mem_cons.1 h with rfl|h
   ·simpa using hy
   ·exact Qop h
  ·cases h
theorem QYs {l:List Int}{n:Int}(h:Asc l):Asc (insI l n):=by
 unfold insI
 split
 ·exact h
 ·rename_i hn;have hw:=List.takeWhile_append_dropWhile (p:=fun y:Int=>decide (y<n)) (l:=l);refine List.pairwise_append.2 ⟨h.sublist (List.takeWhile_sublist _),List.pairwise_cons.2 ⟨Qsl h hn,h.sublist (List.dropWhile_sublist _)⟩,?_⟩;intro a ha b hb;have h1:=Qop ha;rcases List.mem_cons.1 hb with rfl|hb
  ·exact h1
  ·have:=Qsl h hn b hb;omega
def rowF (n:Nat)(f:Nat→Bool):List Int:=((List.range n).filter f).map fun k:Nat=>(k:Int)
theorem Qih {n:Nat}{f:Nat→Bool}{x:Int}:x∈rowF n f↔∃k:Nat,x=k∧k<n∧f k=true:=by
 unfold rowF;simp only[List.mem_map,List.mem_filter,List.mem_range];constructor
 ·rintro⟨k,⟨h1,h2⟩,rfl⟩;exact⟨k,rfl,h1,h2⟩
 ·rintro⟨k,rfl,h1,h2⟩;exact⟨k,⟨h1,h2⟩,rfl⟩
theorem Qzh (n:Nat)(f:Nat→Bool):Asc (rowF n f):=by
 unfold Asc rowF;refine List.Pairwise.map (R:=(· < ·)) _ (fun a b h=>by omega) ?_;exact List.pairwise_lt_range.sublist List.filter_sublist
theorem Qbm (n:Nat)(f:Nat→Bool):(rowF n f).length≤n:=by
 unfold rowF;rw[List.length_map];exact Nat.le_trans (List.length_filter_le _ _) ZS
def Qve (p:List Qo)(l:List Qx)(i j:Nat):Bool:=
 match l[i]?,l[j]? with
|some n,some m=>decide (m∈Qmd p l n)
|_,_=>false
def QLl (p:List Qo)(i:Nat):List Int:=rowF (QR p).length fun j=>Qve p (QR p) i j
def Qgm (p:List Qo)(j:Nat):List Int:=rowF (QR p).length fun i=>Qve p (QR p) i j
def Qkc (p:List Qo):List (List Int):=(List.range (QR p).length).map (QLl p)
def Qmc (p:List Qo):List (List Int):=(List.range (QR p).length).map (Qgm p)
theorem QGf {α:Type} [DecidableEq α]:∀{a b:List α},a.Nodup→(∀x∈a,x∈b)→a.length≤b.length
|[],b,_,_=>Nat.zero_le _
|x::a,b,h,hs=>by
  obtain⟨h1,h2⟩:=List.nodup_cons.1 h
  have hx:x∈b:=hs x ZS
  have h3:=QGf (b:=b.erase x) h2 (fun y hy=>by
   have hne:y≠x:=fun e=>h1 (e▸hy)
   exact(List.mem_erase_of_ne hne).2 (hs y (List.mem_cons_of_mem _ hy)))
  have h4:=List.length_erase_of_mem hx
  have h5:0<b.length:=List.length_pos_of_mem hx
  simp only[List.length_cons]
  omega
theorem QVe (a b:List Int):sumI (a++b)=sumI a+sumI b:=by
 have h:∀(l:List Int) (x:Int),l.foldl (· + ·) x=x+sumI l:=by
  intro l
  induction l with
 |nil=>intro x;simp[sumI]
 |cons y l ih=>intro x;unfold sumI;rw[List.foldl_cons,List.foldl_cons,ih,ih (0+y)];omega
 unfold sumI;rw[List.foldl_append,h b];rfl
theorem QGh (x:Int)(l:List Int):sumI (x::l)=x+sumI l:=by
 have:=QVe [x] l
 simpa [sumI] using this
theorem Que (p:List Qo)(a b:List Qx):Qva p (a++b)=Qva p a++Qva p b:=by
 unfold Qva;rw[List.map_append,List.flatten_append]
theorem QOe (p:List Qo)(n:Qx)(b:List Qx):Qva p (n::b)=QU p n++Qva p b:=rfl
theorem QHn {s:QD}(h:stmtB s=true):(s.op=7→s.targets.length=1)∧(s.op=8→s.targets.length=2):=by
 unfold stmtB opB at h;simp only[Bool.and_eq_true] at h;have h4:=h.2.2;constructor
 ·intro e;rw[e] at h4;simp at h4;exact h4.2.2
 ·intro e;rw[e] at h4;simp at h4;exact h4.2.2
theorem QUo {p:List Qo}(hc:Ckd p){i k j:Nat}{f:Qo}{b:QI}{s:QD}(h:At p i k j f b s):((Qva p (QWe i k j s)).length:Int)=Qod s:=by
 obtain⟨hsb,-,-⟩:=hc.at_ h;obtain⟨h7,h8⟩:=QHn hsb;have e4:QU p ⟨4,(i:Nat),(k:Nat),(j:Nat)⟩=[]:=by simp[QU]
 have e3:((QU p ⟨3,(i:Nat),(k:Nat),(j:Nat)⟩).length:Int)=Qod s:=by
  unfold QU Qod;rw[if_neg ZS,if_pos rfl,h.d 3];by_cases c7:s.op=7
  ·rw[if_pos (.inl c7),List.length_map,h7 c7,if_neg ZO,if_neg ZO];rfl
  by_cases c8:s.op=8
  ·rw[if_pos (.inr c8),List.length_map,h8 c8,if_neg ZO,if_pos c8];rfl
  rw[if_neg ZO];by_cases c9:s.op=9
  ·rw[if_pos c9,if_neg ZO,if_neg ZO];rfl
  rw[if_neg c9];by_cases c3:s.op=3
  ·rw[if_pos c3,if_pos c3];rfl
  ·rw[if_neg c3,if_neg c3,if_neg c8];rfl
 unfold QWe;rw[QOe,List.length_append,Int.natCast_add,e3];by_cases c3:s.op=3
 ·rw[if_pos c3,QOe,e4];simp[Qva]
 ·rw[if_neg c3];simp[Qva]
theorem QAi {p:List Qo}(hc:Ckd p){i k:Nat}{f:Qo}{b:QI}(hf:p[i]? = some f)(hb:f.blocks[k]? = some b):∀(l:List QD) (m:Nat),(∀j s,l[j]? = some s→b.stmts[m+j]? = some s)→((Qva p (Qta i k l m)).length:Int)=sumI (l.map Qod)
|[],m,_=>by simp[Qta,Qva,sumI]
|s::r,m,h=>by
  unfold Qta
  have h0:=QUo hc (j:=m) ⟨hf,hb,by simpa using h 0 s rfl⟩
  have h1:=QAi hc hf hb r (m+1) (fun j s' hj=>by rw[show m+1+j=m+(j+1) by omega];exact h (j+1) s' (by simpa using hj))
  rw[Que,List.length_append,Int.natCast_add,h0,h1,List.map_cons,QGh]
theorem Qrh {p:List Qo}(hc:Ckd p){i:Nat}{f:Qo}(hf:p[i]? = some f):∀(l:List QI) (m:Nat),(∀k b,l[k]? = some b→f.blocks[m+k]? = some b)→((Qva p (Qca i l m)).length:Int)=sumI ((l.map QI.stmts).flatten.map Qod)
|[],m,_=>by simp[Qca,Qva,sumI]
|b::r,m,h=>by
  unfold Qca
  have h0:=QAi hc hf (by simpa using h 0 b rfl:f.blocks[m]? = some b) b.stmts 0 (fun j s hj=>by simpa using hj)
  have h1:=Qrh hc hf r (m+1) (fun j s' hj=>by rw[show m+1+j=m+(j+1) by omega];exact h (j+1) s' (by simpa using hj))
  rw[Que,List.length_append,Int.natCast_add,h0,h1,List.map_cons,List.flatten_cons,List.map_append,QVe]
theorem QBi {p:List Qo}(hc:Ckd p):∀(l:List Qo) (m:Nat),(∀k f,l[k]? = some f→p[m+k]? = some f)→((Qva p (QB l m)).length:Int)=l.length+sumI ((QH l).map Qod)
|[],m,_=>by simp[QB,Qva,sumI,QH]
|f::r,m,h=>by
  unfold QB
  have h0:=Qrh hc (by simpa using h 0 f rfl:p[m]? = some f) f.blocks 0 (fun j s hj=>by simpa using hj)
  have h1:=QBi hc r (m+1) (fun j s' hj=>by rw[show m+1+j=m+(j+1) by omega];exact h (j+1) s' (by simpa using hj))
  have e1:QU p ⟨1,(m:Nat),-1,-1⟩=[(⟨1,(m:Nat),-1,-1⟩,⟨3,(m:Nat),0,0⟩)]:=by simp[QU]
  have e2:Qva p [(⟨2,(m:Nat),-1,-1⟩:Qx)]=[]:=by simp[Qva,QU]
  have e3:QH (f::r)=(f.blocks.map QI.stmts).flatten++QH r:=rfl
  unfold Qcf
  rw[Que,QOe,Que,e1,e2,List.append_nil,List.length_append,List.length_append,Int.natCast_add,Int.natCast_add,h0,h1,e3,List.map_append,QVe,List.length_cons]
  simp only[List.length_cons,List.length_nil]
  omega
theorem QVm {p:List Qo}(hc:Ckd p):((Qva p (QB p 0)).length:Int)=QNd p:=by
 rw[QBi hc p 0 (fun k f h=>by simpa using h)];unfold QNd;rw[if_pos hc.valid]
theorem Qri (i k:Nat):∀(l:List QD) (m:Nat),((Qta i k l m).length:Int)=sumI (l.map QHd)
|[],m=>by simp[Qta,sumI]
|s::r,m=>by
  unfold Qta
  rw[List.length_append,Int.natCast_add,Qri i k r (m+1),List.map_cons,QGh]
  congr 1
  unfold QWe QHd
  by_cases h:s.op=3 <;> simp[h]
theorem Qfh (i:Nat):∀(l:List QI) (m:Nat),((Qca i l m).length:Int)=sumI ((l.map QI.stmts).flatten.map QHd)
|[],m=>by simp[Qca,sumI]
|s::r,m=>by
  unfold Qca
  rw[List.length_append,Int.natCast_add,Qri,Qfh i r (m+1),List.map_cons,List.flatten_cons,List.map_append,QVe]
theorem Qsi:∀(l:List Qo) (m:Nat),((QB l m).length:Int)=2*l.length+sumI ((QH l).map QHd)
|[],m=>by simp[QB,sumI,QH]
|f::r,m=>by
  unfold QB Qcf
  have e3:QH (f::r)=(f.blocks.map QI.stmts).flatten++QH r:=rfl
  rw[List.length_append,List.length_cons,List.length_append,e3,List.map_append,QVe]
  have h1:=Qfh m f.blocks 0
  have h2:=Qsi r (m+1)
  simp only[List.length_cons,List.length_nil]
  omega
theorem Qpm {p:List Qo}(hc:Ckd p):((QB p 0).length:Int)=QMd p:=by
 rw[Qsi];unfold QMd;rw[if_pos hc.valid]
theorem Qne {p:List Qo}(h:QFa p=0):QR p=QB p 0:=by unfold QR;rw[if_pos h]
theorem Qme {p:List Qo}:(QR p).length≤256:=by
 unfold QR
 split
 ·rename_i h;have hc:=Qzb h;have:=Qpm hc;have:=hc.nodes;omega
 ·simp
def Qle (n:Nat)(g:Nat→Nat→Bool):Nat→List (Nat×Nat)
|0=>[]
|i+1=>Qle n g i++((List.range n).filter (g i)).map fun j=>(i,j)
theorem Qoe {n:Nat}{g:Nat→Nat→Bool}{a b:Nat}:∀{k:Nat},(a,b)∈Qle n g k↔a<k∧b<n∧g a b=true
|0=>by simp[Qle]
|k+1=>by
  unfold Qle
  rw[List.mem_append,Qoe]
  simp only[List.mem_map,List.mem_filter,List.mem_range,Prod.mk.injEq]
  constructor
  ·rintro(⟨h1,h2⟩|⟨j,⟨h1,h2⟩,rfl,rfl⟩)
   ·exact⟨by omega,h2⟩
   ·exact⟨by omega,h1,h2⟩
  ·rintro⟨h1,h2,h3⟩
   by_cases e:a=k
   ·subst e;exact .inr ⟨b,⟨h2,h3⟩,rfl,rfl⟩
   ·exact .inl ⟨by omega,h2,h3⟩
theorem Qeh (n:Nat)(g:Nat→Nat→Bool):∀k,(Qle n g k).Nodup
|0=>List.nodup_nil
|k+1=>by
  unfold Qle
  refine List.nodup_append.2 ⟨Qeh n g k,?_,?_⟩
  ·refine List.Pairwise.map (R:=(·≠·)) _ (fun a b h e=>h (by injection e)) ?_
   exact(List.nodup_range).sublist List.filter_sublist
  ·intro a ha b hb e
   subst e
   obtain⟨x,y⟩:=a
   have h1:=(Qoe.1 ha).1
   simp only[List.mem_map,Prod.mk.injEq] at hb
   obtain⟨j,_,h2,_⟩:=hb
   omega
theorem Qwg (n:Nat)(g:Nat→Nat→Bool):∀k,((Qle n g k).length:Int)=sumI ((List.range k).map fun i=>((rowF n (g i)).length:Int))
|0=>by simp[Qle,sumI]
|k+1=>by
  unfold Qle
  rw[List.length_append,Int.natCast_add,Qwg n g k,List.range_succ,List.map_append,QVe]
  congr 1
  simp[sumI,rowF]
theorem Qmi {p:List Qo}(h:QFa p=0):sumI ((Qkc p).map fun l=>(l.length:Int))≤1024∧sumI ((Qmc p).map fun l=>(l.length:Int))≤1024:=by
 have hc:=Qzb h;have hl:=Qne h;have hn:(QB p 0).Nodup:=QIe p 0;obtain⟨l,hl2⟩:=Ze (QB p 0);have key:∀(q:Nat→Nat→Nat×Nat),(∀a b c d,q a b=q c d→a=c∧b=d)→(Qle l.length (fun i j=>Qve p l (q i j).1 (q i j).2) l.length).length≤(Qva p l).length:=fun q hq=>by
  have h1:=QGf (a:=(Qle l.length (fun i j=>Qve p l (q i j).1 (q i j).2) l.length).map fun x=>((l[(q x.1 x.2).1]?).getD ⟨0,0,0,0⟩,(l[(q x.1 x.2).2]?).getD ⟨0,0,0,0⟩)) (b:=Qva p l) ?_ ?_
  ·rwa [List.length_map] at h1
  ·refine List.pairwise_map.2 ((Qeh _ _ _).imp_of_mem ?_);rintro⟨a,b⟩ ⟨c,d⟩ ha hb hne e;have ha:=(Qoe.1 ha).2.2;have hb:=(Qoe.1 hb).2.2;unfold Qve at ha hb
   split at ha
   ·rename_i n m h1 h2
    split at hb
    ·rename_i n' m' h3 h4;simp only[h1,h2,h3,h4,Option.getD_some,Prod.mk.injEq] at e;obtain⟨rfl,rfl⟩:=e;rw[hl2] at hn;have i1:=(List.getElem?_inj (List.getElem?_eq_some_iff.1 h1).1 hn).1 (h1.trans h3.symm);have i2:=(List.getElem?_inj (List.getElem?_eq_some_iff.1 h2).1 hn).1 (h2.trans h4.symm);have:=hq a b c d (Prod.ext i1 i2);exact hne (by rw[this.1,this.2])
    ·cases hb
   ·cases ha
  ·intro x hx;obtain⟨⟨a,b⟩,hx1,rfl⟩:=List.mem_map.1 hx;have hx:=(Qoe.1 hx1).2.2;unfold Qve at hx
   split at hx
   ·rename_i n m h1 h2;simp only[h1,h2,Option.getD_some];rw[←hl2];refine(Qsh hc n m).2 ⟨?_,by rw[hl2];simpa using hx⟩;rw[hl2];exact List.mem_of_getElem? h1
   ·cases hx
 have hE:=QVm hc;rw[hl2] at hE;have h3:=hc.edges;have k1:=key (fun i j=>(i,j)) (fun a b c d e=>by injection e with e1 e2;exact⟨e1,e2⟩);have k2:=key (fun i j=>(j,i)) (fun a b c d e=>by injection e with e1 e2;exact⟨e2,e1⟩);have p1:=Qwg l.length (fun i j=>Qve p l i j) l.length;have p2:=Qwg l.length (fun i j=>Qve p l j i) l.length;unfold Qkc Qmc QLl Qgm;rw[hl,hl2,List.map_map,List.map_map];simp only[] at k1 k2;refine⟨?_,?_⟩
 ·have:sumI (List.map ((fun l=>(l.length:Int)) ∘ fun i=>rowF l.length fun j=>Qve p l i j) (List.range l.length))=sumI ((List.range l.length).map fun i=>((rowF l.length (fun j=>Qve p l i j)).length:Int)):=rfl;rw[this,←p1];omega
 ·have:sumI (List.map ((fun l=>(l.length:Int)) ∘ fun j=>rowF l.length fun i=>Qve p l i j) (List.range l.length))=sumI ((List.range l.length).map fun i=>((rowF l.length (fun j=>Qve p l j i)).length:Int)):=rfl;rw[this,←p2];omega
end
section
variable [Base]
structure SysS where
 width:Int
 deps:List (List Int)
 trans:List Qw
 bnds:List QSet
deriving DecidableEq
structure WebS where
 width:Int
 bnds:List QSet
 arcs:List (List (Int×Qw))
deriving DecidableEq
def sysW (s:SysS):Prop:=(∀t∈s.trans,QSi t)∧∀b∈s.bnds,QLa b.words
def Qye (n:Int):Option Int→List Int→Bool
|_,[]=>true
|p,x::r=>((decide (0≤x)&&decide (x<n))&&(match p with|none=>true|some q=>decide (q<x)))&&Qye n (some x) r
def ascB (n:Int)(l:List Int):Bool:=Qye n none l
def QLd (w n:Int):Bool:=(decide (0≤w)&&decide (w≤256))&&(decide (1≤n)&&decide (n≤256))
def QDe (w:Int)(l:List QSet):Bool:=l.all fun s=>setB s&&decide (s.width=w)
def Qrc (w:Int)(t:Qw):Bool:=Qtd t&&decide (t.gen.width=w)
def lenI {α:Type}(l:List α):Int:=(l.length:Int)
def totI (l:List (List Int)):Int:=sumI (l.map lenI)
def sysB (s:SysS):Bool:=
 QLd s.width s.deps.length&&((decide (s.trans.length=s.deps.length)&&decide (s.bnds.length=s.deps.length))&&((s.deps.all (ascB s.deps.length)&&decide (totI s.deps≤1024))&&(QDe s.width s.bnds&&s.trans.all (Qrc s.width))))
def QIg (s:SysS):Int:=if sysB s then totI s.deps else 0
def QQu (s:SysS):WebS:=⟨s.width,s.bnds,s.deps.map fun l=>l.map fun m=>(m,(s.trans[m.toNat]?).getD ⟨⟨0,[]⟩,⟨0,[]⟩,[]⟩)⟩
def webT (s:SysS):WebS×Int:=if sysB s then (QQu s,0) else (⟨0,[],[]⟩,1)
def webB (w:WebS):Bool:=
 QLd w.width w.arcs.length&&((decide (w.bnds.length=w.arcs.length)&&QDe w.width w.bnds)&&((w.arcs.all fun l=>ascB w.arcs.length (l.map Prod.fst))&&(decide (totI (w.arcs.map fun l=>l.map Prod.fst)≤1024)&&w.arcs.all fun l=>l.all fun a=>Qrc w.width a.2)))
theorem Qci {n:Int}:∀{l:List Int} {p:Option Int},Qye n p l=true→∀c∈l,0≤c∧c<n
|[],_,_,c,hc=>by cases hc
|d::r,p,h,c,hc=>by
  unfold Qye at h
  simp only[Bool.and_eq_true,decide_eq_true_eq] at h
  rcases List.mem_cons.1 hc with rfl|hc
  ·exact h.1.1
  ·exact Qci h.2 c hc
theorem QTk {n:Int}:∀{l:List Int} {p:Option Int},Qye n p l=true→Asc l∧∀q,p=some q→∀x∈l,q<x
|[],_,_=>⟨List.Pairwise.nil,fun q _ x hx=>by cases hx⟩
|d::r,p,h=>by
  unfold Qye at h
  simp only[Bool.and_eq_true,decide_eq_true_eq] at h
  obtain⟨h1,h2⟩:=QTk h.2
  refine⟨List.pairwise_cons.2 ⟨fun x hx=>h2 d rfl x hx,h1⟩,fun q hq x hx=>?_⟩
  subst hq
  have h3:q<d:=by simpa using h.1.2
  rcases List.mem_cons.1 hx with rfl|hx
  ·exact h3
  ·have:=h2 d rfl x hx;omega
theorem QQj {n:Int}:∀{l:List Int} {p:Option Int},Asc l→(∀x∈l,0≤x∧x<n)→(∀q,p=some q→∀x∈l,q<x)→Qye n p l=true
|[],_,_,_,_=>by simp[Qye]
|d::r,p,h1,h2,h3=>by
  obtain⟨h4,h5⟩:=List.pairwise_cons.1 h1
  unfold Qye
  simp only[Bool.and_eq_true,decide_eq_true_eq]
  refine⟨⟨h2 d ZS,?_⟩,QQj h5 (fun x hx=>h2 x (List.mem_cons_of_mem _ hx)) (fun q hq x hx=>by cases hq;exact h4 x hx)⟩
  cases p with
 |none=>rfl
 |some q=>simpa using h3 q rfl d ZS
theorem QYp {n:Nat}{l:List Int}(h:ascB n l=true):l.length≤n:=by
 have h1:=(QTk h).1;have h2:=Qci h;have h3:=QGf (a:=l) (b:=(List.range n).map fun k:Nat=>(k:Int)) (h1.imp fun {a b} h=>by omega) (fun x hx=>by
  have:=h2 x hx;exact List.mem_map.2 ⟨x.toNat,List.mem_range.2 ZO,by omega⟩)
 simpa using h3
theorem Qqk (n:Nat)(f:Nat→Bool):ascB n (rowF n f)=true:=
 QQj (Qzh n f) (fun x hx=>by obtain⟨k,rfl,h,_⟩:=Qih.1 hx;omega) (fun q hq=>by cases hq)
structure QSd (n m:Nat)(s:SysS):Prop where
 width:s.width=m
 wle:m≤256
 n1:1≤n
 nle:n≤256
 deps:s.deps.length=n
 trans:s.trans.length=n
 bnds:s.bnds.length=n
 asc:∀l∈s.deps,ascB n l=true
 tot:totI s.deps≤1024
 okB:∀b∈s.bnds,Ok m b
 okT:∀t∈s.trans,OkT m t
theorem QDr {s:SysS}(h:sysB s=true)(hw:sysW s):∃n m,QSd n m s:=by
 unfold sysB QLd QDe Qrc at h;simp only[Bool.and_eq_true,decide_eq_true_eq,List.all_eq_true] at h;obtain⟨⟨⟨w0,w1⟩,n1,n2⟩,⟨h1,h2⟩,⟨h3,h4⟩,h5,h6⟩:=h;obtain⟨m,hm⟩:=Int.eq_ofNat_of_zero_le w0;refine⟨s.deps.length,m,hm,by omega,by omega,by omega,rfl,h1,h2,h3,h4,fun b hb=>?_,fun t ht=>?_⟩
 ·obtain⟨k1,k2⟩:=h5 b hb;obtain⟨k,e,hk⟩:=Qcj k1 (hw.2 b hb);have:k=m:=by omega
  exact this▸hk
 ·obtain⟨k1,k2⟩:=h6 t ht;obtain⟨k,e,hk⟩:=QRi k1 (hw.1 t ht);have:k=m:=by omega
  exact this▸hk
theorem QSd.b {n m:Nat}{s:SysS}(h:QSd n m s):sysB s=true:=by
 unfold sysB QLd QDe Qrc;simp only[Bool.and_eq_true,decide_eq_true_eq,List.all_eq_true];have h1:=h.wle;have h2:=h.n1;have h3:=h.nle;have h4:=h.width;have h5:=h.deps;refine⟨⟨⟨by omega,by omega⟩,by omega,by omega⟩,⟨by rw[h.trans,h5],by rw[h.bnds,h5]⟩,⟨fun l hl=>by rw[h5];exact h.asc l hl,h.tot⟩,fun b hb=>⟨(h.okB b hb).ok,by rw[(h.okB b hb).width,h4]⟩,fun t ht=>⟨(h.okT t ht).b,by rw[(h.okT t ht).gen.width,h4]⟩⟩
end
section
variable [Base]
def Qyf (l:List Qra)(b:Nat):Int:=((l[b]?).getD ⟨0,-2⟩).var
def Qxc (l:List Qra)(b:Nat):Int:=((l[b]?).getD ⟨-2,0⟩).node
def kilF (vars:List Str)(l:List Qra)(s:QD)(b:Nat):Bool:=dfnB s.op&&decide (Qyf l b=idxI vars s.dfn)
def genF (vars:List Str)(l:List Qra)(kind:Int)(i:Nat)(s:QD)(b:Nat):Bool:=
 if kind=2 then s.uses.any fun u=>decide (idxI vars u=(b:Int))
 else if kind=1 then dfnB s.op&&decide (Qxc l b=(i:Int))
 else if kind=3 then decide (s.op=4)&&decide (Qyf l b=idxI vars s.dfn)
 else false
def copF (vars:List Str)(kind:Int)(s:QD):List Cp:=
 if (kind=3∨kind=4)∧s.op=1 then ((List.range vars.length).filter fun u=>s.uses.contains ((vars[u]?).getD [])).map fun u:Nat=>((u:Int),idxI vars s.dfn) else []
def rawT (vars:List Str)(l:List Qra)(kind:Int)(i:Nat)(s:QD):Qw:=⟨mkS l.length (genF vars l kind i s),mkS l.length (kilF vars l s),copF vars kind s⟩
def Qie:QD:=⟨0,[],[],[]⟩
def Qkk (p:List Qo)(n:Qx):QD:=if n.kind=3 then Qec p n else Qie
def QZe (p:List Qo)(kind:Int)(i:Nat)(n:Qx):Qw:=Qlb (rawT (QN p) (QC p kind) kind i (Qkk p n)) (QC p kind).length
def bndT (p:List Qo)(kind:Int)(i:Nat):QSet:=if kind=4∧i=0 then QMb (QC p kind).length (QC p kind).length else Qy (QC p kind).length
def QZc (p:List Qo)(kind:Int):SysS:=
 ⟨(QC p kind).length,if kind=2 then Qkc p else Qmc p,(QR p).mapIdx (QZe p kind),(QR p).mapIdx fun i _=>bndT p kind i⟩
def ofT (p:List Qo)(kind:Int):SysS×Int:=if Qxb p kind=0 then (QZc p kind,0) else (⟨0,[],[],[]⟩,Qxb p kind)
theorem Qkb {p:List Qo}{kind:Int}(h:Qxb p kind=0):QFa p=0∧1≤kind∧kind≤4∧QC p kind=QBc p kind∧(QC p kind).length≤256:=by
 have h0:=h;unfold Qxb at h
 split at h
 ·rename_i h1;exact absurd h h1
 rename_i h1
 split at h
 ·cases h
 split at h
 ·cases h
 have e:QC p kind=QBc p kind:=by unfold QC;rw[if_pos h0]
 exact⟨by omega,by omega,by omega,e,by rw[e];omega⟩
theorem Qtf {p:List Qo}{kind:Int}(h:Qxb p kind=0)(hk:kind≠1):QC p kind=(List.range (QN p).length).map fun v:Nat=>(⟨-1,(v:Int)⟩:Qra):=by
 rw[(Qkb h).2.2.2.1];unfold QBc;rw[if_neg hk]
theorem QQi {p:List Qo}{kind:Int}(h:Qxb p kind=0)(hk:kind≠1){b:Nat}(hb:b<(QN p).length):Qyf (QC p kind) b=b:=by
 unfold Qyf;rw[Qtf h hk,List.getElem?_map,List.getElem?_range hb];rfl
theorem Qes {out:List Str}{n x:Str}:x∈Qfc out n↔x∈out∨(x=n∧n≠[]):=by
 unfold Qfc
 split
 ·rename_i h;simp only[Bool.or_eq_true,List.isEmpty_iff,List.contains_iff_mem] at h;constructor
  ·exact .inl
  ·rintro(h1|⟨rfl,h1⟩)
   ·exact h1
   ·rcases h with h|h
    ·exact absurd h h1
    ·exact h
 ·rename_i h;simp only[Bool.or_eq_true,List.isEmpty_iff,List.contains_iff_mem,not_or] at h;rw[List.mem_append,List.mem_singleton];constructor
  ·rintro(h1|rfl)
   ·exact .inl h1
   ·exact .inr ⟨rfl,h.1⟩
  ·rintro(h1|⟨rfl,_⟩)
   ·exact .inl h1
   ·exact .inr rfl
theorem Qdo {out:List Str}{n:Str}(h:out.Nodup):(Qfc out n).Nodup:=by
 unfold Qfc
 split
 ·exact h
 ·rename_i hn;simp only[Bool.or_eq_true,List.isEmpty_iff,List.contains_iff_mem,not_or] at hn;exact List.nodup_append.2 ⟨h,by simp,fun a ha b hb e=>by simp at hb;subst hb;exact hn.2 (e▸ha)⟩
theorem Qtk {x:Str}:∀{l:List Str} {out:List Str},x∈l.foldl Qfc out↔x∈out∨(x∈l∧x≠[])
|[],out=>by simp
|n::r,out=>by
  rw[List.foldl_cons,Qtk,Qes,List.mem_cons]
  constructor
  ·rintro((h|⟨rfl,h⟩)|⟨h1,h2⟩)
   ·exact .inl h
   ·exact .inr ⟨.inl rfl,h⟩
   ·exact .inr ⟨.inr h1,h2⟩
  ·rintro(h|⟨rfl|h1,h2⟩)
   ·exact .inl (.inl h)
   ·exact .inl (.inr ⟨rfl,h2⟩)
   ·exact .inr ⟨h1,h2⟩
theorem Qqi:∀{l:List Str} {out:List Str},out.Nodup→(l.foldl Qfc out).Nodup
|[],_,h=>h
|n::r,out,h=>by rw[List.foldl_cons];exact Qqi (Qdo h)
theorem Qoj {x:Str}:∀{l:List QD} {out:List Str},x∈l.foldl QYe out↔x∈out∨∃s∈l,x∈s.dfn::s.uses∧x≠[]
|[],out=>by simp
|n::r,out=>by
  rw[List.foldl_cons,Qoj]
  unfold QYe
  rw[Qtk]
  constructor
  ·rintro((h|h)|⟨s,h1,h2⟩)
   ·exact .inl h
   ·exact .inr ⟨n,by simp,h⟩
   ·exact .inr ⟨s,List.mem_cons_of_mem _ h1,h2⟩
  ·rintro(h|⟨s,h1,h2⟩)
   ·exact .inl (.inl h)
   ·rcases List.mem_cons.1 h1 with rfl|h1
    ·exact .inl (.inr h2)
    ·exact .inr ⟨s,h1,h2⟩
theorem Qch:∀{l:List QD} {out:List Str},out.Nodup→(l.foldl QYe out).Nodup
|[],_,h=>h
|n::r,out,h=>by rw[List.foldl_cons];exact Qch (Qqi h)
theorem Qwn (p:List Qo):(QN p).Nodup:=by
 unfold QN
 split
 ·exact Qch List.nodup_nil
 ·exact List.nodup_nil
theorem QFl {p:List Qo}(hv:QMa p=true){x:Str}:x∈QN p↔∃s∈QH p,x∈s.dfn::s.uses∧x≠[]:=by
 unfold QN;rw[if_pos hv,Qoj];simp
theorem At.mem {p:List Qo}{i k j:Nat}{f:Qo}{b:QI}{s:QD}(h:At p i k j f b s):s∈QH p:=by
 unfold QH;simp only[List.mem_flatten,List.mem_map];exact⟨_,⟨f,h.fm,rfl⟩,by simp only[List.mem_flatten,List.mem_map];exact⟨_,⟨b,h.bm,rfl⟩,h.sm⟩⟩
theorem Qvm {x:Str}(h:QV x=true):x≠[]:=by
 rintro rfl;unfold QV QGg at h;simp at h
theorem Qje {s:QD}(h:stmtB s=true):(∀u∈s.uses,QV u=true)∧s.uses.length≤4:=by
 unfold stmtB Qjl at h;simp only[Bool.and_eq_true,List.all_eq_true,decide_eq_true_eq] at h;exact⟨h.1.1,by omega⟩
theorem Ckd.uses {p:List Qo}(hc:Ckd p){i k j:Nat}{f:Qo}{b:QI}{s:QD}(h:At p i k j f b s):∀u∈s.uses,u∈QN p:=fun u hu=>
 (QFl hc.valid).2 ⟨s,h.mem,List.mem_cons_of_mem _ hu,Qvm ((Qje (hc.at_ h).1).1 u hu)⟩
theorem Qnq {s:QD}(h:stmtB s=true)(hd:dfnB s.op=true):QV s.dfn=true:=by
 unfold stmtB opB at h;unfold dfnB at hd;simp only[Bool.and_eq_true] at h;have h4:=h.2.2;simp only[Bool.or_eq_true,beq_iff_eq] at hd;rcases hd with(e|e)|e <;> rw[e] at h4 <;> simp at h4 <;> exact h4.1
theorem Ckd.dfn {p:List Qo}(hc:Ckd p){i k j:Nat}{f:Qo}{b:QI}{s:QD}(h:At p i k j f b s)(hd:dfnB s.op=true):s.dfn∈QN p:=
 (QFl hc.valid).2 ⟨s,h.mem,by simp,Qvm (Qnq (hc.at_ h).1 hd)⟩
def QGa (l:List Qra)(v:Int):List Int:=rowF l.length fun i=>decide (Qyf l i=v)
theorem QJe {l:List Qra}{v x:Int}:x∈QGa l v↔∃k:Nat,x=k∧k<l.length∧Qyf l k=v:=by
 unfold QGa;rw[Qih];simp
theorem QBp {m:Nat}:∀(l:List Int) (s:QSet),(∀x∈l,0≤x∧x<m)→Ok m s→∃r,ofGo m l s=(r,0)∧Ok m r∧∀b,b<m→QE r.words b=(QE s.words b||decide ((b:Int)∈l))
|[],s,_,hs=>⟨s,rfl,hs,fun b _=>by simp⟩
|x::r,s,hl,hs=>by
  have hx:=hl x ZS
  unfold ofGo
  rw[if_neg ZO]
  obtain⟨k1,k2⟩:=hs.put (k:=x.toNat) ZO
  obtain⟨q,h1,h2,h3⟩:=QBp r (putS s x.toNat) (fun y hy=>hl y (List.mem_cons_of_mem _ hy)) k1
  refine⟨q,h1,h2,fun b hb=>?_⟩
  rw[h3 b hb,k2]
  rw[Bool.eq_iff_iff]
  simp only[Bool.or_eq_true,decide_eq_true_eq,List.mem_cons]
  constructor
  ·rintro((h|h)|h)
   ·exact .inl h
   ·exact .inr (.inl ZO)
   ·exact .inr (.inr h)
  ·rintro(h|h|h)
   ·exact .inl (.inl h)
   ·exact .inl (.inr ZO)
   ·exact .inr h
theorem Qbs {m:Nat}(hm:m≤256){l:List Int}(hl:∀x∈l,0≤x∧x<m):ofS (m:Int) l=(mkS m fun b=>decide ((b:Int)∈l),0):=by
 obtain⟨r,h1,h2,h3⟩:=QBp l (Qy m) hl (QOb hm);unfold ofS;rw[if_pos ZO];have:(m:Int).toNat=m:=by simp
 rw[this,h1]
 congr 1
 refine h2.ext (QIb _ hm) fun b=>?_
 rw[Qpb _ hm];by_cases hb:b<m
 ·rw[h3 b hb,QNb];simp[hb]
 ·rw[h2.tail (Nat.le_of_not_lt hb)];simp[hb]
end
section
variable [Base]
def useB (op:Int):Bool:=op==1||op==2||op==5||op==8
def ownF (l:List Qra)(i:Nat):Int:=match (List.range l.length).find? (fun b=>decide (Qxc l b=(i:Int))) with|some b=>(b:Int)|none=>-1
def Qgg (vars:List Str)(l:List Qra)(kind:Int)(i:Nat)(s:QD):List Int:=
 (if kind=1∧dfnB s.op=true then [ownF l i] else [])++((if kind=3∧s.op=4 then QGa l (idxI vars s.dfn) else [])++(if kind=2∧useB s.op=true then (s.uses.map fun u=>QGa l (idxI vars u)).flatten else []))
def QQh (vars:List Str)(l:List Qra)(s:QD):List Int:=if dfnB s.op=true then QGa l (idxI vars s.dfn) else []
def QTe (vars:List Str)(l:List Qra)(kind:Int)(s:QD):List Cp:=
 if (kind=3∨kind=4)∧s.op=1 then s.uses.map fun u=>((QGa l (idxI vars u)).headD 0,(QGa l (idxI vars s.dfn)).headD 0) else []
def Qxa:List Cp→List Cp
|[]=>[]
|c::r=>match r with
 |[]=>[c]
 |d::_=>if c=d then Qxa r else c::Qxa r
theorem QRp {vars:List Str}{p:List Qo}:∀{ns:List Qx} {i:Nat} {f:Qra},f∈QUa vars p ns i→(i:Int)≤f.node
|[],_,_,h=>by cases h
|n::r,i,f,h=>by
  unfold QUa at h
  rcases List.mem_append.1 h with h|h
  ·split at h
   ·split at h
    ·split at h
     ·simp at h;subst h;simp
     ·cases h
    ·cases h
   ·cases h
  ·have:=QRp h;omega
theorem QZm {vars:List Str}{p:List Qo}:∀(ns:List Qx) (i:Nat),(QUa vars p ns i).Pairwise fun a b=>a.node<b.node
|[],_=>List.Pairwise.nil
|n::r,i=>by
  unfold QUa
  refine List.pairwise_append.2 ⟨?_,QZm r (i+1),?_⟩
  ·split
   ·split
    ·split <;> simp
    ·simp
   ·simp
  ·intro a ha b hb
   have h1:=QRp hb
   split at ha
   ·split at ha
    ·split at ha
     ·simp at ha;subst ha;simp;omega
     ·cases ha
    ·cases ha
   ·cases ha
theorem QYm {vars:List Str}{p:List Qo}{f:Qra}:∀{ns:List Qx} {i:Nat},f∈QUa vars p ns i↔∃k n s,ns[k]? = some n∧n.kind=3∧QFd p n=some s∧dfnB s.op=true∧f=⟨((i+k:Nat):Int),idxI vars s.dfn⟩
|[],i=>by simp[QUa]
|n::r,i=>by
  unfold QUa
  rw[List.mem_append,QYm]
  constructor
  ·rintro(h|⟨k,m,s,h1,h2,h3,h4,h5⟩)
   ·split at h
    ·rename_i hk
     split at h
     ·rename_i s hs
      split at h
      ·rename_i hd
       simp at h
       exact⟨0,n,s,rfl,hk,hs,hd,by simpa using h⟩
      ·cases h
     ·cases h
    ·cases h
   ·exact⟨k+1,m,s,by simpa using h1,h2,h3,h4,by rw[h5,show i+1+k=i+(k+1) by omega]⟩
  ·rintro⟨k,m,s,h1,h2,h3,h4,h5⟩
   cases k with
  |zero=>
    simp at h1
    subst h1
    left
    rw[if_pos h2,h3]
    simp only[h4,if_true]
    simpa using h5
  |succ k=>exact .inr ⟨k,m,s,by simpa using h1,h2,h3,h4,by rw[h5,show i+1+k=i+(k+1) by omega]⟩
structure QOd (p:List Qo)(i:Nat)(n:Qx)(s:QD):Prop where
 ck:QFa p=0
 at_:(QR p)[i]? = some n
 k3:n.kind=3
 st:∃a k j f b,n=⟨3,(a:Nat),(k:Nat),(j:Nat)⟩∧At p a k j f b s
theorem QCp {p:List Qo}(h:QFa p=0){i:Nat}{n:Qx}(hi:(QR p)[i]? = some n)(h3:n.kind=3):QOd p i n (Qec p n)∧QFd p n=some (Qec p n):=by
 have hm:n∈QB p 0:=by rw[←Qne h];exact List.mem_of_getElem? hi
 obtain⟨a,f,hf,hk⟩:=QLb.1 hm;rcases hk with rfl|rfl|⟨k,b,j,s,hb,hs,rfl|⟨_,rfl⟩⟩
 ·simp at h3
 ·simp at h3
 ·have hA:At p a k j f b s:=⟨hf,hb,hs⟩;rw[hA.d 3];refine⟨⟨h,hi,rfl,a,k,j,f,b,rfl,hA⟩,?_⟩;unfold QFd;simp[hf,hb,hs]
 ·simp at h3
theorem QOd.stmtB {p:List Qo}{i:Nat}{n:Qx}{s:QD}(h:QOd p i n s):stmtB s=true:=by
 obtain⟨a,k,j,f,b,-,hA⟩:=h.st;exact((Qzb h.ck).at_ hA).1
theorem QOd.uses {p:List Qo}{i:Nat}{n:Qx}{s:QD}(h:QOd p i n s):∀u∈s.uses,u∈QN p:=by
 obtain⟨a,k,j,f,b,-,hA⟩:=h.st;exact(Qzb h.ck).uses hA
theorem QOd.dfn {p:List Qo}{i:Nat}{n:Qx}{s:QD}(h:QOd p i n s)(hd:dfnB s.op=true):s.dfn∈QN p:=by
 obtain⟨a,k,j,f,b,-,hA⟩:=h.st;exact(Qzb h.ck).dfn hA hd
theorem QGr {s:QD}(h:stmtB s=true)(hu:s.uses≠[]):useB s.op=true:=by
 unfold stmtB opB at h;simp only[Bool.and_eq_true] at h;have h4:=h.2.2;have hl:0<s.uses.length:=List.length_pos_iff.2 hu;unfold useB;simp only[Bool.or_eq_true,beq_iff_eq]
 split at h4
 ·omega
 split at h4
 ·omega
 split at h4
 ·omega
 split at h4
 ·simp only[Bool.and_eq_true,decide_eq_true_eq] at h4;omega
 split at h4
 ·simp only[Bool.and_eq_true,decide_eq_true_eq] at h4;omega
 split at h4
 ·omega
 split at h4
 ·simp only[Bool.and_eq_true,decide_eq_true_eq] at h4;omega
 ·cases h4
theorem Qac {p:List Qo}{kind:Int}(h:Qxb p kind=0)(hk:kind≠1){x:Str}(hx:x∈QN p):QGa (QC p kind) (idxI (QN p) x)=[idxI (QN p) x]:=by
 obtain⟨k,e,hk2⟩:=Qgc hx;have hlt:=(List.getElem?_eq_some_iff.1 hk2).1;have hlen:(QC p kind).length=(QN p).length:=by rw[Qtf h hk];simp
 refine QIi (Qzh _ _) (List.pairwise_singleton _ _) fun y=>?_
 rw[e];show y∈QGa _ _↔_;rw[QJe,List.mem_singleton];constructor
 ·rintro⟨b,rfl,h1,h2⟩;rw[QQi h hk ZO] at h2;exact h2
 ·rintro rfl;exact⟨k,rfl,by omega,QQi h hk hlt⟩
theorem QFq {p:List Qo}(h:Qxb p 1=0){i:Nat}{n:Qx}{s:QD}(hn:QOd p i n s)(hs:QFd p n=some s)(hd:dfnB s.op=true):
  ∃b:Nat,ownF (QC p 1) i=b∧b<(QC p 1).length∧∀c,c<(QC p 1).length→(Qxc (QC p 1) c=(i:Int)↔c=b):=by
 have e:QC p 1=QUa (QN p) p (QR p) 0:=by
  rw[(Qkb h).2.2.2.1];unfold QBc;rw[if_pos rfl]
 have hm:(⟨(i:Int),idxI (QN p) s.dfn⟩:Qra)∈QC p 1:=by
  rw[e];exact QYm.2 ⟨i,n,s,hn.at_,hn.k3,hs,hd,by simp⟩
 obtain⟨b,hb,hb2⟩:=List.mem_iff_getElem.1 hm;have hnode:∀c (hc:c<(QC p 1).length),Qxc (QC p 1) c=((QC p 1)[c]).node:=fun c hc=>by unfold Qxc;rw[List.getElem?_eq_getElem hc];rfl
 have huniq:∀c,c<(QC p 1).length→(Qxc (QC p 1) c=(i:Int)↔c=b):=fun c hc=>by
  rw[hnode c hc];constructor
  ·intro h1;have hp:(QC p 1).Pairwise fun a b=>a.node<b.node:=by rw[e];exact QZm _ _
   rcases Nat.lt_trichotomy c b with h2|h2|h2
   ·have:=List.pairwise_iff_getElem.1 hp c b hc hb h2;rw[hb2,h1] at this;simp at this
   ·exact h2
   ·have:=List.pairwise_iff_getElem.1 hp b c hb hc h2;rw[hb2,h1] at this;simp at this
  ·rintro rfl;rw[hb2]
 refine⟨b,?_,hb,huniq⟩;unfold ownF;have hf:(List.range (QC p 1).length).find? (fun c=>decide (Qxc (QC p 1) c=(i:Int)))=some b:=by
  rw[List.find?_range_eq_some];refine⟨by simpa using (huniq b hb).2 rfl,by simpa using hb,fun j hj=>?_⟩;have hj2:j<(QC p 1).length:=by omega
  have:¬Qxc (QC p 1) j=(i:Int):=fun h1=>by have:=(huniq j hj2).1 h1;omega
  simpa using this
 rw[hf]
theorem QHg {l:List Qra}{v x:Int}(h:x∈QGa l v):0≤x∧x<l.length:=by
 obtain⟨k,rfl,h1,_⟩:=QJe.1 h;omega
theorem Qdr {p:List Qo}{kind:Int}(h:Qxb p kind=0){i:Nat}{n:Qx}{s:QD}(hn:QOd p i n s)(hs:QFd p n=some s):
  (∀x∈Qgg (QN p) (QC p kind) kind i s,0≤x∧x<((QC p kind).length:Int))∧∀b,b<(QC p kind).length→decide ((b:Int)∈Qgg (QN p) (QC p kind) kind i s)=genF (QN p) (QC p kind) kind i s b:=by
 have h14:=Qkb h;by_cases k1:kind=1
 ·subst k1;unfold Qgg genF;simp only[reduceCtorEq,Int.reduceEq,false_and,if_false,true_and,List.nil_append,List.append_nil,if_true];by_cases hd:dfnB s.op=true
  ·obtain⟨c,e,hc,hu⟩:=QFq h hn hs hd;rw[if_pos hd,e];refine⟨fun x hx=>by simp at hx;omega,fun b hb=>?_⟩;rw[hd,Bool.eq_iff_iff];simp only[List.append_nil,List.mem_singleton,decide_eq_true_eq,Bool.true_and];rw[hu b hb];omega
  ·rw[if_neg hd];refine⟨fun x hx=>by simp at hx,fun b hb=>?_⟩;simp[hd]
 by_cases k2:kind=2
 ·subst k2;unfold Qgg genF;simp only[reduceCtorEq,Int.reduceEq,false_and,if_false,true_and,List.nil_append,List.append_nil,if_true];have hfl:∀x:Int,x∈(s.uses.map fun u=>QGa (QC p 2) (idxI (QN p) u)).flatten↔∃u∈s.uses,x=idxI (QN p) u:=fun x=>by
   simp only[List.mem_flatten,List.mem_map];constructor
   ·rintro⟨_,⟨u,hu,rfl⟩,hx⟩;rw[Qac h ZD (hn.uses u hu)] at hx;exact⟨u,hu,by simpa using hx⟩
   ·rintro⟨u,hu,rfl⟩;exact⟨_,⟨u,hu,rfl⟩,by rw[Qac h ZD (hn.uses u hu)];simp⟩
  have hlen:(QC p 2).length=(QN p).length:=by rw[Qtf h ZD];simp
  have hin:∀u∈s.uses,0≤idxI (QN p) u∧idxI (QN p) u<((QC p 2).length:Int):=fun u hu=>by
   obtain⟨q,e,hq⟩:=Qgc (hn.uses u hu);have:=(List.getElem?_eq_some_iff.1 hq).1;omega
  by_cases hu:s.uses=[]
  ·rw[hu]
   split <;> exact⟨fun x hx=>by simp at hx,fun b hb=>by simp⟩
  ·rw[if_pos (QGr hn.stmtB hu)];refine⟨fun x hx=>?_,fun b hb=>?_⟩
   ·obtain⟨u,hu,rfl⟩:=(hfl x).1 hx;exact hin u hu
   ·rw[Bool.eq_iff_iff];simp only[decide_eq_true_eq,List.any_eq_true,hfl];constructor
    ·rintro⟨u,hu,e⟩;exact⟨u,hu,e.symm⟩
    ·rintro⟨u,hu,e⟩;exact⟨u,hu,e.symm⟩
 by_cases k3:kind=3
 ·subst k3;unfold Qgg genF;simp only[reduceCtorEq,Int.reduceEq,false_and,if_false,true_and,List.nil_append,List.append_nil,if_true];by_cases h4:s.op=4
  ·rw[if_pos h4];refine⟨fun x hx=>QHg hx,fun b hb=>?_⟩;rw[Bool.eq_iff_iff];simp only[decide_eq_true_eq,QJe,h4,Bool.and_eq_true,true_and];constructor
   ·rintro⟨k,e,_,h2⟩;obtain rfl:b=k:=by omega
    exact h2
   ·intro h2;exact⟨b,rfl,hb,h2⟩
  ·rw[if_neg h4];refine⟨fun x hx=>by simp at hx,fun b hb=>by simp[h4]⟩
 ·have k4:kind=4:=by omega
  subst k4;unfold Qgg genF;simp only[reduceCtorEq,Int.reduceEq,false_and,if_false,true_and,List.nil_append,List.append_nil,if_true];exact⟨fun x hx=>by simp at hx,fun b hb=>by simp⟩
theorem Qmo {vars:List Str}{l:List Qra}{s:QD}:(∀x∈QQh vars l s,0≤x∧x<(l.length:Int))∧∀b,b<l.length→decide ((b:Int)∈QQh vars l s)=kilF vars l s b:=by
 unfold QQh kilF;by_cases hd:dfnB s.op=true
 ·rw[if_pos hd];refine⟨fun x hx=>QHg hx,fun b hb=>?_⟩;rw[hd,Bool.eq_iff_iff];simp only[decide_eq_true_eq,QJe,Bool.true_and];constructor
  ·rintro⟨k,e,_,h2⟩;obtain rfl:b=k:=by omega
   exact h2
  ·intro h2;exact⟨b,rfl,hb,h2⟩
 ·rw[if_neg hd];exact⟨fun x hx=>by simp at hx,fun b hb=>by simp[hd]⟩
theorem Qvg {p:List Qo}{kind:Int}(h:Qxb p kind=0){i:Nat}{n:Qx}{s:QD}(hn:QOd p i n s)(c:Cp):
  c∈QTe (QN p) (QC p kind) kind s↔c∈copF (QN p) kind s:=by
 unfold QTe copF;by_cases hk:(kind=3∨kind=4)∧s.op=1
 ·rw[if_pos hk,if_pos hk];have hd:dfnB s.op=true:=by rw[hk.2];rfl
  have hne:kind≠1:=by omega
  rw[Qac h hne (hn.dfn hd)];simp only[List.mem_map,List.mem_filter,List.mem_range,List.headD_cons];constructor
  ·rintro⟨u,hu,rfl⟩;rw[Qac h hne (hn.uses u hu)];obtain⟨q,e,hq⟩:=Qgc (hn.uses u hu);refine⟨q,⟨(List.getElem?_eq_some_iff.1 hq).1,?_⟩,by rw[e];rfl⟩;rw[hq]
   simpa using hu
  ·rintro⟨q,⟨hq,hu⟩,rfl⟩;rw[List.getElem?_eq_getElem hq] at hu;have hu:(QN p)[q]∈s.uses:=by simpa using hu
   refine⟨(QN p)[q],hu,?_⟩;rw[Qac h hne (hn.uses _ hu),QBg (Qwn p) (List.getElem?_eq_getElem hq)];rfl
 ·rw[if_neg hk,if_neg hk]
theorem Qvh:∀{l:List Cp} {c:Cp},c∈Qxa l↔c∈l
|[],c=>by simp[Qxa]
|[x],c=>by simp[Qxa]
|x::y::r,c=>by
  unfold Qxa
  simp only
  split
  ·rename_i e
   subst e
   rw[Qvh]
   simp
  ·rw[List.mem_cons,Qvh,List.mem_cons (a:=c) (b:=x)]
theorem Qhn:∀(l:List Cp),(Qxa l).length≤l.length
|[]=>by simp[Qxa]
|[x]=>by simp[Qxa]
|x::y::r=>by
  unfold Qxa
  simp only
  have:=Qhn (y::r)
  split
  ·simp only[List.length_cons] at *;omega
  ·simp only[List.length_cons] at *;omega
theorem Qin {t:Int}:∀{l:List Cp},(∀c∈l,c.2=t)→l.Pairwise (fun a b=>a.1≤b.1)→(Qxa l).Pairwise fun a b=>befC a b=true
|[],_,_=>by simp[Qxa]
|[x],_,_=>by simp[Qxa]
|x::y::r,h1,h2=>by
  obtain⟨h3,h4⟩:=List.pairwise_cons.1 h2
  have ih:=Qin (l:=y::r) (fun c hc=>h1 c (List.mem_cons_of_mem _ hc)) h4
  unfold Qxa
  simp only
  split
  ·exact ih
  ·rename_i hne
   refine List.pairwise_cons.2 ⟨fun c hc=>?_,ih⟩
   have hc:=Qvh.1 hc
   have e1:=h1 x ZS
   have hxy:x.1<y.1:=by
    have h5:=h3 y ZS;have e2:=h1 y ZS;rcases Int.lt_or_eq_of_le h5 with h6|h6
    ·exact h6
    ·exact absurd (Prod.ext h6 (e1.trans e2.symm)) hne
   have hyc:y.1≤c.1:=by
    rcases List.mem_cons.1 hc with rfl|hc
    ·exact Int.le_refl _
    ·exact(List.pairwise_cons.1 h4).1 c hc
   unfold befC;simp only[Bool.or_eq_true,decide_eq_true_eq];left;omega
theorem QQr {p:List Qo}{kind:Int}(h:Qxb p kind=0){i:Nat}{n:Qx}{s:QD}(hn:QOd p i n s)(hs:QFd p n=some s){sc:List Cp}(hsc:sc.Perm (QTe (QN p) (QC p kind) kind s))(hso:sc.Pairwise fun a b=>a.1≤b.1):
  ofS (QC p kind).length (Qgg (QN p) (QC p kind) kind i s)=((rawT (QN p) (QC p kind) kind i s).gen,0)∧ofS (QC p kind).length (QQh (QN p) (QC p kind) s)=((rawT (QN p) (QC p kind) kind i s).kill,0) ∧
  QKg ⟨(rawT (QN p) (QC p kind) kind i s).gen,(rawT (QN p) (QC p kind) kind i s).kill,Qxa sc⟩=(Qlb (rawT (QN p) (QC p kind) kind i s) (QC p kind).length,0):=by
 have hm:=(Qkb h).2.2.2.2;obtain⟨g1,g2⟩:=Qdr h hn hs;obtain⟨k1,k2⟩:=Qmo (vars:=QN p) (l:=QC p kind) (s:=s);refine⟨?_,?_,?_⟩
 ·rw[Qbs hm g1]
  congr 1
  exact Qad hm g2
 ·rw[Qbs hm k1]
  congr 1
  exact Qad hm k2
 ·have hmem:∀c,c∈Qxa sc↔c∈copF (QN p) kind s:=fun c=>by rw[Qvh,hsc.mem_iff,Qvg h hn]
  have hin:∀c∈copF (QN p) kind s,inC (QC p kind).length c=true∧c.2=idxI (QN p) s.dfn:=fun c hc=>by
   unfold copF at hc
   split at hc
   ·rename_i hk;have hne:kind≠1:=by omega
    have hlen:(QC p kind).length=(QN p).length:=by rw[Qtf h hne];simp
    obtain⟨q,hq,rfl⟩:=List.mem_map.1 hc;have hq:=List.mem_range.1 (List.mem_filter.1 hq).1;obtain⟨d,e,hd⟩:=Qgc (hn.dfn (by rw[hk.2];rfl));have:=(List.getElem?_eq_some_iff.1 hd).1;refine⟨?_,rfl⟩;unfold inC;simp only[Bool.and_eq_true,decide_eq_true_eq];omega
   ·cases hc
  have hl4:sc.length≤4:=by
   rw[hsc.length_eq];unfold QTe
   split
   ·rw[List.length_map];exact(Qje hn.stmtB).2
   ·simp
  have hT:OkT (QC p kind).length ⟨(rawT (QN p) (QC p kind) kind i s).gen,(rawT (QN p) (QC p kind) kind i s).kill,Qxa sc⟩:=
   ⟨QIb _ hm,QIb _ hm,by have:=Qhn sc;show(Qxa sc).length≤64;omega,QPe (fun c hc=>(hin c ((hmem c).1 hc)).1) (Qin (t:=idxI (QN p) s.dfn) (fun c hc=>(hin c ((Qvg h hn c).1 (hsc.mem_iff.1 hc))).2) hso) (fun q hq=>by cases hq)⟩
  unfold QKg;rw[hT.b,hT.gen.width];simp only[if_true]
  congr 1
  refine Qkn hm rfl fun a b ha hb=>?_
  unfold folB
  congr 1
  rw[Bool.eq_iff_iff];simp only[decide_eq_true_eq];exact hmem _
end
section
variable [Base]
theorem QGn {p:List Qo}{n:Qx}(h:n.kind≠3):Qkk p n=Qie:=by unfold Qkk;rw[if_neg h]
theorem Qsm {p:List Qo}{kind:Int}(h:Qxb p kind=0){i:Nat}{n:Qx}(hn:n.kind≠3):QZe p kind i n=idT (QC p kind).length:=by
 have hm:=(Qkb h).2.2.2.2;have hr:rawT (QN p) (QC p kind) kind i Qie=idT (QC p kind).length:=by
  have hg:mkS (QC p kind).length (genF (QN p) (QC p kind) kind i Qie)=Qy (QC p kind).length:=by
   refine(QIb _ hm).ext (QOb hm) fun b=>?_
   rw[Qpb _ hm,QNb];unfold genF Qie dfnB;simp
  have hk:mkS (QC p kind).length (kilF (QN p) (QC p kind) Qie)=Qy (QC p kind).length:=by
   refine(QIb _ hm).ext (QOb hm) fun b=>?_
   rw[Qpb _ hm,QNb];unfold kilF Qie dfnB;simp
  have hc:copF (QN p) kind Qie=[]:=by unfold copF Qie;simp
  unfold rawT;rw[hg,hk,hc];rfl
 unfold QZe;rw[QGn hn,hr,QOs hm]
theorem Qup {p:List Qo}{kind:Int}(h:Qxb p kind=0){i:Nat}{n:Qx}(hi:(QR p)[i]? = some n):OkT (QC p kind).length (QZe p kind i n):=by
 have hm:=(Qkb h).2.2.2.2;by_cases h3:n.kind=3
 ·obtain⟨hn,hs⟩:=QCp (Qkb h).1 hi h3;have hsF:Qkk p n=Qec p n:=by unfold Qkk;rw[if_pos h3]
  unfold QZe;rw[hsF]
  -- canonical forms of what is in range are valid
  refine⟨QIb _ hm,QIb _ hm,?_,QPe (fun c hc=>?_) (QNh _ _ _) (fun q hq=>by cases hq)⟩
  ·refine Nat.le_trans (Qml (Qqj _ _ _) (b:=QTe (QN p) (QC p kind) kind (Qec p n)) fun c hc=>(Qvg h hn c).2 (Qul hc)) ?_;unfold QTe
   split
   ·rw[List.length_map];have:=(Qje hn.stmtB).2;omega
   ·simp
  ·obtain⟨a,b,rfl,ha,hb,-⟩:=Qvj.1 hc;unfold inC;simp only[Bool.and_eq_true,decide_eq_true_eq];omega
 ·rw[Qsm h h3];exact Qvu hm
theorem QTs {p:List Qo}{kind:Int}(h:Qxb p kind=0)(i:Nat):Ok (QC p kind).length (bndT p kind i):=by
 have hm:=(Qkb h).2.2.2.2;unfold bndT
 split
 ·exact(QOp hm).1
 ·exact QOb hm
theorem Quk {p:List Qo}(h:QFa p=0):1≤(QR p).length:=by
 rw[Qne h];have hv:=(Qzb h).valid;unfold QMa at hv;simp only[Bool.and_eq_true,decide_eq_true_eq] at hv;obtain⟨f,hf⟩:∃f,p[0]? = some f:=⟨_,List.getElem?_eq_getElem ZO⟩;exact List.length_pos_of_mem (QYt hf)
theorem Qas {p:List Qo}{kind:Int}(h:Qxb p kind=0):QSd (QR p).length (QC p kind).length (QZc p kind):=by
 have hc:=(Qkb h).1;refine⟨rfl,(Qkb h).2.2.2.2,Quk hc,Qme,?_,by simp[QZc],by simp[QZc],?_,?_,?_,?_⟩
 ·unfold QZc Qkc Qmc
  split <;> simp
 ·intro l hl;unfold QZc Qkc Qmc QLl Qgm at hl;simp only at hl
  split at hl
  ·obtain⟨i,_,rfl⟩:=List.mem_map.1 hl;exact Qqk _ _
  ·obtain⟨i,_,rfl⟩:=List.mem_map.1 hl;exact Qqk _ _
 ·unfold QZc totI;simp only
  split
  ·exact(Qmi hc).1
  ·exact(Qmi hc).2
 ·intro b hb;obtain⟨i,hi,rfl⟩:=List.mem_mapIdx.1 hb;exact QTs h i
 ·intro t ht;obtain⟨i,hi,rfl⟩:=List.mem_mapIdx.1 ht;exact Qup h (List.getElem?_eq_getElem hi)
end
section
open Go.RowKit
variable [Base]
theorem Qt {b:Nat}{w:World}{v0 v1 v2 v3:Value}{t:TypeId}(h:w.heap[b]? = some (.cells #[v0,v1,v2,v3] t (0,0))):
  w.cell? ⟨b,0,none⟩=some v0∧w.cell? ⟨b,1,none⟩=some v1∧w.cell? ⟨b,2,none⟩=some v2∧w.cell? ⟨b,3,none⟩=some v3:=by
 simp[World.cell?,h]
theorem Qq {b:Nat}{w:World}{v0 v1:Value}{t:TypeId}(h:w.heap[b]? = some (.cells #[v0,v1] t (0,0))):
  w.cell? ⟨b,0,none⟩=some v0∧w.cell? ⟨b,1,none⟩=some v1:=by
 simp[World.cell?,h]
section
variable (s:QD) (u t:Value) (w:World)
theorem QUi:Calls Tryz.prog 235 #[.agg #[iv s.op,sv s.dfn,u,t]] w (Qia (QTg s.op) w):=by
 have ba:=Zh (fun x:Int=>(Below.refl w.heap.size w).alloc (Nat.le_refl _) (.cells #[iv x,sv s.dfn,u,t] 94));obtain⟨c0,c1,c2,c3⟩:=Qt (heap_alloc_new w (.cells #[iv s.op,sv s.dfn,u,t] 94));go_enter Tryz.func235,Tryz.ntmps235;go_wp2
 all_goals
  go_ret;exact⟨by unfold QTg;simp_all,ba.o _⟩
theorem Qbn:Calls Tryz.prog 159 #[.agg #[iv s.op,sv s.dfn,u,t]] w (Qia (dfnB s.op) w):=by
 have ba:=Zh (fun x:Int=>(Below.refl w.heap.size w).alloc (Nat.le_refl _) (.cells #[iv x,sv s.dfn,u,t] 94));obtain⟨c0,c1,c2,c3⟩:=Qt (heap_alloc_new w (.cells #[iv s.op,sv s.dfn,u,t] 94));go_enter Tryz.func159,Tryz.ntmps159;go_wp2
 all_goals
  go_ret;exact⟨by unfold dfnB;simp_all,ba.o _⟩
def StrQ (x:Str)(w:World)(e:Ending)(w':World):Prop:=e=.returned (sv x)∧Below w.heap.size w w'
theorem QWf (x:Str)(v:Value):Calls Tryz.prog 156 #[.agg #[sv x,v]] w (StrQ x w):=by
 have ba:=Zh ((Below.refl w.heap.size w).alloc (Nat.le_refl _) (.cells #[sv x,v] 89));obtain⟨c0,c1⟩:=Qq (heap_alloc_new w (.cells #[sv x,v] 89));go_enter Tryz.func156,Tryz.ntmps156;go_wp2;go_ret;exact⟨rfl,ba.o⟩
theorem QZf (x:Str)(v:Value):Calls Tryz.prog 191 #[.agg #[sv x,v]] w (StrQ x w):=by
 have ba:=Zh ((Below.refl w.heap.size w).alloc (Nat.le_refl _) (.cells #[sv x,v] 92));obtain⟨c0,c1⟩:=Qq (heap_alloc_new w (.cells #[sv x,v] 92));go_enter Tryz.func191,Tryz.ntmps191;go_wp2;go_ret;exact⟨rfl,ba.o⟩
end
end
section
open Go.RowKit
variable [Base]
theorem Qjj {P:Program}(ea:Option Addr)(w:World)(base:Nat)(t ty e:TypeId)(i:TypeInfo)(size:Nat)(ht:P.underlying t=some (.slice e))(hi:P.info? e=some i)(v:Value)(n:Nat)(xs:List Value)(hown:w.ownsRow base e size v n xs):(Builtin.append_ #[t,t] ty #[v,.slice ea 0 0]).run P w=.ok v w:=by
 have hz:∀a:Addr,(loadCells a 0).run P w=.ok #[] w:=fun a=>by simp[loadCells,loadCellsFrom]
 rcases hown.2 with⟨rfl,rfl⟩|⟨g,cap,cur,rfl,_,_,hnc,_⟩
 ·cases ea <;> simp[Builtin.append_,run_underlying ht,sizeOf,typeInfo,hi,Builtin.lenOf,Builtin.firstCells,hz]
 ·cases ea <;> simp[Builtin.append_,run_underlying ht,sizeOf,typeInfo,hi,Builtin.lenOf,Builtin.firstCells,hz,hnc,storeCells]
theorem Qun (b off j:Nat):(⟨b,off,none⟩:Addr).add j=⟨b,off+j,none⟩:=by
 unfold Addr.add
 split
 ·rename_i h;subst h;rfl
 ·rfl
theorem QXa {w:World}{base:Nat}{e:TypeId}{size:Nat}{v:Value}{n:Nat}{xs:List Value}(h:w.ownsRow base e size v n xs):∃a c,v=.slice a n c∧n≤c∧c≤maxLen:=by
 rcases h.2 with⟨rfl,rfl⟩|⟨g,cap,cur,rfl,_,_,hnc,hc,_⟩
 ·exact⟨none,0,rfl,Nat.le_refl _,Nat.zero_le _⟩
 ·exact⟨_,_,rfl,hnc,hc⟩
theorem Qbk {P:Program}(w:World)(base:Nat)(t ty e:TypeId)(z:Value)(size bytes:Nat)(ht:P.underlying t=some (.slice e))(hi:(P.info? e).map (fun i=>(i.zero,i.size,i.bytes))=some (some z,size,bytes))(hzs:z.cells.size=size)(hsz:0<size)(v:Value)(n:Nat)(xs:List Value)(hown:w.ownsRow base e size v n xs)(u:Value)(m:Nat)(ys:List Value)(hsl:Qg w e size u ys)(hm:ys.length=m*size)(h1:ys.all Value.oneCell'=true)(h63:n+m≤maxLen)(hbytes:(n+m)*bytes≤140737488355328)(hbase:base≤w.heap.size):
  ∃a c w',(Builtin.append_ #[t,t] ty #[v,u]).run P w=.ok (.slice a (n+m) c) w'∧w'.ownsRow base e size (.slice a (n+m) c) (n+m) (xs++ys)∧w.grownBy w' v.ownBlock:=by
 obtain⟨i,hi',hz,hs1,hs2⟩:=info_parts hi;obtain⟨m',cap,e1,e2,e3,h4⟩:=hsl;have hmm:m'=m:=Nat.eq_of_mul_eq_mul_right hsz (e1.symm.trans hm);subst hmm;rcases h4 with⟨⟨ea,rfl⟩,rfl⟩|⟨b,off,c,fr,rfl,hb,hc⟩
 ·have hy:ys=[]:=List.length_eq_zero_iff.1 ZO;subst hy;obtain⟨a,c,rfl,_⟩:=QXa hown;refine⟨a,c,w,Qjj ea w base t ty e i size ht hi' _ n xs hown,by simpa using hown,World.grownBy.refl w _⟩
 ·have hcells:∀j u,ys[j]? = some u→w.cell? ((⟨b,off,none⟩:Addr).add j)=some u:=by
   intro j u hu;have hj:=(List.getElem?_eq_some_iff.1 hu).1;rw[Qun,←hu,←hc j hj];exact hb.cell _
  obtain⟨v',w',hrun,h2,h3,_,_⟩:=run_append_own_at (P:=P) w base t ty e i z size bytes ht hi' hz hs1 hs2 hzs hsz v n xs hown ⟨b,off,none⟩ m' cap ys e1 hcells (fun u hu=>List.all_eq_true.1 h1 u hu) h63 hbytes hbase;obtain⟨a,c,rfl,_⟩:=QXa h2;exact⟨a,c,w',hrun,h2,h3⟩
theorem Qlf {P:Program}{w:World}{o:Oper}{a:Act}{K:Act→World→Prop}{Q:Exit→Act→World→Prop}(s x:Operand)(t:TypeId)(ho:o.op=.call { callee:=.builtin .append,args:=#[s,x],argTypes:=#[t,t] })(base:Nat)(e:TypeId)(z:Value)(size bytes:Nat)(ht:P.underlying t=some (.slice e))(hi:(P.info? e).map (fun i=>(i.zero,i.size,i.bytes))=some (some z,size,bytes))(hzs:z.cells.size=size)(hsz:0<size)(v:Value)(n:Nat)(xs:List Value)(hown:w.ownsRow base e size v n xs)(hs:a.eval s=v)(u:Value)(m:Nat)(ys:List Value)(hx:a.eval x=u)(hsl:Qg w e size u ys)(hm:ys.length=m*size)(h1:ys.all Value.oneCell'=true)(h63:n+m≤maxLen)(hbytes:(n+m)*bytes≤140737488355328)(hbase:base≤w.heap.size)(h:∀g c w',w'.ownsRow base e size (.slice g (n+m) c) (n+m) (xs++ys)→w.grownBy w' v.ownBlock→K (a.put o.dst (.slice g (n+m) c)) w'):o.wp P a w K Q:=by
 obtain⟨g,c,w',hrun,h2,h3⟩:=Qbk (P:=P) w base t o.type e z size bytes ht hi hzs hsz v n xs hown u m ys hsl hm h1 h63 hbytes hbase;unfold Oper.wp execOp;simp only[ho,resolve,invoke,builtin,Sem.run_bind,Sem.run_pure,Result.andThen_ok,List.map_toArray,List.map_cons,List.map_nil,hs,hx,hrun];exact h g c w' h2 h3
theorem wpList_append_sl {P:Program}{w:World}{ops:Array Oper}{rest:List Oper}{o:Oper}{a:Act}{Q:Exit→Act→World→Prop}(hgd:o.guard=none)(s x:Operand)(t:TypeId)(ho:o.op=.call { callee:=.builtin .append,args:=#[s,x],argTypes:=#[t,t] })(base:Nat)(e:TypeId)(z:Value)(size bytes:Nat)(ht:P.underlying t=some (.slice e))(hi:(P.info? e).map (fun i=>(i.zero,i.size,i.bytes))=some (some z,size,bytes))(hzs:z.cells.size=size)(hsz:0<size)(v:Value)(n:Nat)(xs:List Value)(hown:w.ownsRow base e size v n xs)(hs:a.eval s=v)(u:Value)(m:Nat)(ys:List Value)(hx:a.eval x=u)(hsl:Qg w e size u ys)(hm:ys.length=m*size)(h1:ys.all Value.oneCell'=true)(h63:n+m≤maxLen)(hbytes:(n+m)*bytes≤140737488355328)(hbase:base≤w.heap.size)(h:∀g c w',w'.ownsRow base e size (.slice g (n+m) c) (n+m) (xs++ys)→w.grownBy w' v.ownBlock→wpList P ops Q rest (a.put o.dst (.slice g (n+m) c)) w'):wpList P ops Q (o::rest) a w:=
 wpList_plain hgd fun _ hK=>Qlf s x t ho base e z size bytes ht hi hzs hsz v n xs hown hs u m ys hx hsl hm h1 h63 hbytes hbase fun g c w' h2 h3=>hK _ _ (h g c w' h2 h3)
theorem QNu {P:Program}{w:World}{ops:Array Oper}{o:Oper}{a:Act}{K:Act→World→Prop}{Q:Exit→Act→World→Prop}{E:Prop}(hgd:o.guard=none)(s x:Operand)(t:TypeId)(ho:o.op=.call { callee:=.builtin .append,args:=#[s,x],argTypes:=#[t,t] })(base:Nat)(e:TypeId)(z:Value)(size bytes:Nat)(ht:P.underlying t=some (.slice e))(hi:(P.info? e).map (fun i=>(i.zero,i.size,i.bytes))=some (some z,size,bytes))(hzs:z.cells.size=size)(hsz:0<size)(v:Value)(n:Nat)(xs:List Value)(hown:w.ownsRow base e size v n xs)(hs:a.eval s=v)(u:Value)(m:Nat)(ys:List Value)(hx:a.eval x=u)(hsl:Qg w e size u ys)(hm:ys.length=m*size)(h1:ys.all Value.oneCell'=true)(h63:n+m≤maxLen)(hbytes:(n+m)*bytes≤140737488355328)(hbase:base≤w.heap.size)(h:∀g c w',w'.ownsRow base e size (.slice g (n+m) c) (n+m) (xs++ys)→w.grownBy w' v.ownBlock→K (a.put o.dst (.slice g (n+m) c)) w'):
  if Region.wanted o (yielded ops a.tmps)=true then o.wp P a w K Q else E:=by
 have hw:Region.wanted o (yielded ops a.tmps)=true:=by simp[Region.wanted,hgd]
 rw[if_pos hw];exact Qlf s x t ho base e z size bytes ht hi hzs hsz v n xs hown hs u m ys hx hsl hm h1 h63 hbytes hbase h
end
section
open Go.RowKit
variable [Base]
theorem Qg.front {w:World}{T:TypeId}{sz b off n c:Nat}{xs:List Value}(h:Qg w T sz (.slice (some ⟨b,off,none⟩) n c) xs)(k:Nat)(hk:k≤n):Qg w T sz (.slice (some ⟨b,off,none⟩) k c) (xs.take (k*sz)):=by
 obtain⟨n',cap,h1,h2,h3,h4⟩:=h;rcases h4 with⟨⟨a',h4⟩,h0⟩|⟨b',off',cs,fr,e1,e2,e3⟩
 ·injection h4 with h4 h6 h7
  subst h0 h6 h7;obtain rfl:k=0:=by omega
  have hx:xs=[]:=List.length_eq_zero_iff.1 ZO;exact⟨0,0,by simp[hx],Nat.le_refl _,Nat.zero_le _,.inl ⟨⟨_,rfl⟩,rfl⟩⟩
 ·injection e1 with e1 e4 e5
  injection e1 with e1
  injection e1 with e6 e7
  subst e4 e5 e6 e7;have hm:=Nat.mul_le_mul_right sz hk;refine⟨k,c,by rw[List.length_take,h1];omega,by omega,h3,.inr ⟨b,off,cs,fr,rfl,e2,fun j hj=>?_⟩⟩;rw[List.length_take] at hj;rw[e3 j ZO,List.getElem?_take_of_lt ZO]
theorem Qg.back {w:World}{T:TypeId}{sz b off n c:Nat}{xs:List Value}(h:Qg w T sz (.slice (some ⟨b,off,none⟩) n c) xs)(k:Nat)(hk:k≤n):Qg w T sz (.slice (some ⟨b,off+k*sz,none⟩) (n-k) (c-k)) (xs.drop (k*sz)):=by
 obtain⟨n',cap,h1,h2,h3,h4⟩:=h;rcases h4 with⟨⟨a',h4⟩,h0⟩|⟨b',off',cs,fr,e1,e2,e3⟩
 ·injection h4 with h4 h6 h7
  subst h0 h6 h7;obtain rfl:k=0:=by omega
  have hx:xs=[]:=List.length_eq_zero_iff.1 ZO;exact⟨0,0,by simp[hx],Nat.le_refl _,Nat.zero_le _,.inl ⟨⟨_,rfl⟩,rfl⟩⟩
 ·injection e1 with e1 e4 e5
  injection e1 with e1
  injection e1 with e6 e7
  subst e4 e5 e6 e7;refine⟨n-k,c-k,by rw[List.length_drop,h1,Nat.sub_mul],by omega,by omega,.inr ⟨b,off+k*sz,cs,fr,rfl,e2,fun j hj=>?_⟩⟩;rw[List.length_drop] at hj;rw[Nat.add_assoc,e3 (k*sz+j) ZO,List.getElem?_drop]
theorem Qg.backEnd {w:World}{T:TypeId}{sz b off n c o:Nat}{xs:List Value}(h:Qg w T sz (.slice (some ⟨b,off,none⟩) n c) xs)(k:Nat)(hk:n=k):Qg w T sz (.slice (some ⟨b,o,none⟩) (n-k) (c-k)) (xs.drop (k*sz)):=by
 obtain⟨n',cap,h1,h2,h3,h4⟩:=h;rcases h4 with⟨⟨a',h4⟩,h0⟩|⟨b',off',cs,fr,e1,e2,e3⟩
 ·injection h4 with h4 h6 h7
  subst h0 h6 h7;obtain rfl:k=0:=by omega
  have hx:xs=[]:=List.length_eq_zero_iff.1 ZO;exact⟨0,0,by simp[hx],Nat.le_refl _,Nat.zero_le _,.inl ⟨⟨_,rfl⟩,rfl⟩⟩
 ·injection e1 with e1 e4 e5
  injection e1 with e1
  injection e1 with e6 e7
  subst e4 e5 e6 e7;subst hk;have hx:xs.drop (n*sz)=[]:=by rw[←h1];exact List.drop_length
  rw[hx];refine⟨n-n,c-n,by simp,by omega,by omega,.inr ⟨b,o,cs,fr,rfl,e2,fun j hj=>?_⟩⟩;simp at hj
theorem Qil {xs:List Value}(h:xs.all Value.oneCell'=true)(k:Nat):(xs.take k).all Value.oneCell'=true:=by
 rw[List.all_eq_true] at h ⊢;exact fun x hx=>h x (List.mem_of_mem_take hx)
theorem QBt {xs:List Value}(h:xs.all Value.oneCell'=true)(k:Nat):(xs.drop k).all Value.oneCell'=true:=by
 rw[List.all_eq_true] at h ⊢;exact fun x hx=>h x (List.mem_of_mem_drop hx)
theorem QVr {w w':World}{base:Nat}{e:TypeId}{size:Nat}{v:Value}{n:Nat}{xs:List Value}(h:w.ownsRow base e size v n xs)(hb:∀q,q<w.heap.size→base≤q→w'.heap[q]? = w.heap[q]?):w'.ownsRow base e size v n xs:=by
 obtain⟨h1,h2⟩:=h;refine⟨h1,?_⟩;rcases h2 with h2|⟨g,cap,cur,e1,e2,e3,e4⟩
 ·exact .inl h2
 ·exact .inr ⟨g,cap,cur,e1,e2,(hb g (Qb e3) e2).trans e3,e4⟩
theorem QZd {w w':World}{base:Nat}{e:TypeId}{size:Nat}{v:Value}{n:Nat}{xs:List Value}(h:w.ownsRow base e size v n xs)(hb:Below w.heap.size w w'):w'.ownsRow base e size v n xs:=QVr h fun q hq _=>hb.block q hq
theorem Qjm {w:World}{base base':Nat}{e:TypeId}{size:Nat}{v:Value}{n:Nat}{xs:List Value}(h:w.ownsRow base e size v n xs)(hb:base'≤base):w.ownsRow base' e size v n xs:=by
 obtain⟨h1,h2⟩:=h;refine⟨h1,?_⟩;rcases h2 with h2|⟨g,cap,cur,e1,e2,e3⟩
 ·exact .inl h2
 ·exact .inr ⟨g,cap,cur,e1,Nat.le_trans hb e2,e3⟩
end
section
open Go.RowKit
variable [Base]
structure Qlg (α:Type) where
 T:TypeId
 sz:Nat
 pos:0<sz
 C:World→List Value→α→Prop
 inner:List TypeId
 len:∀{w cs x},C w cs x→cs.length=sz
 keep:∀{w w' cs x},(∀U∈inner,Qf U w w')→C w cs x→C w' cs x
variable {α:Type} {E:Qlg α}
def Qoa (E:Qlg α)(w:World)(v:Value)(l:List α):Prop:=∃xss,Qg w E.T E.sz v xss.flatten∧All2 (E.C w) xss l
theorem Qoa.nil {w:World}:Qoa E w (.slice none 0 0) []:=⟨[],Qg.nil,trivial⟩
theorem Qoa.keep {w w':World}{v:Value}{l:List α}(h:Qoa E w v l)(hs:∀U∈E.T::E.inner,Qf U w w'):Qoa E w' v l:=by
 obtain⟨xss,h1,h2⟩:=h;exact⟨xss,h1.same (hs _ ZS),h2.mono fun _ _=>E.keep fun U hU=>hs U (List.mem_cons_of_mem _ hU)⟩
theorem Qoa.below {w w':World}{v:Value}{l:List α}(h:Qoa E w v l)(hb:Below w.heap.size w w'):Qoa E w' v l:=h.keep fun _ _=>Qf.below hb
theorem Qoa.cell {w:World}{v:Value}{l:List α}(h:Qoa E w v l):∃a c,v=.slice a l.length c∧l.length≤maxLen∧l.length≤c∧c≤maxLen∧∀k x,l[k]? = some x→∃b off cs,a=some ⟨b,off,none⟩∧b<w.heap.size∧E.C w cs x ∧
  ∀j,j<E.sz→w.cell? ⟨b,off+k*E.sz+j,none⟩=cs[j]?:=by
 obtain⟨xss,h1,h2⟩:=h;obtain⟨a,c,e,hm,h3,h4,hc⟩:=QYg h1 (h2.eachR (fun _ _ h=>E.len h)) E.pos;rw[h2.length] at e hm h3;refine⟨a,c,e,hm,h3,h4,fun k x hk=>?_⟩;obtain⟨cs,hx,hC⟩:=h2.satR hk;obtain⟨b,off,rfl,hlt,_,hc2⟩:=hc k _ hx;exact⟨b,off,cs,rfl,hlt,hC,hc2⟩
def QG (E:Qlg α)(B:Nat)(w:World)(v:Value)(l:List α):Prop:=∃xss,w.ownsRow B E.T E.sz v l.length xss.flatten∧All2 (E.C w) xss l
theorem QG.rows {B:Nat}{w:World}{v:Value}{l:List α}(h:QG E B w v l):Qoa E w v l:=by
 obtain⟨xss,h1,h2⟩:=h;exact⟨xss,Qg.of_owns h1,h2⟩
theorem QG.nil {B:Nat}{w:World}:QG E B w (.slice none 0 0) []:=⟨[],⟨by simp,.inl ⟨rfl,rfl⟩⟩,trivial⟩
theorem QG.base {B B':Nat}{w:World}{v:Value}{l:List α}(h:QG E B w v l)(hb:B'≤B):QG E B' w v l:=by
 obtain⟨xss,h1,h2⟩:=h;exact⟨xss,Qjm h1 hb,h2⟩
theorem QG.below {B:Nat}{w w':World}{v:Value}{l:List α}(h:QG E B w v l)(hb:Below w.heap.size w w'):QG E B w' v l:=by
 obtain⟨xss,h1,h2⟩:=h;exact⟨xss,QZd h1 hb,h2.mono fun _ _=>E.keep fun U _=>Qf.below hb⟩
theorem QG.slice {B:Nat}{w:World}{v:Value}{l:List α}(h:QG E B w v l):∃a c,v=.slice a l.length c:=by
 obtain⟨a,c,e,-⟩:=h.rows.cell;exact⟨a,c,e⟩
theorem QG.snoc {B:Nat}{w:World}{v:Value}{l:List α}{x:α}{news:List Value}{xss:List (List Value)}{g cap:Nat}(h:w.ownsRow B E.T E.sz (.slice (some ⟨g,0,none⟩) (l.length+1) cap) (l.length+1) (xss.flatten++news))(h2:All2 (E.C w) xss l)(hx:E.C w news x):QG E B w (.slice (some ⟨g,0,none⟩) (l.length+1) cap) (l++[x]):=by
 refine⟨xss++[news],?_,h2.append ⟨hx,trivial⟩⟩;rw[List.length_append,List.flatten_append]
 simpa using h
end
end Go.Proofs.YtijekimobahgpaaGreatDoor
