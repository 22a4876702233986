/- A part of the proof. -/
import Derived.Test.YtijekimobahgpaaGreatDoorVa02
set_option linter.unusedVariables false
set_option linter.unusedSimpArgs false
set_option linter.unusedSectionVars false
set_option maxRecDepth 100000
set_option maxHeartbeats 16000000
namespace Go.Proofs.YtijekimobahgpaaGreatDoor
section
variable [Base]
abbrev Cp:=Int×Int
structure Qw where
 gen:QSet
 kill:QSet
 cops:List Cp
deriving DecidableEq
def befC (a b:Cp):Bool:=decide (a.1<b.1)||(decide (a.1=b.1)&&decide (a.2<b.2))
def inC (w:Int)(c:Cp):Bool:=(decide (0≤c.1)&&decide (c.1<w))&&(decide (0≤c.2)&&decide (c.2<w))
def Qnc (w:Int):Option Cp→List Cp→Bool
|_,[]=>true
|p,c::r=>(inC w c&&(match p with|none=>true|some q=>befC q c))&&Qnc w (some c) r
def Qtd (t:Qw):Bool:=setB t.gen&&(setB t.kill&&(decide (t.gen.width=t.kill.width)&&(decide (t.cops.length≤64)&&Qnc t.gen.width none t.cops)))
def QSi (t:Qw):Prop:=QLa t.gen.words∧QLa t.kill.words
def folB (t:Qw)(a b:Nat):Bool:=(decide (a=b)&&!QE t.kill.words a)||decide (((a:Int),(b:Int))∈t.cops)
theorem QMj {w:Int}:∀{l:List Cp} {p:Option Cp},Qnc w p l=true→∀c∈l,inC w c=true
|[],_,_,c,hc=>by cases hc
|d::r,p,h,c,hc=>by
  unfold Qnc at h
  simp only[Bool.and_eq_true] at h
  rcases List.mem_cons.1 hc with rfl|hc
  ·exact h.1.1
  ·exact QMj h.2 c hc
structure OkT (m:Nat)(t:Qw):Prop where
 gen:Ok m t.gen
 kill:Ok m t.kill
 len:t.cops.length≤64
 cops:Qnc m none t.cops=true
theorem QRi {t:Qw}(h:Qtd t=true)(hw:QSi t):∃m:Nat,t.gen.width=m∧OkT m t:=by
 unfold Qtd at h;simp only[Bool.and_eq_true,decide_eq_true_eq] at h;obtain⟨h1,h2,h3,h4,h5⟩:=h;obtain⟨m,e,hg⟩:=Qcj h1 hw.1;obtain⟨k,e2,hk⟩:=Qcj h2 hw.2;have:k=m:=by omega
 subst this;exact⟨k,e,hg,hk,h4,by rw[←e];exact h5⟩
theorem OkT.b {m:Nat}{t:Qw}(h:OkT m t):Qtd t=true:=by
 unfold Qtd;rw[h.gen.ok,h.kill.ok,h.gen.width,h.kill.width,h.cops];simp[h.len]
theorem OkT.mem {m:Nat}{t:Qw}(h:OkT m t){c:Cp}(hc:c∈t.cops):∃a b:Nat,c=((a:Int),(b:Int))∧a<m∧b<m:=by
 have:=QMj h.cops c hc;unfold inC at this;simp only[Bool.and_eq_true,decide_eq_true_eq] at this;obtain⟨x,y⟩:=c;obtain⟨a,rfl⟩:=Int.eq_ofNat_of_zero_le this.1.1;obtain⟨b,rfl⟩:=Int.eq_ofNat_of_zero_le this.2.1;have h1:(a:Int)<m:=this.1.2;have h2:(b:Int)<m:=this.2.2;exact⟨a,b,rfl,by omega,by omega⟩
def valB (t:Qw)(m:Nat)(s:QSet)(b:Nat):Bool:=QE t.gen.words b||(List.range m).any fun a=>QE s.words a&&folB t a b
theorem Qlt {m:Nat}{t:Qw}{s:QSet}(ht:OkT m t)(hs:Ok m s)(b:Nat):
  valB t m s b=(((QE s.words b&&!QE t.kill.words b)||QE t.gen.words b)||t.cops.any fun c=>decide (c.2=(b:Int))&&QE s.words c.1.toNat):=by
 rw[Bool.eq_iff_iff];unfold valB folB;simp only[Bool.or_eq_true,List.any_eq_true,List.mem_range,Bool.and_eq_true,decide_eq_true_eq,Bool.not_eq_true'];constructor
 ·rintro(h|⟨a,ha,h1,h2⟩)
  ·exact .inl (.inr h)
  ·rcases h2 with⟨rfl,h2⟩|h2
   ·exact .inl (.inl ⟨h1,h2⟩)
   ·exact .inr ⟨_,h2,rfl,by simpa using h1⟩
 ·rintro((⟨h1,h2⟩|h)|⟨c,hc,h1,h2⟩)
  ·refine .inr ⟨b,?_,h1,.inl ⟨rfl,h2⟩⟩;rcases Nat.lt_or_ge b m with h|h
   ·exact h
   ·rw[hs.tail h] at h1;cases h1
  ·exact .inl h
  ·obtain⟨x,y,rfl,hx,hy⟩:=ht.mem hc;have e:y=b:=by have h1:(y:Int)=(b:Int):=h1;omega
   subst e;exact .inr ⟨x,hx,by simpa using h2,.inr hc⟩
def rowC (t:Qw)(m a:Nat):List Cp:=((List.range m).filter fun b=>decide (a≠b)&&(folB t a b&&!QE t.gen.words b)).map fun b:Nat=>((a:Int),(b:Int))
def copC (t:Qw)(m i:Nat):List Cp:=((List.range i).map (rowC t m)).flatten
def Qlb (t:Qw)(m:Nat):Qw:=⟨t.gen,mkS m (fun a=>QE t.gen.words a||!folB t a a),copC t m m⟩
theorem Quj {t:Qw}{m a:Nat}{c:Cp}:c∈rowC t m a↔∃b:Nat,c=((a:Int),(b:Int))∧b<m∧a≠b∧folB t a b=true∧QE t.gen.words b=false:=by
 unfold rowC;simp only[List.mem_map,List.mem_filter,List.mem_range,Bool.and_eq_true,decide_eq_true_eq,Bool.not_eq_true'];constructor
 ·rintro⟨b,⟨h1,h2,h3,h4⟩,rfl⟩;exact⟨b,rfl,h1,h2,h3,h4⟩
 ·rintro⟨b,rfl,h1,h2,h3,h4⟩;exact⟨b,⟨h1,h2,h3,h4⟩,rfl⟩
theorem Qvj {t:Qw}{m i:Nat}{c:Cp}:c∈copC t m i↔∃a b:Nat,c=((a:Int),(b:Int))∧a<i∧b<m∧a≠b∧folB t a b=true∧QE t.gen.words b=false:=by
 unfold copC;simp only[List.mem_flatten,List.mem_map,List.mem_range];constructor
 ·rintro⟨l,⟨a,ha,rfl⟩,h⟩;obtain⟨b,h1,h2⟩:=Quj.1 h;exact⟨a,b,h1,ha,h2⟩
 ·rintro⟨a,b,h1,ha,h2⟩;exact⟨_,⟨a,ha,rfl⟩,Quj.2 ⟨b,h1,h2⟩⟩
theorem QMk (t:Qw)(m i:Nat):copC t m (i+1)=copC t m i++rowC t m i:=by
 unfold copC;rw[List.range_succ,List.map_append,List.flatten_append];simp
theorem QPe {w:Int}:∀{l:List Cp} {p:Option Cp},(∀c∈l,inC w c=true)→l.Pairwise (fun a b=>befC a b=true)→(∀q,p=some q→∀c∈l,befC q c=true)→Qnc w p l=true
|[],_,_,_,_=>by simp[Qnc]
|c::r,p,h1,h2,h3=>by
  obtain⟨h4,h5⟩:=List.pairwise_cons.1 h2
  unfold Qnc
  simp only[Bool.and_eq_true]
  refine⟨⟨h1 c ZS,?_⟩,QPe (fun d hd=>h1 d (List.mem_cons_of_mem _ hd)) h5 (fun q hq d hd=>by cases hq;exact h4 d hd)⟩
  cases p with
 |none=>rfl
 |some q=>exact h3 q rfl c ZS
theorem QNh (t:Qw)(m:Nat):∀i,(copC t m i).Pairwise (fun a b=>befC a b=true)
|0=>by simp[copC]
|i+1=>by
  rw[QMk]
  refine List.pairwise_append.2 ⟨QNh t m i,?_,?_⟩
  ·unfold rowC
   refine List.Pairwise.map (R:=(· < ·)) _ (fun a b h=>?_) (List.pairwise_lt_range.sublist List.filter_sublist)
   unfold befC;simp;omega
  ·intro a ha b hb
   obtain⟨x,y,rfl,hx,-⟩:=Qvj.1 ha
   obtain⟨z,rfl,-⟩:=Quj.1 hb
   unfold befC;simp;omega
theorem Qqj (t:Qw)(m i:Nat):(copC t m i).Nodup:=(QNh t m i).imp fun {a b} h e=>by
 subst e
 unfold befC at h
 simp at h
theorem Qml {α:Type} [DecidableEq α]:∀{a b:List α},a.Nodup→(∀x∈a,x∈b)→a.length≤b.length
|[],b,_,_=>Nat.zero_le _
|x::a,b,h,hs=>by
  obtain⟨h1,h2⟩:=List.nodup_cons.1 h
  have hx:x∈b:=hs x ZS
  have h3:=Qml (b:=b.erase x) h2 (fun y hy=>by
   have hne:y≠x:=fun e=>h1 (e▸hy)
   exact(List.mem_erase_of_ne hne).2 (hs y (List.mem_cons_of_mem _ hy)))
  have h4:=List.length_erase_of_mem hx
  have h5:0<b.length:=List.length_pos_of_mem hx
  simp only[List.length_cons]
  omega
theorem Qul {m:Nat}{t:Qw}{i:Nat}{c:Cp}(h:c∈copC t m i):c∈t.cops:=by
 obtain⟨a,b,rfl,_,_,hne,hf,_⟩:=Qvj.1 h;unfold folB at hf;simp only[Bool.or_eq_true,Bool.and_eq_true,decide_eq_true_eq] at hf;rcases hf with⟨e,_⟩|hf
 ·exact absurd e hne
 ·exact hf
theorem Qdn {m:Nat}{t:Qw}(h:t.cops.length≤64)(i:Nat):(copC t m i).length≤64:=Nat.le_trans (Qml (Qqj t m i) fun _ hc=>Qul hc) h
theorem Qkn {m:Nat}{s t:Qw}(hm:m≤256)(hg:s.gen=t.gen)(hf:∀a b,a<m→b<m→folB s a b=folB t a b):Qlb s m=Qlb t m:=by
 unfold Qlb;have h1:mkS m (fun a=>QE s.gen.words a||!folB s a a)=mkS m (fun a=>QE t.gen.words a||!folB t a a):=Qad hm fun b hb=>by rw[hf b b hb hb,hg]
 have h2:copC s m m=copC t m m:=by
  unfold copC
  congr 1
  refine List.map_congr_left fun a ha=>?_
  unfold rowC
  congr 1
  refine List.filter_congr fun b hb=>?_
  rw[hf a b (List.mem_range.1 ha) (List.mem_range.1 hb),hg]
 rw[h1,h2,hg]
theorem Qrx {m:Nat}{t:Qw}(hm:m≤256){a b:Nat}(ha:a<m)(hb:b<m):folB (Qlb t m) a b=if a=b then (!QE t.gen.words a&&folB t a a) else (folB t a b&&!QE t.gen.words b):=by
 rw[Bool.eq_iff_iff];have hk:QE (Qlb t m).kill.words a=(QE t.gen.words a||!folB t a a):=by
  show QE (mkS m _).words a=_;rw[Qpb _ hm];simp[ha]
 have hc:(((a:Int),(b:Int))∈(Qlb t m).cops)↔a≠b∧folB t a b=true∧QE t.gen.words b=false:=by
  show _∈copC t m m↔_;rw[Qvj];constructor
  ·rintro⟨x,y,e,-,-,h⟩;simp only[Prod.mk.injEq] at e;obtain⟨rfl,rfl⟩:a=x∧b=y:=⟨by omega,by omega⟩;exact h
  ·intro h;exact⟨a,b,rfl,ha,hb,h⟩
 by_cases e:a=b
 ·subst e;rw[if_pos rfl];rw[show folB (Qlb t m) a a=((decide (a=a)&&!QE (Qlb t m).kill.words a)||decide (((a:Int),(a:Int))∈(Qlb t m).cops)) from rfl,hk];simp only[Bool.or_eq_true,Bool.and_eq_true,decide_eq_true_eq,hc];simp
 ·rw[if_neg e];rw[show folB (Qlb t m) a b=((decide (a=b)&&!QE (Qlb t m).kill.words a)||decide (((a:Int),(b:Int))∈(Qlb t m).cops)) from rfl];simp only[Bool.or_eq_true,Bool.and_eq_true,decide_eq_true_eq,hc];simp[e]
theorem QGx {m:Nat}{t:Qw}(hm:m≤256):Qlb (Qlb t m) m=Qlb t m:=by
 have hk:mkS m (fun a=>QE (Qlb t m).gen.words a||!folB (Qlb t m) a a)=(Qlb t m).kill:=by
  show _=mkS m _;refine Qad hm fun a ha=>?_
  rw[Qrx hm ha ha,if_pos rfl];show(QE t.gen.words a||_)=_
  cases QE t.gen.words a <;> cases folB t a a <;> rfl
 have hc:copC (Qlb t m) m m=copC t m m:=by
  unfold copC
  congr 1
  refine List.map_congr_left fun a ha=>?_
  unfold rowC
  congr 1
  refine List.filter_congr fun b hb=>?_
  have ha:=List.mem_range.1 ha;have hb:=List.mem_range.1 hb;rw[Qrx hm ha hb];rw[show(Qlb t m).gen=t.gen from rfl];by_cases e:a=b
  ·simp[e]
  ·rw[if_neg e]
   cases QE t.gen.words b <;> cases folB t a b <;> simp[e]
 show(⟨_,_,_⟩:Qw)=⟨_,_,_⟩;rw[hk,hc];rfl
def QKg (t:Qw):Qw×Int:=if Qtd t then (Qlb t t.gen.width.toNat,0) else (⟨⟨0,[]⟩,⟨0,[]⟩,[]⟩,1)
def idT (m:Nat):Qw:=⟨Qy m,Qy m,[]⟩
theorem Qvu {m:Nat}(h:m≤256):OkT m (idT m):=⟨QOb h,QOb h,by simp[idT],by simp[idT,Qnc]⟩
theorem QHt (m a b:Nat):folB (idT m) a b=decide (a=b):=by
 unfold folB idT;simp only[];rw[QNb];simp
theorem QOs {m:Nat}(h:m≤256):Qlb (idT m) m=idT m:=by
 have hk:mkS m (fun a=>QE (idT m).gen.words a||!folB (idT m) a a)=Qy m:=by
  refine(QIb _ h).ext (QOb h) fun b=>?_
  rw[Qpb _ h,QHt,QNb];show(_&&(QE (Qy m).words b||_))=_;rw[QNb];simp
 have hc:copC (idT m) m m=[]:=by
  rw[List.eq_nil_iff_forall_not_mem];intro c hc;have:=Qul hc;simp[idT] at this
 show(⟨_,_,_⟩:Qw)=⟨_,_,_⟩;rw[hk,hc];rfl
end
section
def QTg (op:Int):Bool:=op==7||op==8||op==9
def dfnB (op:Int):Bool:=op==1||op==4||op==6
def QKj:List Str→List Str→Int→Int
|_,[],_=>-1
|seen,x::r,i=>if seen.contains x then i else QKj (seen++[x]) r (i+1)
def dupI (l:List Str):Int:=QKj [] l 0
def QRc (p:List Qo):List Str:=p.map Qo.name
def QPb (f:Qo):List Str:=f.blocks.map QI.name
def QXi (fs bs:List Str)(s:QD)(last:Bool):Int:=
 if QTg s.op != last then 4 else if s.targets.all (fun t=>(if s.op==3 then fs else bs).contains t) then 0 else 5
def Qte:Int→Int→Int:=fun a b=>if a=0 then b else a
def QIc (fs bs:List Str):List QD→Int
|[]=>0
|s::r=>Qte (QXi fs bs s r.isEmpty) (QIc fs bs r)
def QCd (fs bs:List Str):List QI→Int
|[]=>0
|b::r=>Qte (QIc fs bs b.stmts) (QCd fs bs r)
def Qxf (fs:List Str)(f:Qo):Int:=if 0≤dupI (QPb f) then 6 else QCd fs (QPb f) f.blocks
def QQc (fs:List Str):List Qo→Int
|[]=>0
|f::r=>Qte (Qxf fs f) (QQc fs r)
def QH (p:List Qo):List QD:=(p.map fun f=>(f.blocks.map QI.stmts).flatten).flatten
def Qfc (out:List Str)(n:Str):List Str:=if n.isEmpty||out.contains n then out else out++[n]
def QYe (out:List Str)(s:QD):List Str:=(s.dfn::s.uses).foldl Qfc out
def QN (p:List Qo):List Str:=if QMa p then (QH p).foldl QYe [] else []
def QHd (s:QD):Int:=if s.op=3 then 2 else 1
def Qod (s:QD):Int:=if s.op=3 then 3 else if s.op=8 then 2 else 1
def sumI (l:List Int):Int:=l.foldl (· + ·) 0
def QMd (p:List Qo):Int:=if QMa p then 2*(p.length:Int)+sumI ((QH p).map QHd) else 0
def QNd (p:List Qo):Int:=if QMa p then (p.length:Int)+sumI ((QH p).map Qod) else 0
def QFa (p:List Qo):Int:=
 if QMa p=false then 1
 else if 0≤dupI (QRc p) then 6
 else if QQc (QRc p) p≠0 then QQc (QRc p) p
 else if 64<(QN p).length∨256<QMd p∨1024<QNd p then 7 else 0
structure Qx where
 kind:Int
 fn:Int
 bl:Int
 st:Int
deriving DecidableEq
def QWe (i k n:Nat)(s:QD):List Qx:=⟨3,i,k,n⟩::(if s.op=3 then [⟨4,i,k,n⟩] else [])
def Qta (i k:Nat):List QD→Nat→List Qx
|[],_=>[]
|s::r,n=>QWe i k n s++Qta i k r (n+1)
def Qca (i:Nat):List QI→Nat→List Qx
|[],_=>[]
|b::r,k=>Qta i k b.stmts 0++Qca i r (k+1)
def Qcf (i:Nat)(f:Qo):List Qx:=⟨1,i,-1,-1⟩::(Qca i f.blocks 0++[⟨2,i,-1,-1⟩])
def QB:List Qo→Nat→List Qx
|[],_=>[]
|f::r,i=>Qcf i f++QB r (i+1)
def QR (p:List Qo):List Qx:=if QFa p=0 then QB p 0 else []
def idxI {α:Type} [DecidableEq α](l:List α)(x:α):Int:=if x∈l then ((l.idxOf x:Nat):Int) else -1
def QFd (p:List Qo)(n:Qx):Option QD:=(p[n.fn.toNat]?).bind fun f=>(f.blocks[n.bl.toNat]?).bind fun b=>b.stmts[n.st.toNat]?
def insN (n:Qx):Bool:=n.kind==3||n.kind==4
def QAf (p:List Qo)(n:Qx):Option QD:=if insN n=true∧n∈QR p then QFd p n else none
structure Qra where
 node:Int
 var:Int
deriving DecidableEq
def QUa (vars:List Str)(p:List Qo):List Qx→Nat→List Qra
|[],_=>[]
|n::r,i=>(if n.kind=3 then match QFd p n with|some s=>if dfnB s.op then [⟨i,idxI vars s.dfn⟩] else []|none=>[] else [])++QUa vars p r (i+1)
def QBc (p:List Qo)(kind:Int):List Qra:=if kind=1 then QUa (QN p) p (QR p) 0 else (List.range (QN p).length).map fun v:Nat=>(⟨-1,(v:Int)⟩:Qra)
def Qxb (p:List Qo)(kind:Int):Int:=if QFa p≠0 then QFa p else if kind<1∨4<kind then 3 else if 256<(QBc p kind).length then 7 else 0
def QC (p:List Qo)(kind:Int):List Qra:=if Qxb p kind=0 then QBc p kind else []
end
section
def blkI (f:Qo)(x:Str):Int:=idxI (QPb f) x
def fnI (p:List Qo)(x:Str):Int:=idxI (QRc p) x
def tgt (s:QD):Str:=s.targets.headD []
def fnOf (p:List Qo)(i:Int):Qo:=(p[i.toNat]?).getD ⟨[],[]⟩
def Qec (p:List Qo)(n:Qx):QD:=(QFd p n).getD ⟨0,[],[],[]⟩
def Qmd (p:List Qo)(l:List Qx)(n:Qx):List Qx:=
 if n.kind=1 then [⟨3,n.fn,0,0⟩]
 else if n.kind=2 then l.filter fun k=>k.kind==4&&tgt (Qec p k)==(fnOf p n.fn).name
 else if (Qec p n).op=9 then [⟨2,n.fn,-1,-1⟩]
 else if (Qec p n).op=3∧n.kind=3 then [⟨1,fnI p (tgt (Qec p n)),-1,-1⟩]
 else if (Qec p n).op=7∨(Qec p n).op=8 then (Qec p n).targets.map fun t=>⟨3,n.fn,blkI (fnOf p n.fn) t,0⟩
 else [⟨3,n.fn,n.bl,n.st+1⟩]
def QU (p:List Qo)(n:Qx):List (Qx×Qx):=
 if n.kind=1 then [(n,⟨3,n.fn,0,0⟩)]
 else if n.kind=3 then
  if (Qec p n).op=7∨(Qec p n).op=8 then (Qec p n).targets.map fun t=>(n,⟨3,n.fn,blkI (fnOf p n.fn) t,0⟩)
  else if (Qec p n).op=9 then [(n,⟨2,n.fn,-1,-1⟩)]
  else if (Qec p n).op=3 then [(n,⟨1,fnI p (tgt (Qec p n)),-1,-1⟩),(⟨2,fnI p (tgt (Qec p n)),-1,-1⟩,⟨4,n.fn,n.bl,n.st⟩),(⟨4,n.fn,n.bl,n.st⟩,⟨3,n.fn,n.bl,n.st+1⟩)]
  else [(n,⟨3,n.fn,n.bl,n.st+1⟩)]
 else []
def Qva (p:List Qo)(l:List Qx):List (Qx×Qx):=(l.map (QU p)).flatten
def IsN (p:List Qo)(n:Qx):Prop:=∃i f,p[i]? = some f∧(n=⟨1,(i:Nat),-1,-1⟩∨n=⟨2,(i:Nat),-1,-1⟩∨∃k b j s,f.blocks[k]? = some b∧b.stmts[j]? = some s∧(n=⟨3,(i:Nat),(k:Nat),(j:Nat)⟩∨(s.op=3∧n=⟨4,(i:Nat),(k:Nat),(j:Nat)⟩)))
theorem Qbe {i k j:Nat}{s:QD}{n:Qx}:n∈QWe i k j s↔n=⟨3,i,k,j⟩∨(s.op=3∧n=⟨4,i,k,j⟩):=by
 unfold QWe;by_cases h:s.op=3 <;> simp[h]
theorem Qyc {i k:Nat}{n:Qx}:∀(l:List QD) (m:Nat),n∈Qta i k l m↔∃j s,l[j]? = some s∧n∈QWe i k (m+j) s
|[],m=>by simp[Qta]
|x::r,m=>by
  unfold Qta
  rw[List.mem_append,Qyc r (m+1)]
  constructor
  ·rintro(h|⟨j,s,h1,h2⟩)
   ·exact⟨0,x,rfl,h⟩
   ·exact⟨j+1,s,h1,by rw[show m+(j+1)=m+1+j by omega];exact h2⟩
  ·rintro⟨j,s,h1,h2⟩
   cases j with
  |zero=>simp at h1;subst h1;exact .inl h2
  |succ j=>exact .inr ⟨j,s,by simpa using h1,by rw[show m+1+j=m+(j+1) by omega];exact h2⟩
theorem Qbd {i:Nat}{n:Qx}:∀(l:List QI) (m:Nat),n∈Qca i l m↔∃k b,l[k]? = some b∧n∈Qta i (m+k) b.stmts 0
|[],m=>by simp[Qca]
|x::r,m=>by
  unfold Qca
  rw[List.mem_append,Qbd r (m+1)]
  constructor
  ·rintro(h|⟨j,s,h1,h2⟩)
   ·exact⟨0,x,rfl,h⟩
   ·exact⟨j+1,s,h1,by rw[show m+(j+1)=m+1+j by omega];exact h2⟩
  ·rintro⟨j,s,h1,h2⟩
   cases j with
  |zero=>simp at h1;subst h1;exact .inl h2
  |succ j=>exact .inr ⟨j,s,by simpa using h1,by rw[show m+1+j=m+(j+1) by omega];exact h2⟩
theorem Qxg {n:Qx}:∀(l:List Qo) (m:Nat),n∈QB l m↔∃i f,l[i]? = some f∧n∈Qcf (m+i) f
|[],m=>by simp[QB]
|x::r,m=>by
  unfold QB
  rw[List.mem_append,Qxg r (m+1)]
  constructor
  ·rintro(h|⟨j,s,h1,h2⟩)
   ·exact⟨0,x,rfl,h⟩
   ·exact⟨j+1,s,h1,by rw[show m+(j+1)=m+1+j by omega];exact h2⟩
  ·rintro⟨j,s,h1,h2⟩
   cases j with
  |zero=>simp at h1;subst h1;exact .inl h2
  |succ j=>exact .inr ⟨j,s,by simpa using h1,by rw[show m+1+j=m+(j+1) by omega];exact h2⟩
theorem QLb {p:List Qo}{n:Qx}:n∈QB p 0↔IsN p n:=by
 rw[Qxg];unfold IsN Qcf;constructor
 ·rintro⟨i,f,h1,h2⟩;refine⟨i,f,h1,?_⟩;simp only[Nat.zero_add] at h2;rcases List.mem_cons.1 h2 with h2|h2
  ·exact .inl h2
  ·rcases List.mem_append.1 h2 with h2|h2
   ·obtain⟨k,b,h3,h4⟩:=(Qbd _ _).1 h2;obtain⟨j,s,h5,h6⟩:=(Qyc _ _).1 h4;simp only[Nat.zero_add] at h6;exact .inr (.inr ⟨k,b,j,s,h3,h5,Qbe.1 h6⟩)
   ·exact .inr (.inl (by simpa using h2))
 ·rintro⟨i,f,h1,h2⟩;refine⟨i,f,h1,?_⟩;simp only[Nat.zero_add];rcases h2 with h2|h2|⟨k,b,j,s,h3,h5,h6⟩
  ·exact List.mem_cons.2 (.inl h2)
  ·exact List.mem_cons.2 (.inr (List.mem_append.2 (.inr (by simp[h2]))))
  ·refine List.mem_cons.2 (.inr (List.mem_append.2 (.inl ((Qbd _ _).2 ⟨k,b,h3,(Qyc _ _).2 ⟨j,s,h5,?_⟩⟩))));simp only[Nat.zero_add];exact Qbe.2 h6
theorem Qdh {i k:Nat}:∀(l:List QD) (m:Nat),(Qta i k l m).Nodup
|[],m=>List.nodup_nil
|x::r,m=>by
  unfold Qta
  refine List.nodup_append.2 ⟨?_,Qdh r (m+1),?_⟩
  ·unfold QWe
   by_cases h:x.op=3 <;> simp[h]
  ·intro a ha b hb e
   subst e
   obtain⟨j,s,_,h2⟩:=(Qyc _ _).1 hb
   rw[Qbe] at ha h2
   rcases ha with rfl|⟨_,rfl⟩ <;> rcases h2 with h2|⟨_,h2⟩ <;> injection h2 <;> omega
theorem Qeg {i:Nat}:∀(l:List QI) (m:Nat),(Qca i l m).Nodup
|[],m=>List.nodup_nil
|x::r,m=>by
  unfold Qca
  refine List.nodup_append.2 ⟨Qdh _ _,Qeg r (m+1),?_⟩
  intro a ha b hb e
  subst e
  obtain⟨k,c,_,h2⟩:=(Qbd _ _).1 hb
  obtain⟨j,s,_,h3⟩:=(Qyc _ _).1 h2
  obtain⟨j',s',_,h4⟩:=(Qyc _ _).1 ha
  rw[Qbe] at h3 h4
  rcases h4 with rfl|⟨_,rfl⟩ <;> rcases h3 with h3|⟨_,h3⟩ <;> injection h3 <;> omega
theorem Qjh {i:Nat}{f:Qo}{n:Qx}(h:n∈Qcf i f):n.fn=i:=by
 unfold Qcf at h;rcases List.mem_cons.1 h with rfl|h
 ·rfl
 ·rcases List.mem_append.1 h with h|h
  ·obtain⟨k,b,_,h4⟩:=(Qbd _ _).1 h;obtain⟨j,s,_,h6⟩:=(Qyc _ _).1 h4;rcases Qbe.1 h6 with rfl|⟨_,rfl⟩ <;> rfl
  ·simp at h;subst h;rfl
theorem Qom (i:Nat)(f:Qo):(Qcf i f).Nodup:=by
 unfold Qcf;have hk:∀n,n∈Qca i f.blocks 0→n.kind=3∨n.kind=4:=fun n h=>by
  obtain⟨k,b,_,h4⟩:=(Qbd _ _).1 h;obtain⟨j,s,_,h6⟩:=(Qyc _ _).1 h4;rcases Qbe.1 h6 with rfl|⟨_,rfl⟩
  ·exact .inl rfl
  ·exact .inr rfl
 refine List.nodup_cons.2 ⟨fun h=>?_,List.nodup_append.2 ⟨Qeg _ _,by simp,?_⟩⟩
 ·rcases List.mem_append.1 h with h|h
  ·rcases hk _ h with h|h <;> simp at h
  ·simp at h
 ·intro a ha b hb e;subst e;simp at hb;subst hb;rcases hk _ ha with h|h <;> simp at h
theorem QIe:∀(l:List Qo) (m:Nat),(QB l m).Nodup
|[],m=>List.nodup_nil
|x::r,m=>by
  unfold QB
  refine List.nodup_append.2 ⟨Qom _ _,QIe r (m+1),?_⟩
  intro a ha b hb e
  subst e
  obtain⟨i,f,_,h2⟩:=(Qxg _ _).1 hb
  have h3:=Qjh h2
  have h4:=Qjh ha
  omega
theorem QCi:∀(l seen:List Str) (i:Int),0≤i→¬(0≤QKj seen l i)→(∀x∈l,x∉seen)∧l.Nodup
|[],seen,i,_,_=>⟨(fun x h=>by cases h),List.nodup_nil⟩
|x::r,seen,i,hi,h=>by
  unfold QKj at h
  by_cases hx:seen.contains x=true
  ·rw[if_pos hx] at h;omega
  ·rw[if_neg hx] at h
   obtain⟨h1,h2⟩:=QCi r (seen++[x]) (i+1) ZO h
   have hx':x∉seen:=by simpa using hx
   refine⟨fun y hy=>?_,List.nodup_cons.2 ⟨fun hm=>?_,h2⟩⟩
   ·rcases List.mem_cons.1 hy with rfl|hy
    ·exact hx'
    ·exact fun hm=>h1 y hy (List.mem_append.2 (.inl hm))
   ·exact h1 x hm ZS
theorem QJj {l:List Str}(h:¬0≤dupI l):l.Nodup:=(QCi l [] 0 ZO h).2
theorem QFg {a b:Int}(h:Qte a b=0):a=0∧b=0:=by
 unfold Qte at h
 split at h
 ·exact⟨by assumption,h⟩
 ·exact absurd h (by assumption)
theorem Qoi {fs bs:List Str}:∀(l:List QD),QIc fs bs l=0→∀j s,l[j]? = some s→QXi fs bs s (decide (j+1=l.length))=0
|[],_,j,s,hj=>by simp at hj
|x::r,h,j,s,hj=>by
  unfold QIc at h
  obtain⟨h1,h2⟩:=QFg h
  cases j with
 |zero=>
   simp at hj
   subst hj
   rw[←h1]
   congr 1
   cases r <;> simp
 |succ j=>
   rw[←Qoi r h2 j s (by simpa using hj)]
   congr 1
   simp
theorem Qyh {fs bs:List Str}:∀(l:List QI),QCd fs bs l=0→∀b∈l,QIc fs bs b.stmts=0
|[],_,b,hb=>by cases hb
|x::r,h,b,hb=>by
  unfold QCd at h
  obtain⟨h1,h2⟩:=QFg h
  rcases List.mem_cons.1 hb with rfl|hb
  ·exact h1
  ·exact Qyh r h2 b hb
theorem Qyi {fs:List Str}:∀(l:List Qo),QQc fs l=0→∀f∈l,Qxf fs f=0
|[],_,b,hb=>by cases hb
|x::r,h,b,hb=>by
  unfold QQc at h
  obtain⟨h1,h2⟩:=QFg h
  rcases List.mem_cons.1 hb with rfl|hb
  ·exact h1
  ·exact Qyi r h2 b hb
structure Ckd (p:List Qo):Prop where
 valid:QMa p=true
 funcs:(QRc p).Nodup
 blocks:∀f∈p,(QPb f).Nodup
 stmts:∀f∈p,∀b∈f.blocks,∀j s,b.stmts[j]? = some s→QXi (QRc p) (QPb f) s (decide (j+1=b.stmts.length))=0
 vars:(QN p).length≤64
 nodes:QMd p≤256
 edges:QNd p≤1024
theorem Qzb {p:List Qo}(h:QFa p=0):Ckd p:=by
 unfold QFa at h
 split at h
 ·cases h
 rename_i hv
 split at h
 ·cases h
 rename_i hd
 split at h
 ·rename_i hn;exact absurd h hn
 rename_i hf
 split at h
 ·cases h
 rename_i hs;have hf':QQc (QRc p) p=0:=by simpa using hf
 have hfe:∀f∈p,(QPb f).Nodup∧QCd (QRc p) (QPb f) f.blocks=0:=fun f hm=>by
  have h1:=Qyi p hf' f hm;unfold Qxf at h1
  split at h1
  ·cases h1
  ·rename_i h2;exact⟨QJj h2,h1⟩
 refine⟨by simpa using hv,QJj hd,fun f hm=>(hfe f hm).1,fun f hm b hb=>Qoi _ (Qyh _ (hfe f hm).2 b hb),?_,?_,?_⟩ <;> omega
end
section
section
variable {α:Type} [DecidableEq α]
theorem Qgc {l:List α}{x:α}(h:x∈l):∃k:Nat,idxI l x=k∧l[k]? = some x:=by
 refine⟨l.idxOf x,by unfold idxI;rw[if_pos h],?_⟩;rw[List.getElem?_eq_getElem (List.idxOf_lt_length_of_mem h)];simp
theorem QLp {l:List α}{x:α}(h:x∉l):idxI l x = -1:=by unfold idxI;rw[if_neg h]
theorem QBg {l:List α}(hn:l.Nodup){k:Nat}{x:α}(h:l[k]? = some x):idxI l x=k:=by
 obtain⟨hk,rfl⟩:=List.getElem?_eq_some_iff.1 h;have hm:l[k]∈l:=List.getElem_mem hk;unfold idxI;rw[if_pos hm]
 congr 1
 exact hn.idxOf_getElem k hk
end
theorem Ckd.func {p:List Qo}(h:Ckd p){f:Qo}(hf:f∈p):QNc f=true:=by
 have hv:=h.valid;unfold QMa at hv;simp only[Bool.and_eq_true,List.all_eq_true] at hv;exact hv.2.2 f hf
theorem Ckd.block {p:List Qo}(h:Ckd p){f:Qo}(hf:f∈p):1≤f.blocks.length∧∀b∈f.blocks,Qoc b=true:=by
 have hv:=h.func hf;unfold QNc at hv;simp only[Bool.and_eq_true,List.all_eq_true,decide_eq_true_eq] at hv;exact⟨hv.2.1,hv.2.2.2⟩
theorem Ckd.stmt {p:List Qo}(h:Ckd p){f:Qo}(hf:f∈p){b:QI}(hb:b∈f.blocks):1≤b.stmts.length∧∀s∈b.stmts,stmtB s=true:=by
 have hv:=(h.block hf).2 b hb;unfold Qoc at hv;simp only[Bool.and_eq_true,List.all_eq_true,decide_eq_true_eq] at hv;exact⟨hv.2.1,hv.2.2.2⟩
structure At (p:List Qo)(i k j:Nat)(f:Qo)(b:QI)(s:QD):Prop where
 hf:p[i]? = some f
 hb:f.blocks[k]? = some b
 hs:b.stmts[j]? = some s
theorem At.fm {p:List Qo}{i k j:Nat}{f:Qo}{b:QI}{s:QD}(h:At p i k j f b s):f∈p:=List.mem_of_getElem? h.hf
theorem At.bm {p:List Qo}{i k j:Nat}{f:Qo}{b:QI}{s:QD}(h:At p i k j f b s):b∈f.blocks:=List.mem_of_getElem? h.hb
theorem At.sm {p:List Qo}{i k j:Nat}{f:Qo}{b:QI}{s:QD}(h:At p i k j f b s):s∈b.stmts:=List.mem_of_getElem? h.hs
theorem At.d {p:List Qo}{i k j:Nat}{f:Qo}{b:QI}{s:QD}(h:At p i k j f b s)(x:Int):Qec p ⟨x,i,k,j⟩=s:=by
 unfold Qec QFd;simp[h.hf,h.hb,h.hs]
theorem At.fn {p:List Qo}{i k j:Nat}{f:Qo}{b:QI}{s:QD}(h:At p i k j f b s):fnOf p i=f:=by
 unfold fnOf;simp[h.hf]
theorem QPp {p:List Qo}{i:Nat}{f:Qo}(h:p[i]? = some f):fnOf p i=f:=by
 unfold fnOf;simp[h]
theorem At.node3 {p:List Qo}{i k j:Nat}{f:Qo}{b:QI}{s:QD}(h:At p i k j f b s):(⟨3,i,k,j⟩:Qx)∈QB p 0:=QLb.2 ⟨i,f,h.hf,.inr (.inr ⟨k,b,j,s,h.hb,h.hs,.inl rfl⟩)⟩
theorem At.node4 {p:List Qo}{i k j:Nat}{f:Qo}{b:QI}{s:QD}(h:At p i k j f b s)(h3:s.op=3):(⟨4,i,k,j⟩:Qx)∈QB p 0:=QLb.2 ⟨i,f,h.hf,.inr (.inr ⟨k,b,j,s,h.hb,h.hs,.inr ⟨h3,rfl⟩⟩)⟩
theorem QYt {p:List Qo}{i:Nat}{f:Qo}(h:p[i]? = some f):(⟨1,i,-1,-1⟩:Qx)∈QB p 0:=QLb.2 ⟨i,f,h,.inl rfl⟩
theorem QXt {p:List Qo}{i:Nat}{f:Qo}(h:p[i]? = some f):(⟨2,i,-1,-1⟩:Qx)∈QB p 0:=QLb.2 ⟨i,f,h,.inr (.inl rfl)⟩
theorem Ckd.at_ {p:List Qo}(hc:Ckd p){i k j:Nat}{f:Qo}{b:QI}{s:QD}(h:At p i k j f b s):
  stmtB s=true∧(QTg s.op=decide (j+1=b.stmts.length))∧∀t∈s.targets,t∈(if s.op==3 then QRc p else QPb f):=by
 have h1:=hc.stmts f h.fm b h.bm j s h.hs;unfold QXi at h1
 split at h1
 ·cases h1
 rename_i h2;have h3:(s.targets.all fun t=>(if s.op==3 then QRc p else QPb f).contains t)=true:=by
  cases hq:(s.targets.all fun t=>(if s.op==3 then QRc p else QPb f).contains t) with
 |true=>rfl
 |false=>rw[hq] at h1;simp at h1
 refine⟨(hc.stmt h.fm h.bm).2 s h.sm,by simpa using h2,fun t ht=>?_⟩;have:=List.all_eq_true.1 h3 t ht
 simpa using this
theorem QZi {s:QD}(h:stmtB s=true)(h3:s.op=3):∃t,s.targets=[t]:=by
 unfold stmtB opB at h;simp only[Bool.and_eq_true] at h;have h4:=h.2.2;rw[h3] at h4;simp at h4;obtain⟨t,ht⟩:=List.length_eq_one_iff.1 h4.2.2;exact⟨t,ht⟩
theorem Ckd.callee {p:List Qo}(hc:Ckd p){i k j:Nat}{f:Qo}{b:QI}{s:QD}(h:At p i k j f b s)(h3:s.op=3):∃(g:Nat) (f':Qo),fnI p (tgt s)=g∧p[g]? = some f'∧f'.name=tgt s:=by
 obtain⟨h1,-,h2⟩:=hc.at_ h;obtain⟨t,ht⟩:=QZi h1 h3;have hm:t∈QRc p:=by
  have:=h2 t (by simp[ht]);rw[h3] at this
  simpa using this
 obtain⟨g,hg,hg2⟩:=Qgc hm;have e:tgt s=t:=by unfold tgt;rw[ht];rfl
 rw[e];unfold QRc at hg2;rw[List.getElem?_map] at hg2
 cases hp:p[g]? with
|none=>rw[hp] at hg2;cases hg2
|some f'=>
  rw[hp] at hg2;exact⟨g,f',hg,hp,by simpa using hg2⟩
theorem Ckd.fn_at {p:List Qo}(hc:Ckd p){i:Nat}{f:Qo}(h:p[i]? = some f):fnI p f.name=i:=by
 refine QBg hc.funcs ?_;unfold QRc;rw[List.getElem?_map,h];rfl
theorem Qsh {p:List Qo}(hc:Ckd p)(n m:Qx):(n,m)∈Qva p (QB p 0)↔n∈QB p 0∧m∈Qmd p (QB p 0) n:=by
 have hm:(n,m)∈Qva p (QB p 0)↔∃a∈QB p 0,(n,m)∈QU p a:=by
  unfold Qva;simp only[List.mem_flatten,List.mem_map];constructor
  ·rintro⟨l,⟨a,h1,rfl⟩,h2⟩;exact⟨a,h1,h2⟩
  ·rintro⟨a,h1,h2⟩;exact⟨_,⟨a,h1,rfl⟩,h2⟩
 rw[hm];constructor
 ·rintro⟨a,ha,he⟩;obtain⟨i,f,hi,hk⟩:=QLb.1 ha;rcases hk with rfl|rfl|⟨k,b,j,s,hb,hs,hk⟩
  ·simp only[QU,if_true,List.mem_singleton,Prod.mk.injEq] at he;obtain⟨rfl,rfl⟩:=he;exact⟨ha,by simp[Qmd]⟩
  ·simp[QU] at he
  ·have hA:At p i k j f b s:=⟨hi,hb,hs⟩;rcases hk with rfl|⟨h3,rfl⟩
   ·have hd:=hA.d 3;have hfn:=hA.fn;unfold QU at he;rw[if_neg ZS,if_pos rfl,hd] at he;by_cases h7:s.op=7∨s.op=8
    ·rw[if_pos h7] at he;obtain⟨t,ht,e⟩:=List.mem_map.1 he;injection e with e1 e2
     subst e1 e2;refine⟨ha,?_⟩;unfold Qmd;rw[if_neg ZS,if_neg ZS,hd,if_neg ZO,if_neg ZO,if_pos h7];exact List.mem_map.2 ⟨t,ht,rfl⟩
    rw[if_neg h7] at he;by_cases h9:s.op=9
    ·rw[if_pos h9] at he;simp only[List.mem_singleton,Prod.mk.injEq] at he;obtain⟨rfl,rfl⟩:=he;refine⟨ha,?_⟩;unfold Qmd;rw[if_neg ZS,if_neg ZS,hd,if_pos h9];simp
    rw[if_neg h9] at he;by_cases h3:s.op=3
    ·rw[if_pos h3] at he;obtain⟨g,f',hg,hg2,hg3⟩:=hc.callee hA h3;rw[hg] at he;simp only[List.mem_cons,Prod.mk.injEq,List.not_mem_nil,or_false] at he;rcases he with⟨rfl,rfl⟩|⟨rfl,rfl⟩|⟨rfl,rfl⟩
     ·refine⟨ha,?_⟩;unfold Qmd;rw[if_neg ZS,if_neg ZS,hd,if_neg h9,if_pos ⟨h3,rfl⟩,hg];simp
     ·refine⟨QXt hg2,?_⟩;unfold Qmd;rw[if_neg ZS,if_pos rfl];refine List.mem_filter.2 ⟨hA.node4 h3,?_⟩;simp[hA.d 4,QPp hg2,hg3]
     ·refine⟨hA.node4 h3,?_⟩;unfold Qmd;rw[if_neg ZS,if_neg ZS,hA.d 4,if_neg h9,if_neg ZS,if_neg h7];simp
    ·rw[if_neg h3] at he;simp only[List.mem_singleton,Prod.mk.injEq] at he;obtain⟨rfl,rfl⟩:=he;refine⟨ha,?_⟩;unfold Qmd;rw[if_neg ZS,if_neg ZS,hd,if_neg h9,if_neg (fun h=>h3 h.1),if_neg h7];simp
   ·simp[QU] at he
 ·rintro⟨hn,hx⟩;obtain⟨i,f,hi,hk⟩:=QLb.1 hn;rcases hk with rfl|rfl|⟨k,b,j,s,hb,hs,hk⟩
  ·refine⟨_,hn,?_⟩;simp only[Qmd,if_true,List.mem_singleton] at hx;subst hx;simp[QU]
  ·unfold Qmd at hx;rw[if_neg ZS,if_pos rfl] at hx;obtain⟨hm1,hm2⟩:=List.mem_filter.1 hx;simp only[Bool.and_eq_true,beq_iff_eq,QPp hi] at hm2;obtain⟨i',f',hi',hk'⟩:=QLb.1 hm1;rcases hk' with rfl|rfl|⟨k,b,j,s,hb,hs,hk'⟩
   ·simp at hm2
   ·simp at hm2
   ·have hA:At p i' k j f' b s:=⟨hi',hb,hs⟩;rcases hk' with rfl|⟨h3,rfl⟩
    ·simp at hm2
    ·refine⟨_,hA.node3,?_⟩;unfold QU;rw[if_neg ZS,if_pos rfl,hA.d 3,if_neg ZO,if_neg ZO,if_pos h3];have h5:=hm2.2;rw[hA.d 4] at h5;rw[h5,hc.fn_at hi];simp
  ·have hA:At p i k j f b s:=⟨hi,hb,hs⟩;rcases hk with rfl|⟨h3,rfl⟩
   ·refine⟨_,hn,?_⟩;unfold Qmd at hx;rw[if_neg ZS,if_neg ZS,hA.d 3] at hx;unfold QU;rw[if_neg ZS,if_pos rfl,hA.d 3];by_cases h9:s.op=9
    ·rw[if_pos h9] at hx;rw[if_neg ZO,if_pos h9]
     simpa using hx
    rw[if_neg h9] at hx;by_cases h3:s.op=3
    ·rw[if_pos ⟨h3,rfl⟩] at hx;rw[if_neg ZO,if_neg h9,if_pos h3];simp only[List.mem_singleton] at hx;subst hx;simp
    rw[if_neg (fun h=>h3 h.1)] at hx;by_cases h7:s.op=7∨s.op=8
    ·rw[if_pos h7] at hx ⊢;obtain⟨t,ht,rfl⟩:=List.mem_map.1 hx;exact List.mem_map.2 ⟨t,ht,rfl⟩
    ·rw[if_neg h7] at hx;rw[if_neg h7,if_neg h9,if_neg h3]
     simpa using hx
   ·refine⟨_,hA.node3,?_⟩;unfold Qmd at hx;rw[if_neg ZS,if_neg ZS,hA.d 4,if_neg ZO,if_neg ZS,if_neg ZO] at hx;unfold QU;rw[if_neg ZS,if_pos rfl,hA.d 3,if_neg ZO,if_neg ZO,if_pos h3];simp only[List.mem_singleton] at hx;subst hx;simp
theorem Qum {p:List Qo}(hc:Ckd p){n m:Qx}(hn:n∈QB p 0)(hx:m∈Qmd p (QB p 0) n):m∈QB p 0:=by
 have first:∀(i k:Nat) (f:Qo) (b:QI),p[i]? = some f→f.blocks[k]? = some b→(⟨3,(i:Nat),(k:Nat),0⟩:Qx)∈QB p 0:=fun i k f b h1 h2=>by
  have h3:=(hc.stmt (List.mem_of_getElem? h1) (List.mem_of_getElem? h2)).1;exact At.node3 (j:=0) ⟨h1,h2,List.getElem?_eq_getElem ZO⟩
 obtain⟨i,f,hi,hk⟩:=QLb.1 hn;rcases hk with rfl|rfl|⟨k,b,j,s,hb,hs,hk⟩
 ·simp only[Qmd,if_true,List.mem_singleton] at hx;subst hx;have h1:=(hc.block (List.mem_of_getElem? hi)).1;exact first i 0 f _ hi (List.getElem?_eq_getElem ZO)
 ·unfold Qmd at hx;rw[if_neg ZS,if_pos rfl] at hx;exact(List.mem_filter.1 hx).1
 ·have hA:At p i k j f b s:=⟨hi,hb,hs⟩;obtain⟨hsb,hterm,htg⟩:=hc.at_ hA;have nxt:QTg s.op=false→(⟨3,(i:Nat),(k:Nat),(j:Int)+1⟩:Qx)∈QB p 0:=fun ht=>by
   have h1:=(List.getElem?_eq_some_iff.1 hs).1;rw[ht] at hterm;have h2:j+1<b.stmts.length:=by
    have:¬(j+1=b.stmts.length):=by simpa using hterm.symm
    omega
   have:=At.node3 (j:=j+1) (p:=p) (i:=i) (k:=k) ⟨hi,hb,List.getElem?_eq_getElem h2⟩
   simpa using this
  have goal3:∀x:Int,(x=3∨x=4∧s.op=3)→m∈Qmd p (QB p 0) ⟨x,i,k,j⟩→m∈QB p 0:=fun x hx3 hx=>by
   unfold Qmd at hx;rw[if_neg (by simp;omega),if_neg (by simp;omega),hA.d x] at hx;by_cases h9:s.op=9
   ·rw[if_pos h9] at hx;simp at hx;subst hx;exact QXt hi
   rw[if_neg h9] at hx;by_cases h3:s.op=3∧x=3
   ·rw[if_pos h3] at hx;obtain⟨g,f',hg,hg2,-⟩:=hc.callee hA h3.1;rw[hg] at hx;simp at hx;subst hx;exact QYt hg2
   rw[if_neg h3] at hx;by_cases h7:s.op=7∨s.op=8
   ·rw[if_pos h7] at hx;obtain⟨t,ht,rfl⟩:=List.mem_map.1 hx;have h4:=htg t ht;rw[if_neg (by simp;omega)] at h4;obtain⟨q,hq,hq2⟩:=Qgc h4;simp only[hA.fn];unfold blkI;rw[hq];unfold QPb at hq2;rw[List.getElem?_map] at hq2
    cases hbq:f.blocks[q]? with
   |none=>rw[hbq] at hq2;cases hq2
   |some b'=>exact first i q f b' hi hbq
   ·rw[if_neg h7] at hx;simp at hx;subst hx;refine nxt ?_;unfold QTg;simp;omega
  rcases hk with rfl|⟨h3,rfl⟩
  ·exact goal3 3 (.inl rfl) hx
  ·exact goal3 4 (.inr ⟨rfl,h3⟩) hx
end
end Go.Proofs.YtijekimobahgpaaGreatDoor
