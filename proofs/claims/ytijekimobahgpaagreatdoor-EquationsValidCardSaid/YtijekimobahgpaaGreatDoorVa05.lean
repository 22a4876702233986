/- A part of the proof. -/
import Derived.Test.YtijekimobahgpaaGreatDoorVa04
import Derived.Maps.AppendAt
import Derived.Lib.AppendZerosOnto
import Derived.Deep.CutRange
import Derived.Lib.SliceRun
set_option linter.unusedVariables false
set_option linter.unusedSimpArgs false
set_option linter.unusedSectionVars false
set_option maxRecDepth 100000
set_option maxHeartbeats 16000000
namespace Go.Proofs.YtijekimobahgpaaGreatDoor
section
open Go.RowKit
variable [Base]
theorem Qjj {P:Program}(ea:Option Addr)(w:World)(base:Nat)(t ty e:TypeId)(i:TypeInfo)(size:Nat)(ht:P.underlying t=some (.slice e))(hi:P.info? e=some i)(v:Value)(n:Nat)(xs:List Value)(hown:w.ownsRow base e size v n xs):(Builtin.append_ #[t,t] ty #[v,.slice ea 0 0]).run P w=.ok v w:=by
 have hz:∀a:Addr,(loadCells a 0).run P w=.ok #[] w:=fun a=>by simp[loadCells,loadCellsFrom]
 rcases hown.2 with⟨rfl,rfl⟩|⟨g,cap,cur,rfl,_,_,hnc,_⟩
 ·cases ea <;> simp[Builtin.append_,run_underlying ht,sizeOf,typeInfo,hi,Builtin.lenOf,Builtin.firstCells,hz]
 ·cases ea <;> simp[Builtin.append_,run_underlying ht,sizeOf,typeInfo,hi,Builtin.lenOf,Builtin.firstCells,hz,hnc,storeCells]
theorem Qun (b off j:Nat):(⟨b,off,none⟩:Addr).add j=⟨b,off+j,none⟩:=by
 unfold Addr.add
 split
 ·rename_i h;subst h;rfl
 ·rfl
theorem QXa {w:World}{base:Nat}{e:TypeId}{size:Nat}{v:Value}{n:Nat}{xs:List Value}(h:w.ownsRow base e size v n xs):∃a c,v=.slice a n c∧n≤c∧c≤maxLen:=by
 rcases h.2 with⟨rfl,rfl⟩|⟨g,cap,cur,rfl,_,_,hnc,hc,_⟩
 ·exact⟨none,0,rfl,Nat.le_refl _,Nat.zero_le _⟩
 ·exact⟨_,_,rfl,hnc,hc⟩
theorem Qbk {P:Program}(w:World)(base:Nat)(t ty e:TypeId)(z:Value)(size bytes:Nat)(ht:P.underlying t=some (.slice e))(hi:(P.info? e).map (fun i=>(i.zero,i.size,i.bytes))=some (some z,size,bytes))(hzs:z.cells.size=size)(hsz:0<size)(v:Value)(n:Nat)(xs:List Value)(hown:w.ownsRow base e size v n xs)(u:Value)(m:Nat)(ys:List Value)(hsl:Qg w e size u ys)(hm:ys.length=m*size)(h1:ys.all Value.oneCell'=true)(h63:n+m≤maxLen)(hbytes:(n+m)*bytes≤140737488355328)(hbase:base≤w.heap.size):
  ∃a c w',(Builtin.append_ #[t,t] ty #[v,u]).run P w=.ok (.slice a (n+m) c) w'∧w'.ownsRow base e size (.slice a (n+m) c) (n+m) (xs++ys)∧w.grownBy w' v.ownBlock:=by
 obtain⟨i,hi',hz,hs1,hs2⟩:=info_parts hi;obtain⟨m',cap,e1,e2,e3,h4⟩:=hsl;have hmm:m'=m:=Nat.eq_of_mul_eq_mul_right hsz (e1.symm.trans hm);subst hmm;rcases h4 with⟨⟨ea,rfl⟩,rfl⟩|⟨b,off,c,fr,rfl,hb,hc⟩
 ·have hy:ys=[]:=List.length_eq_zero_iff.1 ZO;subst hy;obtain⟨a,c,rfl,_⟩:=QXa hown;refine⟨a,c,w,Qjj ea w base t ty e i size ht hi' _ n xs hown,by simpa using hown,World.grownBy.refl w _⟩
 ·have hcells:∀j u,ys[j]? = some u→w.cell? ((⟨b,off,none⟩:Addr).add j)=some u:=by
   intro j u hu;have hj:=(List.getElem?_eq_some_iff.1 hu).1;rw[Qun,←hu,←hc j hj];exact hb.cell _
  obtain⟨v',w',hrun,h2,h3,_,_⟩:=run_append_own_at (P:=P) w base t ty e i z size bytes ht hi' hz hs1 hs2 hzs hsz v n xs hown ⟨b,off,none⟩ m' cap ys e1 hcells (fun u hu=>List.all_eq_true.1 h1 u hu) h63 hbytes hbase;obtain⟨a,c,rfl,_⟩:=QXa h2;exact⟨a,c,w',hrun,h2,h3⟩
theorem Qlf {P:Program}{w:World}{o:Oper}{a:Act}{K:Act→World→Prop}{Q:Exit→Act→World→Prop}(s x:Operand)(t:TypeId)(ho:o.op=.call { callee:=.builtin .append,args:=#[s,x],argTypes:=#[t,t] })(base:Nat)(e:TypeId)(z:Value)(size bytes:Nat)(ht:P.underlying t=some (.slice e))(hi:(P.info? e).map (fun i=>(i.zero,i.size,i.bytes))=some (some z,size,bytes))(hzs:z.cells.size=size)(hsz:0<size)(v:Value)(n:Nat)(xs:List Value)(hown:w.ownsRow base e size v n xs)(hs:a.eval s=v)(u:Value)(m:Nat)(ys:List Value)(hx:a.eval x=u)(hsl:Qg w e size u ys)(hm:ys.length=m*size)(h1:ys.all Value.oneCell'=true)(h63:n+m≤maxLen)(hbytes:(n+m)*bytes≤140737488355328)(hbase:base≤w.heap.size)(h:∀g c w',w'.ownsRow base e size (.slice g (n+m) c) (n+m) (xs++ys)→w.grownBy w' v.ownBlock→K (a.put o.dst (.slice g (n+m) c)) w'):o.wp P a w K Q:=by
 obtain⟨g,c,w',hrun,h2,h3⟩:=Qbk (P:=P) w base t o.type e z size bytes ht hi hzs hsz v n xs hown u m ys hsl hm h1 h63 hbytes hbase;unfold Oper.wp execOp;simp only[ho,resolve,invoke,builtin,Sem.run_bind,Sem.run_pure,Result.andThen_ok,List.map_toArray,List.map_cons,List.map_nil,hs,hx,hrun];exact h g c w' h2 h3
theorem wpList_append_sl {P:Program}{w:World}{ops:Array Oper}{rest:List Oper}{o:Oper}{a:Act}{Q:Exit→Act→World→Prop}(hgd:o.guard=none)(s x:Operand)(t:TypeId)(ho:o.op=.call { callee:=.builtin .append,args:=#[s,x],argTypes:=#[t,t] })(base:Nat)(e:TypeId)(z:Value)(size bytes:Nat)(ht:P.underlying t=some (.slice e))(hi:(P.info? e).map (fun i=>(i.zero,i.size,i.bytes))=some (some z,size,bytes))(hzs:z.cells.size=size)(hsz:0<size)(v:Value)(n:Nat)(xs:List Value)(hown:w.ownsRow base e size v n xs)(hs:a.eval s=v)(u:Value)(m:Nat)(ys:List Value)(hx:a.eval x=u)(hsl:Qg w e size u ys)(hm:ys.length=m*size)(h1:ys.all Value.oneCell'=true)(h63:n+m≤maxLen)(hbytes:(n+m)*bytes≤140737488355328)(hbase:base≤w.heap.size)(h:∀g c w',w'.ownsRow base e size (.slice g (n+m) c) (n+m) (xs++ys)→w.grownBy w' v.ownBlock→wpList P ops Q rest (a.put o.dst (.slice g (n+m) c)) w'):wpList P ops Q (o::rest) a w:=
 wpList_plain hgd fun _ hK=>Qlf s x t ho base e z size bytes ht hi hzs hsz v n xs hown hs u m ys hx hsl hm h1 h63 hbytes hbase fun g c w' h2 h3=>hK _ _ (h g c w' h2 h3)
end
section
open Go.RowKit
variable [Base]
theorem Qg.front {w:World}{T:TypeId}{sz b off n c:Nat}{xs:List Value}(h:Qg w T sz (.slice (some ⟨b,off,none⟩) n c) xs)(k:Nat)(hk:k≤n):Qg w T sz (.slice (some ⟨b,off,none⟩) k c) (xs.take (k*sz)):=by
 obtain⟨n',cap,h1,h2,h3,h4⟩:=h;rcases h4 with⟨⟨a',h4⟩,h0⟩|⟨b',off',cs,fr,e1,e2,e3⟩
 ·injection h4 with h4 h6 h7
  subst h0 h6 h7;obtain rfl:k=0:=by omega
  have hx:xs=[]:=List.length_eq_zero_iff.1 ZO;exact⟨0,0,by simp[hx],Nat.le_refl _,Nat.zero_le _,.inl ⟨⟨_,rfl⟩,rfl⟩⟩
 ·injection e1 with e1 e4 e5
  injection e1 with e1
  injection e1 with e6 e7
  subst e4 e5 e6 e7;have hm:=Nat.mul_le_mul_right sz hk;refine⟨k,c,by rw[List.length_take,h1];omega,by omega,h3,.inr ⟨b,off,cs,fr,rfl,e2,fun j hj=>?_⟩⟩;rw[List.length_take] at hj;rw[e3 j ZO,List.getElem?_take_of_lt ZO]
theorem Qg.back {w:World}{T:TypeId}{sz b off n c:Nat}{xs:List Value}(h:Qg w T sz (.slice (some ⟨b,off,none⟩) n c) xs)(k:Nat)(hk:k≤n):Qg w T sz (.slice (some ⟨b,off+k*sz,none⟩) (n-k) (c-k)) (xs.drop (k*sz)):=by
 obtain⟨n',cap,h1,h2,h3,h4⟩:=h;rcases h4 with⟨⟨a',h4⟩,h0⟩|⟨b',off',cs,fr,e1,e2,e3⟩
 ·injection h4 with h4 h6 h7
  subst h0 h6 h7;obtain rfl:k=0:=by omega
  have hx:xs=[]:=List.length_eq_zero_iff.1 ZO;exact⟨0,0,by simp[hx],Nat.le_refl _,Nat.zero_le _,.inl ⟨⟨_,rfl⟩,rfl⟩⟩
 ·injection e1 with e1 e4 e5
  injection e1 with e1
  injection e1 with e6 e7
  subst e4 e5 e6 e7;refine⟨n-k,c-k,by rw[List.length_drop,h1,Nat.sub_mul],by omega,by omega,.inr ⟨b,off+k*sz,cs,fr,rfl,e2,fun j hj=>?_⟩⟩;rw[List.length_drop] at hj;rw[Nat.add_assoc,e3 (k*sz+j) ZO,List.getElem?_drop]
theorem Qg.backEnd {w:World}{T:TypeId}{sz b off n c o:Nat}{xs:List Value}(h:Qg w T sz (.slice (some ⟨b,off,none⟩) n c) xs)(k:Nat)(hk:n=k):Qg w T sz (.slice (some ⟨b,o,none⟩) (n-k) (c-k)) (xs.drop (k*sz)):=by
 obtain⟨n',cap,h1,h2,h3,h4⟩:=h;rcases h4 with⟨⟨a',h4⟩,h0⟩|⟨b',off',cs,fr,e1,e2,e3⟩
 ·injection h4 with h4 h6 h7
  subst h0 h6 h7;obtain rfl:k=0:=by omega
  have hx:xs=[]:=List.length_eq_zero_iff.1 ZO;exact⟨0,0,by simp[hx],Nat.le_refl _,Nat.zero_le _,.inl ⟨⟨_,rfl⟩,rfl⟩⟩
 ·injection e1 with e1 e4 e5
  injection e1 with e1
  injection e1 with e6 e7
  subst e4 e5 e6 e7;subst hk;have hx:xs.drop (n*sz)=[]:=by rw[←h1];exact List.drop_length
  rw[hx];refine⟨n-n,c-n,by simp,by omega,by omega,.inr ⟨b,o,cs,fr,rfl,e2,fun j hj=>?_⟩⟩;simp at hj
theorem Qil {xs:List Value}(h:xs.all Value.oneCell'=true)(k:Nat):(xs.take k).all Value.oneCell'=true:=by
 rw[List.all_eq_true] at h ⊢;exact fun x hx=>h x (List.mem_of_mem_take hx)
theorem QBt {xs:List Value}(h:xs.all Value.oneCell'=true)(k:Nat):(xs.drop k).all Value.oneCell'=true:=by
 rw[List.all_eq_true] at h ⊢;exact fun x hx=>h x (List.mem_of_mem_drop hx)
theorem QVr {w w':World}{base:Nat}{e:TypeId}{size:Nat}{v:Value}{n:Nat}{xs:List Value}(h:w.ownsRow base e size v n xs)(hb:∀q,q<w.heap.size→base≤q→w'.heap[q]? = w.heap[q]?):w'.ownsRow base e size v n xs:=by
 obtain⟨h1,h2⟩:=h;refine⟨h1,?_⟩;rcases h2 with h2|⟨g,cap,cur,e1,e2,e3,e4⟩
 ·exact .inl h2
 ·exact .inr ⟨g,cap,cur,e1,e2,(hb g (Qb e3) e2).trans e3,e4⟩
theorem QZd {w w':World}{base:Nat}{e:TypeId}{size:Nat}{v:Value}{n:Nat}{xs:List Value}(h:w.ownsRow base e size v n xs)(hb:Below w.heap.size w w'):w'.ownsRow base e size v n xs:=QVr h fun q hq _=>hb.block q hq
theorem Qjm {w:World}{base base':Nat}{e:TypeId}{size:Nat}{v:Value}{n:Nat}{xs:List Value}(h:w.ownsRow base e size v n xs)(hb:base'≤base):w.ownsRow base' e size v n xs:=by
 obtain⟨h1,h2⟩:=h;refine⟨h1,?_⟩;rcases h2 with h2|⟨g,cap,cur,e1,e2,e3⟩
 ·exact .inl h2
 ·exact .inr ⟨g,cap,cur,e1,Nat.le_trans hb e2,e3⟩
end
section
open Go.RowKit
variable [Base]
structure Qlg (α:Type) where
 T:TypeId
 sz:Nat
 pos:0<sz
 C:World→List Value→α→Prop
 inner:List TypeId
 len:∀{w cs x},C w cs x→cs.length=sz
 keep:∀{w w' cs x},(∀U∈inner,Qf U w w')→C w cs x→C w' cs x
variable {α:Type} {E:Qlg α}
def Qoa (E:Qlg α)(w:World)(v:Value)(l:List α):Prop:=∃xss,Qg w E.T E.sz v xss.flatten∧All2 (E.C w) xss l
theorem Qoa.nil {w:World}:Qoa E w (.slice none 0 0) []:=⟨[],Qg.nil,trivial⟩
theorem Qoa.keep {w w':World}{v:Value}{l:List α}(h:Qoa E w v l)(hs:∀U∈E.T::E.inner,Qf U w w'):Qoa E w' v l:=by
 obtain⟨xss,h1,h2⟩:=h;exact⟨xss,h1.same (hs _ ZS),h2.mono fun _ _=>E.keep fun U hU=>hs U (List.mem_cons_of_mem _ hU)⟩
theorem Qoa.below {w w':World}{v:Value}{l:List α}(h:Qoa E w v l)(hb:Below w.heap.size w w'):Qoa E w' v l:=h.keep fun _ _=>Qf.below hb
theorem Qoa.cell {w:World}{v:Value}{l:List α}(h:Qoa E w v l):∃a c,v=.slice a l.length c∧l.length≤maxLen∧l.length≤c∧c≤maxLen∧∀k x,l[k]? = some x→∃b off cs,a=some ⟨b,off,none⟩∧b<w.heap.size∧E.C w cs x ∧
  ∀j,j<E.sz→w.cell? ⟨b,off+k*E.sz+j,none⟩=cs[j]?:=by
 obtain⟨xss,h1,h2⟩:=h;obtain⟨a,c,e,hm,h3,h4,hc⟩:=QYg h1 (h2.eachR (fun _ _ h=>E.len h)) E.pos;rw[h2.length] at e hm h3;refine⟨a,c,e,hm,h3,h4,fun k x hk=>?_⟩;obtain⟨cs,hx,hC⟩:=h2.satR hk;obtain⟨b,off,rfl,hlt,_,hc2⟩:=hc k _ hx;exact⟨b,off,cs,rfl,hlt,hC,hc2⟩
def QG (E:Qlg α)(B:Nat)(w:World)(v:Value)(l:List α):Prop:=∃xss,w.ownsRow B E.T E.sz v l.length xss.flatten∧All2 (E.C w) xss l
theorem QG.rows {B:Nat}{w:World}{v:Value}{l:List α}(h:QG E B w v l):Qoa E w v l:=by
 obtain⟨xss,h1,h2⟩:=h;exact⟨xss,Qg.of_owns h1,h2⟩
theorem QG.nil {B:Nat}{w:World}:QG E B w (.slice none 0 0) []:=⟨[],⟨by simp,.inl ⟨rfl,rfl⟩⟩,trivial⟩
theorem QG.below {B:Nat}{w w':World}{v:Value}{l:List α}(h:QG E B w v l)(hb:Below w.heap.size w w'):QG E B w' v l:=by
 obtain⟨xss,h1,h2⟩:=h;exact⟨xss,QZd h1 hb,h2.mono fun _ _=>E.keep fun U _=>Qf.below hb⟩
theorem QG.slice {B:Nat}{w:World}{v:Value}{l:List α}(h:QG E B w v l):∃a c,v=.slice a l.length c:=by
 obtain⟨a,c,e,-⟩:=h.rows.cell;exact⟨a,c,e⟩
theorem QG.snoc {B:Nat}{w:World}{v:Value}{l:List α}{x:α}{news:List Value}{xss:List (List Value)}{g cap:Nat}(h:w.ownsRow B E.T E.sz (.slice (some ⟨g,0,none⟩) (l.length+1) cap) (l.length+1) (xss.flatten++news))(h2:All2 (E.C w) xss l)(hx:E.C w news x):QG E B w (.slice (some ⟨g,0,none⟩) (l.length+1) cap) (l++[x]):=by
 refine⟨xss++[news],?_,h2.append ⟨hx,trivial⟩⟩;rw[List.length_append,List.flatten_append]
 simpa using h
end
section
open Go.RowKit
variable [Base]
abbrev TS:TypeId:=9
theorem Qmt:Tryz.prog.underlying TS=some .string:=Tryz.underlying9
theorem QCe:Tryz.prog.underlying 163=some (.map TS 4):=Tryz.underlying163
theorem zeroB (w:World):(zeroValue 4).run Tryz.prog w=.ok (.bool false) w:=by kernel_rfl
noncomputable abbrev strK:KeyE Tryz.prog TS (List UInt8):=Qgu Qmt
def Qnb (w:World)(b n:Nat)(l:List Str):Prop:=∃th,MapG strK Qbc w b n (fun x=>l.contains x) th
theorem Qnb.below {w w':World}{b n:Nat}{l:List Str}(h:Qnb w b n l)(hb:Below w.heap.size w w'):Qnb w' b n l:=by
 obtain⟨th,h⟩:=h;exact⟨th,h.below hb⟩
theorem Qnb.lt {w:World}{b n:Nat}{l:List Str}(h:Qnb w b n l):b<w.heap.size:=by
 obtain⟨th,h⟩:=h;exact h.lt
theorem Qnb.look {w:World}{b n:Nat}{l:List Str}(h:Qnb w b n l){x:Str}(hx:x.length≤maxLen):(Instr.lookup 163 (.map (some b)) (sv x) false).run Tryz.prog w=.ok (.bool (l.contains x)) w:=by
 obtain⟨th,h⟩:=h;exact h.look QCe (zeroB w) hx
def DupQ (l:List Str)(w:World)(e:Ending)(w':World):Prop:=∃b,e=.returned (.tuple #[iv (dupI l),.map (some b)])∧Qnb w' b l.length l∧w.heap.size≤b∧Below w.heap.size w w'
def Qif (l:List Str)(i:Nat)(a:Int):Prop:=(a = -1∧dupI l=QKj (l.take i) (l.drop i) i)∨(0≤a∧dupI l=a)
theorem Qif.start (l:List Str):Qif l 0 (-1):=.inl ⟨rfl,by simp[dupI]⟩
theorem Qif.step {l:List Str}{i:Nat}{a:Int}{x:Str}(h:Qif l i a)(hx:l[i]? = some x):Qif l (i+1) (if (l.take i).contains x=true∧a<0 then (i:Int) else a):=by
 obtain⟨hi,rfl⟩:=List.getElem?_eq_some_iff.1 hx;rcases h with⟨rfl,h⟩|⟨h0,h⟩
 ·rw[List.drop_eq_getElem_cons hi] at h;unfold QKj at h;by_cases hc:(l.take i).contains l[i]=true
  ·rw[if_pos hc] at h;rw[if_pos ⟨hc,by omega⟩];exact .inr ⟨by omega,h⟩
  ·rw[if_neg hc] at h;rw[if_neg (fun q=>hc q.1)];refine .inl ⟨rfl,?_⟩;rw[h,List.take_add_one,List.getElem?_eq_getElem hi];rfl
 ·rw[if_neg ZO];exact .inr ⟨h0,h⟩
theorem Qif.fin {l:List Str}{a:Int}(h:Qif l l.length a):dupI l=a:=by
 rcases h with⟨rfl,h⟩|⟨_,h⟩
 ·rw[h];simp[QKj]
 ·exact h
theorem Qyd {w w':World}{b B:Nat}(hg:w.grownBy w' (some b))(hlt:b<w.heap.size)(hb:B≤b):Below B w w':=
 ⟨hg.os,hg.tape,hg.output,hg.size,fun k hk=>by
  rcases Nat.lt_or_ge k w.heap.size with h|h
  ·exact hg.block k h (by intro e;injection e with e;omega)
  ·omega⟩
theorem QFs (p:List Qo)(hp:∀f∈p,f.name.length≤1000)(v:Value)(w:World)(h:QAa w v p):Calls Tryz.prog 155 #[v,.func (.func 156) #[] #[]] w (DupQ (p.map Qo.name) w):=by
 obtain⟨a,c,rfl,hn,hc⟩:=h.cell;have HC:=Zh hc;have HP:=Zh (show ∀f∈p,f.name.length≤maxLen from fun f hf=>Nat.le_trans (hp f hf) (by unfold maxLen;omega));obtain⟨n,hl⟩:=Ze p.length;rw[hl] at hn ⊢;unfold maxLen at hn;have HL:=Zh hl;obtain⟨l,hln⟩:=Ze (p.map Qo.name);have HNM:=Zh hln;have HLL:=Zh (show l.length=n by rw[←hln,List.length_map,hl]);rw[hln];obtain⟨mb,hmb⟩:=Ze w.heap.size;have HMB:=Zh hmb;obtain⟨W,hW⟩:=Ze (w.alloc (.map #[] 0));have HWW:=Zh hW;have HM0:=Zh (show Qnb W mb 0 (l.take 0) by rw[←hW,←hmb];exact⟨_,(MapG.made strK Qbc w).congr (fun x=>by simp[Qbc]) (fun _=>rfl)⟩);have HB0:=Zh (show Below mb w W by rw[←hW,←hmb];exact Zb);clear hc h hl hln hp hW;have hmm:=@run_makeMap Tryz.prog;go_enter Tryz.func155,Tryz.ntmps155;go_upto_region 2 with(fail)
 rw[show w.alloc (.map #[] 0)=W from HWW.o]
 try rw[hmb]
 clear hmb hmm;go_wp2;go_loopw [7,13] (fun y7 y13 wr=>∃(i:Nat) (q:Int),i≤n∧y13=.int .i64 i∧y7=.int .i64 q∧-1≤q∧q≤n∧Hid (Qif l i q)∧Hid (Qnb wr mb i (l.take i))∧Hid (Below mb w wr)) (fun _ y _=>n-(intOf y).toNat)
 case atStart=>exact⟨0,-1,Nat.zero_le _,rfl,rfl,Int.le_refl _,by omega,Qif.start l,HM0.o,HB0.o⟩
 case round=>
  obtain⟨i,q,hi,rfl,rfl,hq1,hq2,HD,HM,HB⟩:=hrel;by_cases hlt:i<n;rotate_left
  ·have hin:i=n:=by omega
   have HF:=Zh (show dupI l=q from Qif.fin (by rw[HLL.o,←hin];exact HD.o));have HM2:=Zh (show Qnb wr mb l.length l by have h1:=HM.o;rw[hin,←HLL.o,List.take_length] at h1;exact h1);clear hin;go_wp2;rw[←HF.o];exact bodyPost_ret (v:=.tuple #[iv (dupI l),.map (some mb)]) (by simp[results,Tryz.results155,go_sem,HF.o]) rfl ⟨mb,rfl,HM2.o,by rw[HMB.o];exact Nat.le_refl _,by rw[HMB.o];exact HB.o⟩
  ·obtain⟨f,hf⟩:∃f,p[i]? = some f:=⟨_,List.getElem?_eq_getElem (by rw[HL.o];exact hlt)⟩;obtain⟨fb,off,bv,rfl,hfb,g0,g1,hbl⟩:=HC.o i f hf;obtain⟨ba,bc,rfl,-,-⟩:=hbl.cell;obtain⟨bn,hbn⟩:=Ze (List.length f.blocks);rw[hbn] at g1;clear hbl hbn;have hmw:=HMB.o;have g0:=(HB.o.cell (p:=⟨fb,off+i*2,none⟩) (by show fb<mb;omega)).trans g0;have g1:=(HB.o.cell (p:=⟨fb,off+i*2+1,none⟩) (by show fb<mb;omega)).trans g1;have HX:=Zh (show l[i]? = some f.name by rw[←HNM.o,List.getElem?_map,hf];rfl);have HFL:=Zh (HP.o f (List.mem_of_getElem? hf));obtain⟨x,hx⟩:=Ze f.name;rw[hx] at g0 HX HFL;have hin:(i:Int)<(n:Int):=by omega
   obtain⟨U,hU⟩:=Ze (wr.alloc (.cells #[sv x,.slice ba bn bc] 89));have HXB:=Zh (show U.heap[wr.heap.size]? = some (.cells #[sv x,.slice ba bn bc] 89 (0,0)) by rw[←hU];exact heap_alloc_new _ _);have BU:=Zh (show Below wr.heap.size wr U by rw[←hU];exact Zb);have HUU:=Zh hU;have hml:mb<wr.heap.size:=HM.o.lt;obtain⟨xb,hxb⟩:=Ze wr.heap.size;rw[hxb] at HXB BU hml;have HXE:=Zh hxb;clear hf hx hU hmw;go_upto_region 6 with(fail)
   rw[show wr.alloc (.cells #[sv x,.slice ba bn bc] 89)=U from HUU.o]
   try rw[hxb]
   clear hxb g0 g1;obtain⟨x0,x1⟩:=Qq HXB.o;have HM1:=Zh (HM.o.below (by rw[HXE.o];exact BU.o));go_wp2_with fail;refine(QWf U x (.slice ba bn bc)).mono ?_;rintro e w1 ⟨rfl,b1⟩;have HM2:=Zh (HM1.o.below b1);have HXB2:=Zh (Qc HXB.o b1 (Qb HXB.o));have HB2:=Zh (HB.o.trans ((BU.o.trans (b1.mono (by have:=BU.o.size;have:=HXE.o;omega))).mono ZO));clear b1 x0 x1;obtain⟨x0,x1⟩:=Qq HXB2.o;have lk:=HM2.o.look (x:=x) HFL.o;obtain⟨r,hr⟩:=Ze ((l.take i).contains x);rw[hr] at lk;have HR:=Zh hr;clear hr;have HDS:=Zh (HD.o.step HX.o);rw[HR.o] at HDS
   cases r with
  |false=>
    rw[if_neg ZS] at HDS;go_wp2_with fail;refine(QWf _ x (.slice ba bn bc)).mono ?_;rintro e w3 ⟨rfl,b3⟩;have HM3:=Zh (HM2.o.below b3);have HB3:=Zh (HB2.o.trans (b3.mono (by have:=HM2.o.lt;omega)));clear b3;obtain⟨th,hth⟩:=HM3.o;have HTH:=Zh hth;clear hth;go_wp2_with (at_mapUpdate;refine QHb (Ky:=strK) Qbc rfl _ _ _ _ rfl QCe rfl HTH.o (by unfold maxLen;omega) (k:=x) rfl HFL.o true rfl ?_;intro w4 hm hg;have HM4:=Zh hm;have HG4:=Zh hg;clear hm hg);go_roundw
    case rel=>exact⟨i+1,q,by omega,by go_num,rfl,by omega,by omega,HDS,⟨_,HM4.o.congr (fun y=>by have:=HX.o;simp[List.take_add_one,this];by_cases e:y=x <;> simp[e]) (fun _=>rfl)⟩,(HB3.o.trans (Qyd HG4.o HM3.o.lt (Nat.le_refl _)))⟩
    case measure=>simp[intOf];omega
  |true=>
    by_cases hq0:q<0
    ·rw[if_pos ⟨rfl,hq0⟩] at HDS;go_wp2_with fail;refine(QWf _ x (.slice ba bn bc)).mono ?_;rintro e w3 ⟨rfl,b3⟩;have HM3:=Zh (HM2.o.below b3);have HB3:=Zh (HB2.o.trans (b3.mono (by have:=HM2.o.lt;omega)));clear b3;obtain⟨th,hth⟩:=HM3.o;have HTH:=Zh hth;clear hth;go_wp2_with (at_mapUpdate;refine QHb (Ky:=strK) Qbc rfl _ _ _ _ rfl QCe rfl HTH.o (by unfold maxLen;omega) (k:=x) rfl HFL.o true rfl ?_;intro w4 hm hg;have HM4:=Zh hm;have HG4:=Zh hg;clear hm hg);go_roundw
     case rel=>exact⟨i+1,(i:Int),by omega,by go_num,rfl,by omega,by omega,HDS,⟨_,HM4.o.congr (fun y=>by have:=HX.o;simp[List.take_add_one,this];by_cases e:y=x <;> simp[e]) (fun _=>rfl)⟩,(HB3.o.trans (Qyd HG4.o HM3.o.lt (Nat.le_refl _)))⟩
     case measure=>simp[intOf];omega
    ·rw[if_neg (fun h=>hq0 h.2)] at HDS;go_wp2_with fail;refine(QWf _ x (.slice ba bn bc)).mono ?_;rintro e w3 ⟨rfl,b3⟩;have HM3:=Zh (HM2.o.below b3);have HB3:=Zh (HB2.o.trans (b3.mono (by have:=HM2.o.lt;omega)));clear b3;obtain⟨th,hth⟩:=HM3.o;have HTH:=Zh hth;clear hth;go_wp2_with (at_mapUpdate;refine QHb (Ky:=strK) Qbc rfl _ _ _ _ rfl QCe rfl HTH.o (by unfold maxLen;omega) (k:=x) rfl HFL.o true rfl ?_;intro w4 hm hg;have HM4:=Zh hm;have HG4:=Zh hg;clear hm hg);go_roundw
     case rel=>exact⟨i+1,q,by omega,by go_num,rfl,by omega,by omega,HDS,⟨_,HM4.o.congr (fun y=>by have:=HX.o;simp[List.take_add_one,this];by_cases e:y=x <;> simp[e]) (fun _=>rfl)⟩,(HB3.o.trans (Qyd HG4.o HM3.o.lt (Nat.le_refl _)))⟩
     case measure=>simp[intOf];omega
theorem QGs (p:List QI)(hp:∀f∈p,f.name.length≤1000)(v:Value)(w:World)(h:QOc w v p):Calls Tryz.prog 190 #[v,.func (.func 191) #[] #[]] w (DupQ (p.map QI.name) w):=by
 obtain⟨a,c,rfl,hn,hc⟩:=h.cell;have HC:=Zh hc;have HP:=Zh (show ∀f∈p,f.name.length≤maxLen from fun f hf=>Nat.le_trans (hp f hf) (by unfold maxLen;omega));obtain⟨n,hl⟩:=Ze p.length;rw[hl] at hn ⊢;unfold maxLen at hn;have HL:=Zh hl;obtain⟨l,hln⟩:=Ze (p.map QI.name);have HNM:=Zh hln;have HLL:=Zh (show l.length=n by rw[←hln,List.length_map,hl]);rw[hln];obtain⟨mb,hmb⟩:=Ze w.heap.size;have HMB:=Zh hmb;obtain⟨W,hW⟩:=Ze (w.alloc (.map #[] 0));have HWW:=Zh hW;have HM0:=Zh (show Qnb W mb 0 (l.take 0) by rw[←hW,←hmb];exact⟨_,(MapG.made strK Qbc w).congr (fun x=>by simp[Qbc]) (fun _=>rfl)⟩);have HB0:=Zh (show Below mb w W by rw[←hW,←hmb];exact Zb);clear hc h hl hln hp hW;have hmm:=@run_makeMap Tryz.prog;go_enter Tryz.func190,Tryz.ntmps190;go_upto_region 2 with(fail)
 rw[show w.alloc (.map #[] 0)=W from HWW.o]
 try rw[hmb]
 clear hmb hmm;go_wp2;go_loopw [7,13] (fun y7 y13 wr=>∃(i:Nat) (q:Int),i≤n∧y13=.int .i64 i∧y7=.int .i64 q∧-1≤q∧q≤n∧Hid (Qif l i q)∧Hid (Qnb wr mb i (l.take i))∧Hid (Below mb w wr)) (fun _ y _=>n-(intOf y).toNat)
 case atStart=>exact⟨0,-1,Nat.zero_le _,rfl,rfl,Int.le_refl _,by omega,Qif.start l,HM0.o,HB0.o⟩
 case round=>
  obtain⟨i,q,hi,rfl,rfl,hq1,hq2,HD,HM,HB⟩:=hrel;by_cases hlt:i<n;rotate_left
  ·have hin:i=n:=by omega
   have HF:=Zh (show dupI l=q from Qif.fin (by rw[HLL.o,←hin];exact HD.o));have HM2:=Zh (show Qnb wr mb l.length l by have h1:=HM.o;rw[hin,←HLL.o,List.take_length] at h1;exact h1);clear hin;go_wp2;rw[←HF.o];exact bodyPost_ret (v:=.tuple #[iv (dupI l),.map (some mb)]) (by simp[results,Tryz.results190,go_sem,HF.o]) rfl ⟨mb,rfl,HM2.o,by rw[HMB.o];exact Nat.le_refl _,by rw[HMB.o];exact HB.o⟩
  ·obtain⟨f,hf⟩:∃f,p[i]? = some f:=⟨_,List.getElem?_eq_getElem (by rw[HL.o];exact hlt)⟩;obtain⟨fb,off,bv,rfl,hfb,g0,g1,hbl⟩:=HC.o i f hf;obtain⟨ba,bc,rfl,-,-⟩:=hbl.cell;obtain⟨bn,hbn⟩:=Ze (List.length f.stmts);rw[hbn] at g1;clear hbl hbn;have hmw:=HMB.o;have g0:=(HB.o.cell (p:=⟨fb,off+i*2,none⟩) (by show fb<mb;omega)).trans g0;have g1:=(HB.o.cell (p:=⟨fb,off+i*2+1,none⟩) (by show fb<mb;omega)).trans g1;have HX:=Zh (show l[i]? = some f.name by rw[←HNM.o,List.getElem?_map,hf];rfl);have HFL:=Zh (HP.o f (List.mem_of_getElem? hf));obtain⟨x,hx⟩:=Ze f.name;rw[hx] at g0 HX HFL;have hin:(i:Int)<(n:Int):=by omega
   obtain⟨U,hU⟩:=Ze (wr.alloc (.cells #[sv x,.slice ba bn bc] 92));have HXB:=Zh (show U.heap[wr.heap.size]? = some (.cells #[sv x,.slice ba bn bc] 92 (0,0)) by rw[←hU];exact heap_alloc_new _ _);have BU:=Zh (show Below wr.heap.size wr U by rw[←hU];exact Zb);have HUU:=Zh hU;have hml:mb<wr.heap.size:=HM.o.lt;obtain⟨xb,hxb⟩:=Ze wr.heap.size;rw[hxb] at HXB BU hml;have HXE:=Zh hxb;clear hf hx hU hmw;go_upto_region 6 with(fail)
   rw[show wr.alloc (.cells #[sv x,.slice ba bn bc] 92)=U from HUU.o]
   try rw[hxb]
   clear hxb g0 g1;obtain⟨x0,x1⟩:=Qq HXB.o;have HM1:=Zh (HM.o.below (by rw[HXE.o];exact BU.o));go_wp2_with fail;refine(QZf U x (.slice ba bn bc)).mono ?_;rintro e w1 ⟨rfl,b1⟩;have HM2:=Zh (HM1.o.below b1);have HXB2:=Zh (Qc HXB.o b1 (Qb HXB.o));have HB2:=Zh (HB.o.trans ((BU.o.trans (b1.mono (by have:=BU.o.size;have:=HXE.o;omega))).mono ZO));clear b1 x0 x1;obtain⟨x0,x1⟩:=Qq HXB2.o;have lk:=HM2.o.look (x:=x) HFL.o;obtain⟨r,hr⟩:=Ze ((l.take i).contains x);rw[hr] at lk;have HR:=Zh hr;clear hr;have HDS:=Zh (HD.o.step HX.o);rw[HR.o] at HDS
   cases r with
  |false=>
    rw[if_neg ZS] at HDS;go_wp2_with fail;refine(QZf _ x (.slice ba bn bc)).mono ?_;rintro e w3 ⟨rfl,b3⟩;have HM3:=Zh (HM2.o.below b3);have HB3:=Zh (HB2.o.trans (b3.mono (by have:=HM2.o.lt;omega)));clear b3;obtain⟨th,hth⟩:=HM3.o;have HTH:=Zh hth;clear hth;go_wp2_with (at_mapUpdate;refine QHb (Ky:=strK) Qbc rfl _ _ _ _ rfl QCe rfl HTH.o (by unfold maxLen;omega) (k:=x) rfl HFL.o true rfl ?_;intro w4 hm hg;have HM4:=Zh hm;have HG4:=Zh hg;clear hm hg);go_roundw
    case rel=>exact⟨i+1,q,by omega,by go_num,rfl,by omega,by omega,HDS,⟨_,HM4.o.congr (fun y=>by have:=HX.o;simp[List.take_add_one,this];by_cases e:y=x <;> simp[e]) (fun _=>rfl)⟩,(HB3.o.trans (Qyd HG4.o HM3.o.lt (Nat.le_refl _)))⟩
    case measure=>simp[intOf];omega
  |true=>
    by_cases hq0:q<0
    ·rw[if_pos ⟨rfl,hq0⟩] at HDS;go_wp2_with fail;refine(QZf _ x (.slice ba bn bc)).mono ?_;rintro e w3 ⟨rfl,b3⟩;have HM3:=Zh (HM2.o.below b3);have HB3:=Zh (HB2.o.trans (b3.mono (by have:=HM2.o.lt;omega)));clear b3;obtain⟨th,hth⟩:=HM3.o;have HTH:=Zh hth;clear hth;go_wp2_with (at_mapUpdate;refine QHb (Ky:=strK) Qbc rfl _ _ _ _ rfl QCe rfl HTH.o (by unfold maxLen;omega) (k:=x) rfl HFL.o true rfl ?_;intro w4 hm hg;have HM4:=Zh hm;have HG4:=Zh hg;clear hm hg);go_roundw
     case rel=>exact⟨i+1,(i:Int),by omega,by go_num,rfl,by omega,by omega,HDS,⟨_,HM4.o.congr (fun y=>by have:=HX.o;simp[List.take_add_one,this];by_cases e:y=x <;> simp[e]) (fun _=>rfl)⟩,(HB3.o.trans (Qyd HG4.o HM3.o.lt (Nat.le_refl _)))⟩
     case measure=>simp[intOf];omega
    ·rw[if_neg (fun h=>hq0 h.2)] at HDS;go_wp2_with fail;refine(QZf _ x (.slice ba bn bc)).mono ?_;rintro e w3 ⟨rfl,b3⟩;have HM3:=Zh (HM2.o.below b3);have HB3:=Zh (HB2.o.trans (b3.mono (by have:=HM2.o.lt;omega)));clear b3;obtain⟨th,hth⟩:=HM3.o;have HTH:=Zh hth;clear hth;go_wp2_with (at_mapUpdate;refine QHb (Ky:=strK) Qbc rfl _ _ _ _ rfl QCe rfl HTH.o (by unfold maxLen;omega) (k:=x) rfl HFL.o true rfl ?_;intro w4 hm hg;have HM4:=Zh hm;have HG4:=Zh hg;clear hm hg);go_roundw
     case rel=>exact⟨i+1,q,by omega,by go_num,rfl,by omega,by omega,HDS,⟨_,HM4.o.congr (fun y=>by have:=HX.o;simp[List.take_add_one,this];by_cases e:y=x <;> simp[e]) (fun _=>rfl)⟩,(HB3.o.trans (Qyd HG4.o HM3.o.lt (Nat.le_refl _)))⟩
     case measure=>simp[intOf];omega
end
section
open Go.RowKit
variable [Base]
def tgtE (l:List Str)(s:QD)(last:Bool):Int:=if QTg s.op != last then 4 else if s.targets.all (fun t=>l.contains t) then 0 else 5
theorem Qmq (fs bs:List Str)(s:QD)(last:Bool):QXi fs bs s last=tgtE (if s.op==3 then fs else bs) s last:=rfl
theorem Qsn {α:Type}(p:α→Bool){l:List α}{i:Nat}{x:α}(h:l[i]? = some x):(l.drop i).all p=(p x&&(l.drop (i+1)).all p):=by
 obtain⟨hi,rfl⟩:=List.getElem?_eq_some_iff.1 h;rw[List.drop_eq_getElem_cons hi,List.all_cons]
theorem QZj (s:QD)(last:Bool)(l:List Str)(mb n:Nat)(ua:Option Addr)(un uc:Nat)(t:Value)(w:World)(ht:Qea w t s.targets)(hlen:∀x∈s.targets,x.length≤maxLen)(hm:Qnb w mb n l):
  Calls Tryz.prog 192 #[.agg #[iv s.op,sv s.dfn,.slice ua un uc,t],.bool last,.map (some mb)] w (IntQ (tgtE l s last) w):=by
 obtain⟨ta,tc,rfl,htn,htc⟩:=ht.cell;have HTC:=Zh htc;have HLEN:=Zh hlen;obtain⟨k,hk⟩:=Ze s.targets.length;rw[hk] at htn ⊢;unfold maxLen at htn;have HK:=Zh hk;obtain⟨W,hW⟩:=Ze (w.alloc (.cells #[iv s.op,sv s.dfn,.slice ua un uc,.slice ta k tc] 94));obtain⟨sb,hsb⟩:=Ze w.heap.size;have HSB:=Zh (show W.heap[sb]? = some (.cells #[iv s.op,sv s.dfn,.slice ua un uc,.slice ta k tc] 94 (0,0)) by rw[←hW,←hsb];exact heap_alloc_new _ _);have BW:=Zh (show Below w.heap.size w W by rw[←hW];exact Zb);have HM:=Zh (hm.below BW.o);have HWW:=Zh hW;have HSE:=Zh hsb;obtain⟨x0,x1,x2,x3⟩:=Qt HSB.o;have HTM:=Zh (show Calls Tryz.prog 235 #[.agg #[iv s.op,sv s.dfn,.slice ua un uc,.slice ta k tc]] W (Qia (QTg s.op) W) from QUi s _ _ W);obtain⟨tb,htb⟩:=Ze (QTg s.op);rw[htb] at HTM;have HE:=Zh (show tgtE l s last=if tb != last then 4 else if s.targets.all (fun t=>l.contains t) then 0 else 5 by rw[←htb];rfl);clear ht hlen htc hk hW hm htb;go_enter Tryz.func192,Tryz.ntmps192;go_upto_region 1 with(fail)
 rw[show w.alloc (.cells #[iv s.op,sv s.dfn,.slice ua un uc,.slice ta k tc] 94)=W from HWW.o]
 try rw[hsb]
 clear hsb;go_wp2_with fail;refine HTM.o.mono ?_;rintro e w1 ⟨rfl,b1⟩;have B1:=Zh (BW.o.trans (b1.mono BW.o.size));have HM1:=Zh (HM.o.below b1);have HSB1:=Zh (Qc HSB.o b1 (Qb HSB.o));clear b1 x0 x1 x2 x3;obtain⟨x0,x1,x2,x3⟩:=Qt HSB1.o;have HE2:=Zh (show tgtE l s last=if (!(tb==last))=true then 4 else if s.targets.all (fun t=>l.contains t) then 0 else 5 from HE.o);clear HE;have HE:=HE2;clear HE2
 cases htl:(tb==last) with
|false=>
  rw[htl] at HE;go_wp2;go_ret;exact⟨by rw[HE.o];rfl,B1.o⟩
|true=>
  rw[htl] at HE;go_wp2;go_loopw [16] (fun y wr=>∃i:Nat,i≤k∧y=.int .i64 i∧wr=w1∧Hid (s.targets.all (fun t=>l.contains t)=(s.targets.drop i).all (fun t=>l.contains t))) (fun y _=>k-(intOf y).toNat)
  case atStart=>exact⟨0,Nat.zero_le _,rfl,rfl,by unfold Hid;simp⟩
  case round=>
   obtain⟨i,hi,rfl,rfl,HA⟩:=hrel;by_cases hlt:i<k;rotate_left
   ·have HF:=Zh (show s.targets.all (fun t=>l.contains t)=true by rw[HA.o,List.drop_eq_nil_of_le (by rw[HK.o];omega)];rfl);go_wp2;go_ret;exact⟨by rw[HE.o,HF.o];rfl,B1.o⟩
   ·obtain⟨x,hx⟩:∃x,s.targets[i]? = some x:=⟨_,List.getElem?_eq_getElem (by rw[HK.o];exact hlt)⟩;obtain⟨b,off,rfl,hb,hc⟩:=HTC.o i x hx;have hc:=(B1.o.cell (p:=⟨b,off+i,none⟩) hb).trans hc;have lk:=HM1.o.look (HLEN.o x (List.mem_of_getElem? hx));have HS:=Zh (Qsn (fun t=>l.contains t) hx);have hin:(i:Int)<(k:Int):=by omega
    obtain⟨r,hr⟩:=Ze (l.contains x);rw[hr] at lk HS;clear hr hx
    cases r with
   |false=>
     have HF:=Zh (show s.targets.all (fun t=>l.contains t)=false by rw[HA.o,HS.o];rfl);go_wp2;go_ret;exact⟨by rw[HE.o,HF.o];rfl,B1.o⟩
   |true=>
     have HF:=Zh (show s.targets.all (fun t=>l.contains t)=(s.targets.drop (i+1)).all (fun t=>l.contains t) by rw[HA.o,HS.o];rfl);go_wp2;go_roundw
     case rel=>exact⟨i+1,by omega,by go_num,trivial,HF⟩
     case measure=>simp[intOf];omega
end
section
open Go.RowKit
variable [Base]
def Qbu (e:Int)(w:World)(x:Ending)(w':World):Prop:=∃a b c d:Int,x=.returned (.tuple #[.agg #[iv a,iv b,iv c,iv d],iv e])∧Below w.heap.size w w'
def Qct (f:Qo):Prop:=(∀b∈f.blocks,b.name.length≤1000)∧∀b∈f.blocks,∀s∈b.stmts,∀t∈s.targets,t.length≤maxLen
theorem Qzl {fs bs:List Str}{l:List QI}{k:Nat}{b:QI}(h:l[k]? = some b):QCd fs bs (l.drop k)=Qte (QIc fs bs b.stmts) (QCd fs bs (l.drop (k+1))):=by
 obtain⟨hk,rfl⟩:=List.getElem?_eq_some_iff.1 h;rw[List.drop_eq_getElem_cons hk];rfl
theorem QNl {fs bs:List Str}{l:List QD}{k:Nat}{s:QD}(h:l[k]? = some s):QIc fs bs (l.drop k)=Qte (QXi fs bs s (decide (k+1=l.length))) (QIc fs bs (l.drop (k+1))):=by
 obtain⟨hk,rfl⟩:=List.getElem?_eq_some_iff.1 h;rw[List.drop_eq_getElem_cons hk];show Qte (QXi fs bs l[k] (List.drop (k+1) l).isEmpty) (QIc fs bs (List.drop (k+1) l))=_
 congr 2
 rw[Bool.eq_iff_iff,List.isEmpty_iff];simp[List.drop_eq_nil_iff];omega
theorem QUh {e a:Int}(h:e≠0):Qte e a=e:=if_neg h
theorem QXj (f:Qo)(fi:Int)(fs:List Str)(mb n:Nat)(v:Value)(w:World)(hb:QOc w v f.blocks)(hs:Qct f)(hm:Qnb w mb n fs):
  Calls Tryz.prog 157 #[.agg #[sv f.name,v],iv fi,.map (some mb)] w (Qbu (Qxf fs f) w):=by
 obtain⟨ba,bc,rfl,hbn,hbc⟩:=hb.cell;have HBA:=Zh hb;have HBC:=Zh hbc;have HS:=Zh hs;obtain⟨bn,hbl⟩:=Ze f.blocks.length;rw[hbl] at hbn HBA ⊢;unfold maxLen at hbn;have HBL:=Zh hbl;obtain⟨fb,hfb⟩:=Ze w.heap.size;obtain⟨W,hW⟩:=Ze ((w.alloc (.cells #[sv f.name,.slice ba bn bc] 89)).alloc (.cells #[iv 0,iv 0,iv 0,iv 0] 108));have HFB:=Zh (show W.heap[fb]? = some (.cells #[sv f.name,.slice ba bn bc] 89 (0,0)) by rw[←hW,←hfb];exact Qfa _ (heap_alloc_new _ _));have HRB:=Zh (show W.heap[fb+1]? = some (.cells #[iv 0,iv 0,iv 0,iv 0] 108 (0,0)) by rw[←hW,←hfb];have:=heap_alloc_new (w.alloc (.cells #[sv f.name,.slice ba bn bc] 89)) (.cells #[iv 0,iv 0,iv 0,iv 0] 108);rwa [World.size_alloc] at this);have BW:=Zh (show Below w.heap.size w W by rw[←hW];exact(Zb).alloc ZS _);have HWW:=Zh hW;have HFE:=Zh hfb;have HM:=Zh (hm.below BW.o);have HMW:=Zh hm;obtain⟨x0,x1⟩:=Qq HFB.o;obtain⟨bs,hbs⟩:=Ze (QPb f);have HD:=Zh (show Calls Tryz.prog 190 #[.slice ba bn bc,.func (.func 191) #[] #[]] W (DupQ bs W) from by rw[←hbs];exact QGs f.blocks HS.o.1 _ W (HBA.o.keep (Qf.below BW.o) (Qf.below BW.o) (Qf.below BW.o)));have HFN:=Zh (show Qxf fs f=if 0≤dupI bs then 6 else QCd fs bs f.blocks by unfold Qxf;rw[hbs]);have HBS:=Zh hbs;clear hb hbc hs hbl hW hm hbs;go_enter Tryz.func157,Tryz.ntmps157;go_upto_region 1 with(fail)
 rw[show(w.alloc (.cells #[sv f.name,.slice ba bn bc] 89)).alloc (.cells #[iv 0,iv 0,iv 0,iv 0] 108)=W from HWW.o]
 try rw[hfb]
 clear hfb;go_wp2_with fail;refine HD.o.mono ?_;rintro e w1 ⟨b2,rfl,hm2,hb2,b1⟩;have HM1:=Zh (HM.o.below b1);have HM2:=Zh hm2;have HFB1:=Zh (Qc HFB.o b1 (Qb HFB.o));have HRB1:=Zh (Qc HRB.o b1 (Qb HRB.o));have B1:=Zh (BW.o.trans (b1.mono BW.o.size));clear b1 hm2 hb2 x0 x1;obtain⟨x0,x1⟩:=Qq HFB1.o;obtain⟨r0,r1,r2,r3⟩:=Qt HRB1.o;have fr:=(Qa HRB1.o).2;obtain⟨d,hd⟩:=Ze (dupI bs);rw[hd] at HFN ⊢;clear hd;by_cases hd0:0≤d
 ·rw[if_pos hd0] at HFN;go_wp2;rw[HFN.o];obtain⟨z0,z1,z2,z3⟩:=Qt (set4 HRB1.o (iv 3) (iv fi) (iv d) (iv (-1)));exact bodyPost_ret (v:=.tuple #[.agg #[iv 3,iv fi,iv d,iv (-1)],iv 6]) (by simp[results,Tryz.results157,go_sem,z0,z1,z2,z3]) rfl ⟨_,_,_,_,rfl,by(first|exact(B1.o)|exact((((B1.o).setCell (by show w.heap.size≤fb+1;have:=HFE.o;omega) _).setCell (by show w.heap.size≤fb+1;have:=HFE.o;omega) _).setCell (by show w.heap.size≤fb+1;have:=HFE.o;omega) _).setCell (by show w.heap.size≤fb+1;have:=HFE.o;omega) _)⟩
 rw[if_neg hd0] at HFN;go_wp2;go_loopw [30] (fun y wr=>∃k:Nat,k≤bn∧y=.int .i64 k∧Hid (Below w.heap.size w wr)∧Hid (Qnb wr b2 bs.length bs)∧Hid (wr.heap[fb+1]? = some (.cells #[iv 0,iv 0,iv 0,iv 0] 108 (0,0)))∧Hid (Qxf fs f=QCd fs bs (f.blocks.drop k))) (fun y _=>bn-(intOf y).toNat)
 case atStart=>exact⟨0,Nat.zero_le _,rfl,B1.o,HM2.o,HRB1.o,HFN.o⟩
 case round=>
  obtain⟨k,hk,rfl,HB,HN2,HR,HE⟩:=hrel;clear x0 x1 r0 r1 r2 r3 fr;obtain⟨r0,r1,r2,r3⟩:=Qt HR.o;have fr:=(Qa HR.o).2;by_cases hlt:k<bn;rotate_left
  ·have HF:=Zh (show Qxf fs f=0 by rw[HE.o,List.drop_eq_nil_of_le (by rw[HBL.o];omega)];rfl);go_wp2;rw[HF.o];obtain⟨z0,z1,z2,z3⟩:=Qt (set4 HR.o (iv 0) (iv 0) (iv 0) (iv 0));exact bodyPost_ret (v:=.tuple #[.agg #[iv 0,iv 0,iv 0,iv 0],iv 0]) (by simp[results,Tryz.results157,go_sem,z0,z1,z2,z3]) rfl ⟨_,_,_,_,rfl,by(first|exact(HB.o)|exact((((HB.o).setCell (by show w.heap.size≤fb+1;have:=HFE.o;omega) _).setCell (by show w.heap.size≤fb+1;have:=HFE.o;omega) _).setCell (by show w.heap.size≤fb+1;have:=HFE.o;omega) _).setCell (by show w.heap.size≤fb+1;have:=HFE.o;omega) _)⟩
  ·obtain⟨b,hb⟩:∃b,f.blocks[k]? = some b:=⟨_,List.getElem?_eq_getElem (by rw[HBL.o];exact hlt)⟩;obtain⟨kb,ko,sv0,rfl,hkb,g0,g1,hsl⟩:=HBC.o k b hb;have g0:=(HB.o.cell (p:=⟨kb,ko+k*2,none⟩) hkb).trans g0;have g1:=(HB.o.cell (p:=⟨kb,ko+k*2+1,none⟩) hkb).trans g1;obtain⟨sa,sc,rfl,hsn,hsc⟩:=hsl.cell;have HSC:=Zh hsc;obtain⟨sn,hsl2⟩:=Ze b.stmts.length;rw[hsl2] at hsn g1;unfold maxLen at hsn;have HSL:=Zh hsl2;have HBD:=Zh (HE.o.trans (Qzl hb));have HSH:=Zh (fun s hs t ht=>HS.o.2 b (List.mem_of_getElem? hb) s hs t ht);have hin:(k:Int)<(bn:Int):=by omega
   obtain⟨bb,hbb⟩:=Ze wr.heap.size;obtain⟨V,hV⟩:=Ze (wr.alloc (.cells #[sv b.name,.slice sa sn sc] 92));have HBB:=Zh (show V.heap[bb]? = some (.cells #[sv b.name,.slice sa sn sc] 92 (0,0)) by rw[←hV,←hbb];exact heap_alloc_new _ _);have BV:=Zh (show Below wr.heap.size wr V by rw[←hV];exact Zb);have HVV:=Zh hV;have HB2:=Zh (HB.o.trans (BV.o.mono HB.o.size));have HN3:=Zh (HN2.o.below BV.o);have HR3:=Zh (Qc HR.o BV.o (Qb HR.o));clear hb hsl hsc hsl2 hV;go_upto_region 7 with(fail)
   rw[show wr.alloc (.cells #[sv b.name,.slice sa sn sc] 92)=V from HVV.o]
   try rw[hbb]
   clear hbb g0 g1 r0 r1 r2 r3 fr;obtain⟨x0,x1⟩:=Qq HBB.o;go_wp2;obtain⟨V0,hV0⟩:∃V0,V0=V:=⟨_,rfl⟩;go_loopw [38] (fun y wr=>∃j:Nat,j≤sn∧y=.int .i64 j∧Hid (Below w.heap.size w wr)∧Hid (Qnb wr b2 bs.length bs)∧Hid (wr.heap[fb+1]? = some (.cells #[iv 0,iv 0,iv 0,iv 0] 108 (0,0)))∧Hid (wr.heap[bb]? = some (.cells #[sv b.name,.slice sa sn sc] 92 (0,0)))∧Hid (QIc fs bs b.stmts=QIc fs bs (b.stmts.drop j))) (fun y _=>sn-(intOf y).toNat)
   case atStart=>exact⟨0,Nat.zero_le _,rfl,HB2.o,HN3.o,HR3.o,HBB.o,by unfold Hid;simp⟩
   case round=>
    clear x0 x1;obtain⟨j,hj,rfl,HB4,HN4,HR4,HBB4,HE4⟩:=hrel;obtain⟨x0,x1⟩:=Qq HBB4.o;by_cases hlt2:j<sn;rotate_left
    ·have HF:=Zh (show QIc fs bs b.stmts=0 by rw[HE4.o,List.drop_eq_nil_of_le (by rw[HSL.o];omega)];rfl);have HF2:=Zh (show Qxf fs f=QCd fs bs (f.blocks.drop (k+1)) by rw[HBD.o,HF.o];rfl);go_wp2;go_roundw
     case rel=>exact⟨k+1,by omega,by go_num,HB4,HN4,HR4,HF2⟩
     case measure=>simp[intOf];omega
    ·obtain⟨s,hs⟩:∃s,b.stmts[j]? = some s:=⟨_,List.getElem?_eq_getElem (by rw[HSL.o];exact hlt2)⟩;obtain⟨jb,jo,su,tu,rfl,hjb,q0,q1,q2,q3,hsu,htu⟩:=HSC.o j s hs;have q0:=(HB4.o.cell (p:=⟨jb,jo+j*4,none⟩) hjb).trans q0;have q1:=(HB4.o.cell (p:=⟨jb,jo+j*4+1,none⟩) hjb).trans q1;have q2:=(HB4.o.cell (p:=⟨jb,jo+j*4+2,none⟩) hjb).trans q2;have q3:=(HB4.o.cell (p:=⟨jb,jo+j*4+3,none⟩) hjb).trans q3;obtain⟨sua,suc,rfl,-,-⟩:=hsu.cell;have HTU:=Zh htu;obtain⟨tua,tuc,rfl,-,-⟩:=htu.cell;obtain⟨un,hun⟩:=Ze s.uses.length;obtain⟨tn,htn⟩:=Ze s.targets.length;rw[hun] at q2;rw[htn] at q3 HTU;have HSD:=Zh (HE4.o.trans (QNl hs));have HSM:=Zh (List.mem_of_getElem? hs);have hjn:(j:Int)<(sn:Int):=by omega
     have hls:(decide (j+1=b.stmts.length))=((j:Int)==(sn:Int)-1):=by rw[HSL.o,Bool.eq_iff_iff];simp;omega
     rw[hls,Qmq] at HSD;obtain⟨sb,hsb⟩:=Ze wr.heap.size;obtain⟨U,hU⟩:=Ze (wr.alloc (.cells #[iv s.op,sv s.dfn,.slice sua un suc,.slice tua tn tuc] 94));have HSB:=Zh (show U.heap[sb]? = some (.cells #[iv s.op,sv s.dfn,.slice sua un suc,.slice tua tn tuc] 94 (0,0)) by rw[←hU,←hsb];exact heap_alloc_new _ _);have BU:=Zh (show Below wr.heap.size wr U by rw[←hU];exact Zb);have HUU:=Zh hU;have HB5:=Zh (HB4.o.trans (BU.o.mono HB4.o.size));have HN5:=Zh (HN4.o.below BU.o);have HM5:=Zh (show Qnb U mb n fs from(HMW.o.below HB5.o));have HR5:=Zh (Qc HR4.o BU.o (Qb HR4.o));have HBB5:=Zh (Qc HBB4.o BU.o (Qb HBB4.o));have HTU5:=Zh (show Qea U (.slice tua tn tuc) s.targets from HTU.o.same (Qf.below HB5.o));clear hs hsu htu hun htn hU x0 x1 hls;go_upto_region 10 with(fail)
     rw[show wr.alloc (.cells #[iv s.op,sv s.dfn,.slice sua un suc,.slice tua tn tuc] 94)=U from HUU.o]
     try rw[hsb]
     clear hsb q0 q1 q2 q3;obtain⟨x0,x1⟩:=Qq HBB5.o;obtain⟨y0,y1,y2,y3⟩:=Qt HSB.o;obtain⟨lst,hlst⟩:=Ze (((j:Int)==(sn:Int)-1));rw[hlst] at HSD;have HLST:=Zh hlst;go_upto_if 46 with(fail)
     go_cut [14] from 43 to 47 (fun s14 wx=>∃(q nq:Nat) (ql:List Str),s14=.map (some q)∧U=wx∧Hid (Qnb U q nq ql)∧Hid (QIc fs bs b.stmts=Qte (tgtE ql s lst) (QIc fs bs (b.stmts.drop (j+1)))))
     case first=>
      by_cases h3:s.op=3
      ·have h3b:(s.op==3)=true:=by simpa using h3
       rw[h3b,if_pos rfl] at HSD;go_wp2;go_meet
       case rel=>exact⟨mb,n,fs,rfl,rfl,HM5,HSD⟩
      ·have h3b:(s.op==3)=false:=by simpa using h3
       rw[h3b,if_neg ZS] at HSD;go_wp2;go_meet
       case rel=>exact⟨b2,bs.length,bs,rfl,rfl,HN5,HSD⟩
     case rest=>
      obtain⟨q,nq,ql,rfl,rfl,HQM,HSQ⟩:=hcut;clear HSD;have HSD:=HSQ;clear HSQ;obtain⟨er,her⟩:=Ze (tgtE ql s lst);have HST:=Zh (show Calls Tryz.prog 192 #[.agg #[iv s.op,sv s.dfn,.slice sua un suc,.slice tua tn tuc],.bool lst,.map (some q)] U (IntQ er U) from by rw[←her];exact QZj s lst ql _ _ _ _ _ _ U HTU5.o (fun t ht=>HSH.o s HSM.o t ht) HQM.o);rw[her] at HSD;clear her;go_wp2_with fail;refine HST.o.mono ?_;rintro e w6 ⟨rfl,b6⟩;have HB6:=Zh (HB5.o.trans (b6.mono HB5.o.size));have HN6:=Zh (HN5.o.below b6);have HR6:=Zh (Qc HR5.o b6 (Qb HR5.o));have HBB6:=Zh (Qc HBB5.o b6 (Qb HBB5.o));clear b6 x0 x1 y0 y1 y2 y3 hlst;obtain⟨r0,r1,r2,r3⟩:=Qt HR6.o;have fr:=(Qa HR6.o).2;by_cases her0:er=0
      ·have HF:=Zh (show QIc fs bs b.stmts=QIc fs bs (b.stmts.drop (j+1)) by rw[HSD.o,her0];rfl);have hne0:(er != 0)=false:=by simpa using her0
       clear her0;go_wp2;go_roundw
       case rel=>exact⟨j+1,by omega,by go_num,HB6,HN6,HR6,HBB6,HF⟩
       case measure=>simp[intOf];omega
      ·have HF:=Zh (show Qxf fs f=er by rw[HBD.o,HSD.o,QUh her0,QUh her0]);have hne0:(er != 0)=true:=by simpa using her0
       clear her0;go_wp2;rw[HF.o];obtain⟨z0,z1,z2,z3⟩:=Qt (set4 HR6.o (iv 3) (iv fi) (iv k) (iv j));exact bodyPost_ret (v:=.tuple #[.agg #[iv 3,iv fi,iv k,iv j],iv er]) (by simp[results,Tryz.results157,go_sem,z0,z1,z2,z3]) rfl ⟨_,_,_,_,rfl,by(first|exact(HB6.o)|exact((((HB6.o).setCell (by show w.heap.size≤fb+1;have:=HFE.o;omega) _).setCell (by show w.heap.size≤fb+1;have:=HFE.o;omega) _).setCell (by show w.heap.size≤fb+1;have:=HFE.o;omega) _).setCell (by show w.heap.size≤fb+1;have:=HFE.o;omega) _)⟩
end
section
open Go.RowKit
variable [Base]
theorem Qph:(Tryz.prog.info? 9).map (fun i=>(i.zero,i.size,i.bytes))=some (some (Value.string ⟨#[]⟩),1,16):=by kernel_rfl
def QAu (w:World)(n:Nat)(xs:List Value)(e:Ending)(w':World):Prop:=
 ∃a c,e=.returned (.slice a n c)∧w'.ownsRow w.heap.size 9 1 (.slice a n c) n xs∧Below w.heap.size w w'
theorem Qlr (w:World):(w.alloc (.cells #[] 9)).ownsRow w.heap.size 9 1 (.slice (some ⟨w.heap.size,0,none⟩) 0 0) 0 []:=
 ⟨rfl,.inr ⟨w.heap.size,0,#[],rfl,Nat.le_refl _,heap_alloc_new w _,Nat.le_refl _,Nat.zero_le _,rfl,rfl⟩⟩
theorem Qor (v:Value)(n:Nat)(xs:List Value)(w:World)(h:Qg w 9 1 v xs)(hl:xs.length=n*1)(ho:xs.all Value.oneCell'=true)(hn:n≤8796093022208):
  Calls Tryz.prog 232 #[v] w (QAu w n xs):=by
 have H:=Zh h;have L:=Zh hl;have O:=Zh ho;obtain⟨m,cap,e1,e2,e3,h4⟩:=h;have hm:m=n:=by omega
 subst hm;obtain⟨oa,oc,rfl,hoc,hnil⟩:∃oa oc,v=.slice oa m oc∧oc≤maxLen∧(oa=none→m=0∧oc=0):=by
  rcases h4 with⟨⟨a,rfl⟩,rfl⟩|⟨b,off,c,fr,rfl,hb,hc⟩
  ·exact⟨a,0,rfl,Nat.zero_le _,fun _=>⟨rfl,rfl⟩⟩
  ·exact⟨_,cap,rfl,e3,fun h=>by cases h⟩
 clear h4;rcases oa with _|oa
 ·obtain⟨rfl,rfl⟩:=hnil rfl;have hx:xs=[]:=List.length_eq_zero_iff.1 ZO;subst hx;clear hl ho e1 H L O;have q:=fun (w:World) (a:Option Addr) (n c n' c':Nat)=>Lib.run_eql_slice_nil (P:=Tryz.prog) w 86 9 a n c n' c' Tryz.underlying86
  go_enter Tryz.func232,Tryz.ntmps232;go_wp2;go_ret;exact⟨none,0,rfl,World.ownsRow_nil _ _ _ _,Below.refl _ _⟩
 ·unfold maxLen at e3 hoc;have OW:=Zh (Qlr w);clear hl ho e1 hnil;have q:=fun (w:World) (a:Option Addr) (n c n' c':Nat)=>Lib.run_eql_slice_nil (P:=Tryz.prog) w 86 9 a n c n' c' Tryz.underlying86
  go_enter Tryz.func232,Tryz.ntmps232;go_wp2_with (at_builtin;refine wpList_append_sl rfl _ _ 86 rfl w.heap.size 9 _ 1 16 Tryz.underlying86 Qph rfl ZD _ _ _ OW.o rfl _ m _ rfl (Qg.same H.o Qf.alloc) L.o O.o (by unfold maxLen;omega) ZO ZS ?_;intro g d w1 own1 gr1;simp only[Nat.zero_add,List.nil_append] at own1;have OW1:=Zh own1;have B1:=Zh (((Below.refl w.heap.size w).alloc (Nat.le_refl _) _).trans (Below.of_grown gr1 OW.o ZS));clear own1 gr1);go_ret;exact⟨_,_,by simp,OW1.o,B1.o⟩
end
section
open Go.RowKit
variable [Base]
def Qyr (ls:List (List UInt8))(l:List UInt8)(w:World)(e:Ending)(w':World):Prop:=
 ∃r:Int,e=.returned (.int .i64 r)∧Hid (decide (0≤r)=hasB ls l)∧∃k,w'=w.drewN k
theorem Qar (ls:List (List UInt8))(l:List UInt8)(n c:Nat)(a:Option Addr)(w:World)(hx:Hid (ls.length=n))(hn:n≤9223372036854775807)(F:Hid (Qvn w a ls)):
  Calls Tryz.prog 160 #[.slice a n c,.string ⟨l.toArray⟩] w (Qyr ls l w):=by
 go_enter Tryz.func160,Tryz.ntmps160;go_wp2;go_loopw [8] (fun v wr=>∃k m:Nat,k≤n∧v=.int .i64 k∧wr=w.drewN m∧Hid (hasB ls l=hasB (ls.drop k) l)) (fun v _=>n-(intOf v).toNat)
 case atStart=>exact⟨0,0,Nat.zero_le _,rfl,rfl,by unfold Hid;simp⟩
 case round=>
  obtain⟨k,m,hk,rfl,rfl,hs⟩:=hrel;by_cases hlt:k<n
  ·obtain⟨t,ht⟩:∃t,ls[k]? = some t:=⟨ls[k]'(by have:=hx.o;omega),by simp⟩;obtain⟨b,off,rfl,g⟩:=F.o k t ht;have st:=Zh (Qig ls k t l ht);clear ht
   cases e:l==t
   ·go_wp2;go_roundw
    case rel=>exact⟨k+1,_,by omega,by go_num,rfl,by unfold Hid;rw[hs.o,st.o,e];rfl⟩
    case measure=>simp[intOf];omega
   ·go_wp2;go_ret;exact⟨k,rfl,by unfold Hid;rw[hs.o,st.o,e];simp,_,rfl⟩
  ·go_wp2;go_ret;exact⟨-1,rfl,by unfold Hid;rw[hs.o,List.drop_of_length_le (by have:=hx.o;omega)];rfl,_,rfl⟩
end
end Go.Proofs.YtijekimobahgpaaGreatDoor
