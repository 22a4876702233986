/- A part of the proof. -/
import Derived.Test.YtijekimobahgpaaGreatDoorVa07
import Derived.Deep.LoopGhost
import Derived.Laws.CopyOwn
import Derived.Laws.NewBlocks
import Derived.IntWalk
import Derived.RegionTactic
import Derived.BigRegion
set_option linter.unusedVariables false
set_option linter.unusedSimpArgs false
set_option linter.unusedSectionVars false
set_option maxRecDepth 100000
set_option maxHeartbeats 16000000
namespace Go.Proofs.YtijekimobahgpaaGreatDoor
section
structure PS where
 at_:Nat
 err:Int
def PS.fail (s:PS)(e:Int):PS:=if s.err=0 then ⟨s.at_,e⟩ else s
def PS.next (T:List Tok)(s:PS):Tok:=if s.err=0 then (T[s.at_]?).getD ⟨0,[],0,0⟩ else ⟨0,[],0,0⟩
def PS.step (s:PS):PS:=⟨s.at_+1,s.err⟩
def isW (T:List Tok)(w:Str)(s:PS):Bool:=(s.next T).kind==1&&(s.next T).text==w
def isN (T:List Tok)(s:PS):Bool:=(s.next T).kind==1&&QV (s.next T).text
def isK (T:List Tok)(k:Int)(s:PS):Bool:=(s.next T).kind==k
def QBb (ok:Bool)(s:PS):PS:=if ok then s.step else s.fail 4
def Qmp (T:List Tok)(ok:Bool)(s:PS):Str:=if ok then (s.next T).text else []
def Qhb (T:List Tok)(s:PS):PS:=QBb (isN T s) s
def Qib (T:List Tok)(s:PS):Str:=Qmp T (isN T s) s
def endM (T:List Tok)(s:PS):PS:=QBb (isK T 3 s) s
def QNa (T:List Tok):Nat→List Str→PS→List Str×PS
|0,acc,s=>(acc,if isN T s then s.fail 7 else s)
|m+1,acc,s=>if isN T s then QNa T m (acc++[Qib T s]) s.step else (acc,s)
def opOf (x:Str):Int:=
 if x=[117,115,101] then 2 else if x=[99,97,108,108] then 3 else if x=[115,111,117,114,99,101] then 4 else if x=[115,105,110,107] then 5
 else if x=[115,97,110,105,116,105,122,101] then 6 else if x=[103,111,116,111] then 7 else if x=[98,114,97,110,99,104] then 8 else if x=[114,101,116,117,114,110] then 9 else 0
def QY (T:List Tok)(s:PS):Bool:=isN T s||((s.next T).kind==1&&opOf (s.next T).text != 0)
def QTa (T:List Tok)(s:PS):QD×PS:=
 if isN T s then
  let s1:=s.step
  let s2:=QBb (isK T 2 s1) s1
  let r:=QNa T 4 [] s2
  (⟨1,Qib T s,r.1,[]⟩,endM T r.2)
 else
  let op:=opOf (s.next T).text
  let s1:=s.step
  if op=2 then
   let r:=if isN T s1 then QNa T 3 [Qib T s1] s1.step else ([],s1.fail 4)
   (⟨2,[],r.1,[]⟩,endM T r.2)
  else if op=3∨op=7 then (⟨op,[],[],[Qib T s1]⟩,endM T (Qhb T s1))
  else if op=4∨op=6 then (⟨op,Qib T s1,[],[]⟩,endM T (Qhb T s1))
  else if op=5 then (⟨5,[],[Qib T s1],[]⟩,endM T (Qhb T s1))
  else if op=8 then
   let s2:=Qhb T s1
   let s3:=Qhb T s2
   (⟨8,[],[Qib T s1],[Qib T s2,Qib T s3]⟩,endM T (Qhb T s3))
  else (⟨op,[],[],[]⟩,endM T s1)
def QWi (T:List Tok):Nat→List QD→PS→List QD×PS
|0,acc,s=>(acc,if QY T s then s.fail 7 else s)
|m+1,acc,s=>if QY T s then QWi T m (acc++[(QTa T s).1]) (QTa T s).2 else (acc,s)
def Qfg (T:List Tok)(w:Str)(s:PS):PS:=endM T (Qhb T (QBb (isW T w s) s))
def Qhc (T:List Tok)(w:Str)(s:PS):Str:=Qib T (QBb (isW T w s) s)
def Qua:Str:=[98,108,111,99,107]
def Qrb:Str:=[102,117,110,99]
def kEnd:Str:=[101,110,100]
def Qmb (T:List Tok)(s:PS):QI×PS:=
 let s1:=Qfg T Qua s
 let r:=QWi T 32 [] (if QY T s1 then s1 else s1.fail 4)
 (⟨Qhc T Qua s,r.1⟩,r.2)
def Qxh (T:List Tok):Nat→List QI→PS→List QI×PS
|0,acc,s=>(acc,if isW T Qua s then s.fail 7 else s)
|m+1,acc,s=>if isW T Qua s then Qxh T m (acc++[(Qmb T s).1]) (Qmb T s).2 else (acc,s)
def QHc (T:List Tok)(s:PS):Qo×PS:=
 let s1:=Qfg T Qrb s
 let r:=Qxh T 16 [] (if isW T Qua s1 then s1 else s1.fail 4)
 (⟨Qhc T Qrb s,r.1⟩,endM T (QBb (isW T kEnd r.2) r.2))
def QEj (T:List Tok):Nat→List Qo→PS→List Qo×PS
|0,acc,s=>(acc,if isW T Qrb s then s.fail 7 else s)
|m+1,acc,s=>if isW T Qrb s then QEj T m (acc++[(QHc T s).1]) (QHc T s).2 else (acc,s)
def QRr (T:List Tok):List Qo×PS:=
 let s0:PS:=⟨0,0⟩
 let r:=QEj T 8 [] (if isW T Qrb s0 then s0 else s0.fail 4)
 (r.1,if r.2.err=0∧r.2.at_<T.length then r.2.fail 4 else r.2)
structure Qhp where
 funcs:List Qo
 line:Int
 col:Int
 err:Int
def Qug (l:List UInt8):Qhp:=
 let S:=Qhd l
 if S.err≠0 then ⟨[],S.line,S.col,S.err⟩ else
 let r:=QRr S.toks
 if r.2.err=0 then ⟨r.1,0,0,0⟩ else
 match S.toks[r.2.at_]? with
|some t=>⟨[],t.line,t.col,r.2.err⟩
|none=>⟨[],0,0,r.2.err⟩
section
variable {T:List Tok} {s:PS}
theorem Qgh (h:s.err≠0):s.next T=⟨0,[],0,0⟩:=by unfold PS.next;rw[if_neg h]
theorem Qoh (h:s.err≠0):isN T s=false:=by unfold isN;rw[Qgh h];rfl
theorem Qpc (h:s.err≠0)(w:Str):isW T w s=false:=by unfold isW;rw[Qgh h];rfl
theorem QUf (h:s.err≠0){k:Int}(hk:k≠0):isK T k s=false:=by unfold isK;rw[Qgh h];simp;omega
theorem Qsc (h:s.err≠0):QY T s=false:=by unfold QY;rw[Qoh h,Qgh h];rfl
theorem Qdf (h:s.err≠0)(e:Int):s.fail e=s:=by unfold PS.fail;rw[if_neg h]
theorem QEd (h:s.err≠0):QBb false s=s:=by unfold QBb;simp[Qdf h]
theorem Qld (h:(s.next T).kind≠0):s.err=0∧∃t,T[s.at_]? = some t∧s.next T=t:=by
 unfold PS.next at h ⊢
 split at h
 ·rename_i h0;refine⟨h0,?_⟩;rw[if_pos h0]
  cases hT:T[s.at_]? with
 |none=>rw[hT] at h;exact absurd rfl h
 |some t=>exact⟨t,rfl,rfl⟩
 ·exact absurd rfl h
theorem Qps (h:isN T s=true):s.err=0∧∃t,T[s.at_]? = some t∧t.kind=1∧QV t.text=true∧Qib T s=t.text:=by
 have h2:=h;unfold isN at h;simp only[Bool.and_eq_true,beq_iff_eq] at h;obtain⟨h0,t,ht,e⟩:=Qld (T:=T) (s:=s) (by rw[h.1];decide);rw[e] at h;exact⟨h0,t,ht,h.1,h.2,by unfold Qib Qmp;rw[h2,e];rfl⟩
end
end
section
open Go.RowKit
variable [Base]
def Qpa (t:Tok):List Value:=[.int .i64 t.kind,.string ⟨t.text.toArray⟩,.int .i64 t.line,.int .i64 t.col]
def QFb (w:World)(v:Value)(l:List Tok):Prop:=Qg w 232 4 v (l.map Qpa).flatten
theorem QBr (l:List Tok)(k j:Nat)(hk:k<l.length)(hj:j<4):(l.map Qpa).flatten[k*4+j]? =(Qpa l[k])[j]?:=by
 have h:=QNe 4 (l.map Qpa) (by intro x hx;obtain⟨t,_,rfl⟩:=List.mem_map.1 hx;rfl) k j (by simpa using hk) hj;rw[h];simp
theorem QIl (l:List Tok):(l.map Qpa).flatten.length=l.length*4:=by
 rw[Qed 4 _ (by intro x hx;obtain⟨t,_,rfl⟩:=List.mem_map.1 hx;rfl)];simp
theorem Qic.ty {w:World}{b:Nat}{c:Array Value}{T:TypeId}{fr:Nat×Nat}(h:Qic w b c T fr):∀U,tyAt w b=some U→U=T:=by
 obtain⟨V,hV,h⟩:=h;intro U hU;unfold tyAt at hU;rw[h] at hU;simp only at hU
 split at hU
 ·cases hU
 ·injection hU with hU
  rcases hV with hV|hV
  ·exact hU.symm.trans hV
  ·omega
theorem QFb.form {w:World}{v:Value}{l:List Tok}(h:QFb w v l):
  ∃a c,v=.slice a l.length c∧l.length≤maxLen∧l.length≤c∧c≤maxLen∧∀k t,l[k]? = some t→∃b off,a=some ⟨b,off,none⟩∧b<w.heap.size∧(∀U,tyAt w b=some U→U=232) ∧
   ∀j,j<4→w.cell? ⟨b,off+k*4+j,none⟩=(Qpa t)[j]?:=by
 obtain⟨n,cap,h1,h2,h3,h4⟩:=h;rw[QIl] at h1;obtain rfl:n=l.length:=by omega
 rcases h4 with⟨⟨a,rfl⟩,h0⟩|⟨b,off,cs,fr,rfl,e2,e3⟩
 ·refine⟨a,0,by rw[h0],by omega,by omega,by omega,fun k t hk=>?_⟩;have:=(List.getElem?_eq_some_iff.1 hk).1;omega
 ·refine⟨_,cap,rfl,by omega,h2,h3,fun k t hk=>?_⟩;obtain⟨hk2,rfl⟩:=List.getElem?_eq_some_iff.1 hk;refine⟨b,off,rfl,e2.lt,e2.ty,fun j hj=>?_⟩;rw[e2.cell,Nat.add_assoc,e3 _ (by rw[QIl];omega),QBr l k j hk2 hj]
end
section
open Go.RowKit
variable [Base]
section
variable {B bp:Nat} {T:List Tok} {s:PS} {w w':World}
end
theorem Qku {w:World}{b:Nat}{a0 a1 a2:Value}{t:TypeId}{fr:Nat×Nat}(h:w.heap[b]? = some (.cells #[a0,a1,a2] t fr))(x:Value):(w.setCell ⟨b,1,none⟩ x).heap[b]? = some (.cells #[a0,x,a2] t fr):=by
 simp[World.setCell,Array.getElem?_modify,h]
theorem Qju {w:World}{b:Nat}{a0 a1 a2:Value}{t:TypeId}{fr:Nat×Nat}(h:w.heap[b]? = some (.cells #[a0,a1,a2] t fr))(x:Value):(w.setCell ⟨b,2,none⟩ x).heap[b]? = some (.cells #[a0,a1,x] t fr):=by
 simp[World.setCell,Array.getElem?_modify,h]
end
section
open Go.RowKit
variable [Base]
theorem QGi:(Tryz.prog.info? 9).map (fun i=>(i.zero,i.size,i.bytes))=some (some (.string ⟨#[]⟩),1,16):=by kernel_rfl
end
section
open Go.RowKit
variable [Base]
theorem Qkd {w:World}{base n sz:Nat}{U:TypeId}{v:Value}{xs:List Value}(h:w.ownsRow base U sz v n xs):∃a c,v=.slice a n c:=by
 rcases h.2 with⟨rfl,rfl⟩|⟨g,cap,cur,rfl,_⟩
 ·exact⟨none,0,rfl⟩
 ·exact⟨_,_,rfl⟩
theorem Qae {T:List Tok}{s:PS}{m:Nat}{acc:List Str}(h:isN T s=false):QNa T m acc s=(acc,s):=by
 cases m <;> unfold QNa <;> rw[h] <;> rfl
theorem Qsf {T:List Tok}{s:PS}{m:Nat}{acc:List Str}(h:isN T s=true):QNa T (m+1) acc s=QNa T m (acc++[Qib T s]) s.step:=by
 conv=>lhs;unfold QNa
 rw[if_pos h]
theorem Qui {T:List Tok}{s:PS}{acc:List Str}(h:isN T s=true):QNa T 0 acc s=(acc,s.fail 7):=by
 unfold QNa;rw[if_pos h]
theorem QQp {s:PS}(h:s.err=0){e:Int}(he:e≠0):(s.fail e).err≠0:=by unfold PS.fail;rw[if_pos h];exact he
end
section
open Go.RowKit
variable [Base]
def QCh:Obj:=.cells #[.int .i64 0,.string ⟨#[]⟩,.slice none 0 0,.slice none 0 0] 94
section
variable {B bp R:Nat} {T:List Tok} {w0 w w':World} {s s':PS} {x0 x1 x2 x3:Value}
end
def QQb (T:List Tok)(s:PS):PS:=if QY T s then (QTa T s).2 else s.fail 4
theorem QXc {T:List Tok}{s:PS}(h:QY T s=true)(hN:isN T s=false):(s.next T).kind≠0:=by
 unfold QY at h;rw[hN] at h;simp only[Bool.false_or,Bool.and_eq_true,beq_iff_eq] at h;rw[h.1];decide
theorem Qrl {T:List Tok}{s:PS}(h:(endM T s).err=0):s.err=0:=by
 cases hz:decide (s.err=0) with
|true=>exact of_decide_eq_true hz
|false=>exact absurd h (by have hz2:=of_decide_eq_false hz;unfold endM;rw[QUf hz2 ZD,QEd hz2];exact hz2)
theorem Qgl {w:World}{g base:Nat}{x:Value}(h:w.heap[g]? = some (.cells #[x] 9 (0,0)))(hb:base≤g):w.ownsRow base 9 1 (.slice (some ⟨g,0,none⟩) 1 1) 1 [x]:=
 ⟨rfl,.inr ⟨g,1,#[x],rfl,hb,h,Nat.le_refl _,by unfold maxLen;omega,rfl,rfl⟩⟩
end
section
open Go.RowKit
variable [Base]
structure ButB (g:Nat)(w w':World):Prop where
 os:w'.os=w.os
 tape:w'.tape=w.tape
 output:w'.output=w.output
 size:w.heap.size≤w'.heap.size
 block:∀k,k<w.heap.size→k≠g→w'.heap[k]? = w.heap[k]?
theorem ButB.toBelow {B g:Nat}{w w':World}(h:ButB g w w')(hB:B≤g)(hw:B≤w.heap.size):Below B w w':=
 ⟨h.os,h.tape,h.output,h.size,fun k hk=>h.block k ZO ZO⟩
theorem QEi {P:Program}{w:World}{ops:Array Oper}{rest:List Oper}{o:Oper}{a:Act}{Q:Exit→Act→World→Prop}(hgd:o.guard=none)(d s:Operand)(dT sT:TypeId)(ho:o.op=.call { callee:=.builtin .copy,args:=#[d,s],argTypes:=#[dT,sT] })(elem:TypeId)(hu:P.underlying dT=some (.slice elem))(hsz:(P.info? elem).map (·.size)=some 1)(g dLen dCap:Nat)(ad:Addr)(sLen sCap:Nat)(hd:a.eval d=.slice (some ⟨g,0,none⟩) dLen dCap)(hs:a.eval s=.slice (some ad) sLen sCap)(cur:Array Value)(t:TypeId)(hg:w.heap[g]? = some (.cells cur t (0,0)))(cs:List Value)(hn:cs.length=Nat.min sLen dLen)(hsrc:∀j v,cs[j]? = some v→w.cell? (ad.add j)=some v)(hfit:cs.length=cur.size)(h1:∀v∈cs,v.oneCell'=true)(h:∀w',w'.heap[g]? = some (.cells cs.toArray t (0,0))→ButB g w w'→wpList P ops Q rest (a.put o.dst (goInt cs.length)) w'):wpList P ops Q (o::rest) a w:=by
 refine wpList_copy_own hgd d s dT sT ho elem hu hsz g 0 dLen dCap ad sLen sCap hd hs cur t hg cs hn hsrc ZO h1 ?_;have e:(cur.toList.take 0++(cs++cur.toList.drop (0+cs.length))).toArray=cs.toArray:=by
  simp[hfit]
 rw[e];exact h _ (setRow_heap w g cur _ t _ hg) ⟨rfl,rfl,rfl,by simp,fun k _ hk=>setRow_other w g k _ hk⟩
end
section
open Go.RowKit
variable [Base]
theorem QUt (m:Nat):zc (Qj m)=((Qy m).words.map uv).toArray:=by unfold zc Qy;simp
theorem Qjc (m:Nat)(hm:m≤256)(w:World):Calls Tryz.prog 53 #[.int .i64 m] w (Qht (Qy m) w):=by
 have hmk:=QTd (Qj m) (by unfold Qj;omega) (((m:Int)+63) / 64) (by unfold Qj;omega);have HF:=Zh (QZb hm);have HZ:=Zh (QUt m);go_enter Tryz.func53,Tryz.ntmps53;go_wp2;refine bodyPost_ret (v:=setV (Qy m) (.slice (some ⟨w.heap.size+1,0,none⟩) (Qy m).words.length (Qy m).words.length)) (by simp[results,Tryz.results53,go_sem,Qy]) rfl ⟨_,rfl,⟨w.heap.size+1,rfl,by omega,?_,HF.o⟩,(Zb).alloc ZS _⟩;rw[←HZ.o];exact Qda _ _
theorem QAr (l:List Nat):∀x∈l.map uv,x.oneCell'=true:=by
 intro x hx;obtain⟨y,_,rfl⟩:=List.mem_map.1 hx;rfl
theorem Qzo:(Tryz.prog.info? 139).map (·.size)=some 1:=by kernel_rfl
theorem Qvp (s:QSet)(b:Nat)(u:Value)(w:World)(hf:QUb s)(hb:(b:Int)<s.width)(hu:Qi w u s.words):Calls Tryz.prog 58 #[setV s u,.int .i64 b] w (Qht (putS s b) w):=by
 obtain⟨m,hm,hm2,hk⟩:=Qka hf;obtain⟨ua,uc,rfl,-,-,-,hcell⟩:=hu.cell;obtain⟨k,hk2⟩:=Ze s.words.length;have hbk:b / 64<k:=by rw[←hk2,hk];unfold Qj;omega
 have hkk:k=Qj m:=by omega
 have hm3:m≤64*k:=by rw[hkk];unfold Qj;omega
 have hk5:k≤4:=by rw[hkk];unfold Qj;omega
 rw[hk2] at hu ⊢;rw[hm] at hb;rw[show setV s (.slice ua k uc)=.agg #[.int .i64 (m:Int),.slice ua k uc] from by unfold setV;rw[hm]];obtain⟨W,hW⟩:=Ze ((w.alloc (.cells #[.int .i64 (m:Int),.slice ua k uc] 52)).alloc (.cells #[.int .i64 0,.slice none 0 0] 52));have B0:Below w.heap.size w W:=by rw[←hW];exact(Zb).alloc ZS _
 have HB1:W.heap[w.heap.size]? = some (.cells #[.int .i64 (m:Int),.slice ua k uc] 52 (0,0)):=by rw[←hW];exact Qz _ (heap_alloc_new _ _)
 have HB2:W.heap[w.heap.size+1]? = some (.cells #[.int .i64 0,.slice none 0 0] 52 (0,0)):=by rw[←hW];exact Qda _ _
 have H1:=Zh HB1;have H2:=Zh HB2;have HW:=Zh hW;have BB:=Zh B0;have HU:=Zh hu;have HF:=Zh hf;have HK:=Zh hk2;have HM:=Zh hm;have HC:=Zh hcell;have HKK:=Zh hkk;clear hW HB1 HB2 B0 hk hk2 hkk hf hu hcell hm;go_enter Tryz.func58,Tryz.ntmps58;go_wp2_with fail;rw[show(w.alloc (.cells #[.int .i64 (m:Int),.slice ua k uc] 52)).alloc (.cells #[.int .i64 0,.slice none 0 0] 52)=W from HW.o];refine(Qjc m hm2 W).mono ?_;rintro e v ⟨u1,rfl,⟨g,rfl,hg1,hg2,-⟩,b1⟩;have L1:=Qc H1.o b1 (Qb H1.o);have L2:=Qc H2.o b1 (Qb H2.o);have hz1:=Nat.lt_of_lt_of_le (Qb H1.o) b1.size;have hz2:=Nat.lt_of_lt_of_le (Qb H2.o) b1.size;have hgv:=Qb hg2;have e1:(Qy m).words.length=k:=by have:=HKK.o;unfold Qy;simp;omega
 rw[show setV (Qy m) (.slice (some ⟨g,0,none⟩) (Qy m).words.length (Qy m).words.length)=.agg #[.int .i64 (m:Int),.slice (some ⟨g,0,none⟩) k k] from by rw[e1];rfl];obtain⟨V,hV⟩:=Ze (v.alloc (.cells #[.int .i64 (m:Int),.slice (some ⟨g,0,none⟩) k k] 52));have BV:Below v.heap.size v V:=by rw[←hV];exact Zb
 have L3:V.heap[v.heap.size]? = some (.cells #[.int .i64 (m:Int),.slice (some ⟨g,0,none⟩) k k] 52 (0,0)):=by rw[←hV];exact heap_alloc_new _ _
 have HG:=Zh (Qc hg2 BV hgv);have x0:=(Qa L1).1 0;have x1:=(Qa L1).1 1;simp only[Zx,Zy,Zz] at x0 x1;have L1:=Qc L1 BV hz1;have L2:=Qc L2 BV hz2;have B1:=Zh (b1.trans (BV.mono b1.size));have HV:=Zh hV;have HL1:=Zh L1;have HL2:=Zh L2;have HL3:=Zh L3;have E1:=Zh e1;obtain⟨x,hx⟩:∃x,s.words[b / 64]? = some x:=⟨_,List.getElem?_eq_getElem (show b / 64<s.words.length by have:=HK.o;omega)⟩;obtain⟨b0,o0,rfl,-,-,-⟩:=HC.o _ _ hx;have SRC:=Zh (show ∀j x,(s.words.map uv)[j]? = some x→V.cell? ((⟨b0,o0,none⟩:Addr).add j)=some x from by
  intro j x hx;rw[List.getElem?_map] at hx;obtain⟨y,hy,rfl⟩:=Option.map_eq_some_iff.1 hx;obtain⟨b3,o3,e3,hb3,-,hc3⟩:=HC.o j y hy;injection e3 with e3
  injection e3 with e3 e4
  subst e3 e4;rw[Qun];exact((BB.o.trans (B1.o.mono BB.o.size)).cell (p:=⟨b0,o0+j,none⟩) hb3).trans hc3)
 have OC:=Zh (QAr s.words);have LN1:=Zh (show(s.words.map uv).length=Nat.min k k by rw[List.length_map,HK.o];simp);have LN2:=Zh (show(s.words.map uv).length=((Qy m).words.map uv).toArray.size by simp only[List.size_toArray,List.length_map];rw[HK.o,e1]);have hvW:v.heap.size≠g:=by omega
 clear x0 x1 b1 hg2 BV L1 L2 L3 e1;have x0:=(Qa HL1.o).1 0;have x1:=(Qa HL1.o).1 1;have y0:=(Qa HL3.o).1 0;have y1:=(Qa HL3.o).1 1;simp only[Zx,Zy,Zz] at x0 x1 y0 y1;have HX:=Zh hx;have hxl:x<18446744073709551616:=HF.o.2.2 x (List.mem_of_getElem? hx);clear hx;go_wp2_with ((with_reducible refine QEi (o:=⟨some 13,_,_,_,_,_⟩) rfl (.tmp 10) (.tmp 12) 50 50 rfl 139 Tryz.underlying50 Qzo g k k ⟨b0,o0,none⟩ k uc rfl rfl _ 139 HG.o (s.words.map uv) LN1.o SRC.o LN2.o OC.o ?_));rintro v2 h2 b2;have M1:=(b2.block (v.heap.size) (Qb HL3.o) hvW).trans HL3.o;have M2:=(b2.block (w.heap.size+1) (Qb HL2.o) (by have:=Qb H2.o;omega)).trans HL2.o;have y0:=(Qa M1).1 0;have y1:=(Qa M1).1 1;have z0:=(Qa M2).1 0;have z1:=(Qa M2).1 1;have f0:=(Qa M2).2 0;have f1:=(Qa M2).2 1;have g0:=(Qa h2).1 (b / 64);have g1:=(Qa h2).2 (b / 64);rw[List.getElem?_toArray,List.getElem?_map,HX.o] at g0;simp only[List.getElem?_toArray,List.getElem?_cons_zero,List.getElem?_cons_succ,Option.map_some] at y0 y1 z0 z1 g0;have B2:=Zh b2;have HM1:=Zh M1;have HM2:=Zh M2;have HG2:=Zh h2;have q1:0≤(b:Int) / 64:=by omega
 have q2:(b:Int) / 64<k:=by omega
 have q3:((b:Int) / 64).toNat=b / 64:=by omega
 have q4:0≤(b:Int) % 64:=by omega
 have q5:IntKind.u64.wrap ((b:Int) % 64)=(b:Int) % 64:=by rw[IntKind.wrap_u64];omega
 have q6:((b:Int) % 64).toNat=b % 64:=by omega
 obtain⟨y,hy⟩:=Ze (x ||| 2 ^ (b % 64));have q7:bits .or .u64 (x:Int) (IntKind.u64.wrap (2 ^ (b % 64)))=(y:Int):=by
  have h1:IntKind.u64.wrap (2 ^ (b % 64))=((2 ^ (b % 64):Nat):Int):=by
   have:=Qjd b;rw[show((2:Int) ^ (b % 64))=((2 ^ (b % 64):Nat):Int) by simp,IntKind.wrap_u64];generalize 2 ^ (b % 64)=p at *;omega
  rw[h1,Qhl x _ hxl (Qjd b),hy]
 have HY:=Zh hy;have hg3:w.heap.size+1≠g:=by have:=Qb H2.o;omega
 clear x0 x1 b2 M1 M2 h2 hV hy;go_wp2;have HP:=Zh (show(putS s b).words=s.words.set (b / 64) y by
  unfold putS;rw[List.getD_eq_getElem?_getD,HX.o];simp[←HY.o])
 have HL:=Zh (show(putS s b).words.length=k by rw[HP.o,List.length_set];exact HK.o);have BF:Below w.heap.size w v2:=(BB.o.trans (B1.o.mono BB.o.size)).trans (B2.o.toBelow (Nat.le_trans BB.o.size hg1) (Nat.le_trans BB.o.size B1.o.size));refine bodyPost_ret (v:=setV (putS s b) (.slice (some ⟨g,0,none⟩) (putS s b).words.length (putS s b).words.length)) (by rw[HL.o,show setV (putS s b) (.slice (some ⟨g,0,none⟩) k k)=.agg #[.int .i64 (m:Int),.slice (some ⟨g,0,none⟩) k k] by unfold setV;rw[show(putS s b).width=s.width from rfl,HM.o]];simp[results,Tryz.results58,go_sem,z0,z1,hg3,Ne.symm hg3]) rfl ⟨_,rfl,⟨g,rfl,Nat.le_trans BB.o.size hg1,?_,Qnd HF.o b⟩,((BF.setCell (p:=⟨g,b / 64,none⟩) (Nat.le_trans BB.o.size hg1) _).setCell (p:=⟨w.heap.size+1,0,none⟩) (by show w.heap.size≤w.heap.size+1;omega) _).setCell (p:=⟨w.heap.size+1,1,none⟩) (by show w.heap.size≤w.heap.size+1;omega) _⟩;rw[Below.heap_setCell _ _ _ _ (by show g≠w.heap.size+1;omega),Below.heap_setCell _ _ _ _ (by show g≠w.heap.size+1;omega),HP.o,List.map_set];have hgg:=HG2.o;simp[World.setCell,Array.getElem?_modify,hgg]
end
section
open Go.RowKit
variable [Base]
theorem But.sameT {B bt:Nat}{w w':World}(ht:QZ B w bt)(h:But bt w w'){T:TypeId}(hne:T≠85):Qf T w w':=fun b c fr V hV e=>by
 rw[h.block b (Qb e) ?_]
 ·exact e
 ·rintro rfl
  obtain⟨a,n,c',i,h1,-⟩:=ht.get
  rw[h1] at e
  injection e with e
  injection e with _ e2 _
  rcases hV with hV|hV
  ·exact hne (hV.symm.trans e2.symm)
  ·have:=ht.bs;omega
theorem Qi.shape {w:World}{u:Value}{l:List Nat}(h:Qi w u l):∃a n c,u=.slice a n c:=by
 obtain⟨a,c,rfl,-⟩:=h.cell;exact⟨_,_,_,rfl⟩
end
section
open Go.RowKit
variable [Base]
theorem Qts:(Tryz.prog.info? 139).map (fun i=>(i.zero,i.size,i.bytes))=some (some (Value.int .u64 0),1,8):=by kernel_rfl
def Qzu (w:World)(n:Nat)(xs:List Value)(e:Ending)(w':World):Prop:=
 ∃a c,e=.returned (.slice a n c)∧w'.ownsRow w.heap.size 139 1 (.slice a n c) n xs∧Below w.heap.size w w'
theorem Qkr (w:World):(w.alloc (.cells #[] 139)).ownsRow w.heap.size 139 1 (.slice (some ⟨w.heap.size,0,none⟩) 0 0) 0 []:=
 ⟨rfl,.inr ⟨w.heap.size,0,#[],rfl,Nat.le_refl _,heap_alloc_new w _,Nat.le_refl _,Nat.zero_le _,rfl,rfl⟩⟩
theorem QXh (v:Value)(n:Nat)(xs:List Value)(w:World)(h:Qg w 139 1 v xs)(hl:xs.length=n*1)(ho:xs.all Value.oneCell'=true)(hn:n≤1000000):
  Calls Tryz.prog 91 #[v] w (Qzu w n xs):=by
 have H:=Zh h;have L:=Zh hl;have O:=Zh ho;obtain⟨m,cap,e1,e2,e3,h4⟩:=h;have hm:m=n:=by omega
 subst hm;obtain⟨oa,oc,rfl,hoc,hnil⟩:∃oa oc,v=.slice oa m oc∧oc≤maxLen∧(oa=none→m=0∧oc=0):=by
  rcases h4 with⟨⟨a,rfl⟩,rfl⟩|⟨b,off,c,fr,rfl,hb,hc⟩
  ·exact⟨a,0,rfl,Nat.zero_le _,fun _=>⟨rfl,rfl⟩⟩
  ·exact⟨_,cap,rfl,e3,fun h=>by cases h⟩
 clear h4;rcases oa with _|oa
 ·obtain⟨rfl,rfl⟩:=hnil rfl;have hx:xs=[]:=List.length_eq_zero_iff.1 ZO;subst hx;clear hl ho e1 H L O;have q:=fun (w:World) (a:Option Addr) (n c n' c':Nat)=>Lib.run_eql_slice_nil (P:=Tryz.prog) w 50 139 a n c n' c' Tryz.underlying50
  go_enter Tryz.func91,Tryz.ntmps91;go_wp2;go_ret;exact⟨none,0,rfl,World.ownsRow_nil _ _ _ _,Below.refl _ _⟩
 ·unfold maxLen at e3 hoc;have OW:=Zh (Qkr w);clear hl ho e1 hnil;have q:=fun (w:World) (a:Option Addr) (n c n' c':Nat)=>Lib.run_eql_slice_nil (P:=Tryz.prog) w 50 139 a n c n' c' Tryz.underlying50
  go_enter Tryz.func91,Tryz.ntmps91;go_wp2_with (at_builtin;refine wpList_append_sl rfl _ _ 50 rfl w.heap.size 139 _ 1 8 Tryz.underlying50 Qts rfl ZD _ _ _ OW.o rfl _ m _ rfl (Qg.same H.o Qf.alloc) L.o O.o (by unfold maxLen;omega) ZO ZS ?_;intro g d w1 own1 gr1;simp only[Nat.zero_add,List.nil_append] at own1;have OW1:=Zh own1;have B1:=Zh (((Below.refl w.heap.size w).alloc (Nat.le_refl _) _).trans (Below.of_grown gr1 OW.o ZS));clear own1 gr1);go_ret;exact⟨_,_,by simp,OW1.o,B1.o⟩
end
section
open Go.RowKit
variable [Base]
theorem QWd {w:World}{base:Nat}{T:TypeId}{sz n c:Nat}{a:Option Addr}{xs:List Value}(h:w.ownsRow base T sz (.slice a n c) n xs)(hn:0<n)(hbs:Base.b≤base:=by omega):
  ∃g,a=some ⟨g,0,none⟩∧base≤g∧g<w.heap.size∧tyAt w g=some T∧(∀j,j<xs.length→w.cell? ⟨g,j,none⟩=xs[j]?)∧∀j,w.frozen? ⟨g,j,none⟩=false:=by
 obtain⟨h1,h2⟩:=h;rcases h2 with⟨h3,_⟩|⟨g,cap,cur,e,hb,hg,hn',hc,hs,ht⟩
 ·injection h3 with _ h3;omega
 ·injection e with e _ _
  subst e;refine⟨g,rfl,hb,Qb hg,Qv hg,fun j hj=>?_,fun j=>by simp[World.frozen?,hg]⟩;have h5:w.cell? ⟨g,j,none⟩=cur[j]?:=by simp[World.cell?,hg]
  rw[h5,←ht,List.getElem?_take_of_lt ZO];simp
theorem Qnu {base sz n:Nat}{e:TypeId}{v:Value}{xs:List Value}{w w':World}(h:w.ownsRow base e sz v n xs)(hb:Below w.heap.size w w'):w'.ownsRow base e sz v n xs:=by
 refine⟨h.1,?_⟩;rcases h.2 with hn|⟨g,cap,cur,rfl,hg,hh,rest⟩
 ·exact .inl hn
 ·exact .inr ⟨g,cap,cur,rfl,hg,(hb.block g (Qb hh)).trans hh,rest⟩
theorem Qza {w:World}{base sz n g j:Nat}{T U:TypeId}{v x:Value}{xs:List Value}(h:w.ownsRow base T sz v n xs)(hg:tyAt w g=some U)(hne:T≠U):(w.setCell ⟨g,j,none⟩ x).ownsRow base T sz v n xs:=by
 refine⟨h.1,?_⟩;rcases h.2 with hn|⟨b,cap,cur,rfl,hb,hh,rest⟩
 ·exact .inl hn
 ·exact .inr ⟨b,cap,cur,rfl,hb,(Qf.setCell (U:=U) hg hne).own hh,rest⟩
theorem Qao {w:World}{b b' sz n:Nat}{e:TypeId}{v:Value}{xs:List Value}(h:w.ownsRow b e sz v n xs)(hb:b'≤b):w.ownsRow b' e sz v n xs:=by
 refine⟨h.1,?_⟩;rcases h.2 with hn|⟨g,cap,cur,rfl,hg,rest⟩
 ·exact .inl hn
 ·exact .inr ⟨g,cap,cur,rfl,Nat.le_trans hb hg,rest⟩
theorem QDh (l:List Nat):(l.map uv).all Value.oneCell'=true:=by
 rw[List.all_eq_true];intro x hx;obtain⟨y,_,rfl⟩:=List.mem_map.1 hx;rfl
def Qbw (B bt:Nat)(n:Int)(w:World)(e:Ending)(w':World):Prop:=∃r:Int,0≤r∧r<n∧e=.returned (.int .i64 r)∧QZ B w' bt∧But bt w w'
theorem QLu {B bt:Nat}{w:World}(ht:QZ B w bt)(n:Int)(hn:1≤n)(hn':n≤9223372036854775807):
  Calls Tryz.prog 16 #[.pointer (some ⟨bt,0,none⟩),.int .i64 n] w (Qbw B bt n w):=
 (QMc ht n hn').mono fun _ _ ⟨r,h1,h2,h3,h4,h5⟩=>⟨r,h1,by omega,h3,h4,h5⟩
theorem Qvd {w:World}{base sz g n c:Nat}{T:TypeId}{xs:List Value}(h:w.ownsRow base T sz (.slice (some ⟨g,0,none⟩) n c) n xs)(j:Nat)(v:Value):(w.setCell ⟨g,j,none⟩ v).ownsRow base T sz (.slice (some ⟨g,0,none⟩) n c) n (xs.set j v):=by
 refine⟨by rw[List.length_set];exact h.1,?_⟩;rcases h.2 with⟨h1,_⟩|⟨g',cap,cur,e,hg,hh,h1,h2,h3,h4⟩
 ·cases h1
 ·injection e with e1 _ e2
  injection e1 with e1
  injection e1 with e1
  subst e1 e2;refine .inr ⟨g,c,cur.setIfInBounds j v,rfl,hg,by simp[World.setCell,Array.getElem?_modify,hh],h1,h2,by rw[Array.size_setIfInBounds];exact h3,?_⟩;rw[Array.toList_setIfInBounds,List.take_set,h4]
end
end Go.Proofs.YtijekimobahgpaaGreatDoor
