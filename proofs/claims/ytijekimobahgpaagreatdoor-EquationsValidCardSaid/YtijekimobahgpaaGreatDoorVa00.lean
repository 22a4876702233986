/- A part of the proof. -/
import Derived.WalkKit
import Derived.WalkSpells
import Derived.Lib.Hide
import Derived.Deep.QuietTactic
import Derived.Deep.AppendLies
import Derived.Test.YtijekimobahgpaaGreatDoorRows
import Derived.WalkLawsBesides
import Derived.BigQuiet
set_option linter.unusedVariables false
set_option linter.unusedSimpArgs false
set_option linter.unusedSectionVars false
set_option maxRecDepth 100000
set_option maxHeartbeats 16000000
namespace Go.Proofs.YtijekimobahgpaaGreatDoor
section
universe u
theorem Zh {p:Prop} (h:p):RowKit.Hid p:=h
theorem Zi {a b c:Prop} (h:b) (k:b→c):(a→b)∧c:=⟨fun _=>h,k h⟩
theorem ZO {p:Prop} (h:p:=by omega):p:=h
theorem ZD {p:Prop} (h:p:=by decide):p:=h
theorem ZK {p:Prop} (h:p:=by kernel_rfl):p:=h
theorem ZS {p:Prop} (h:p:=by simp):p:=h
theorem Zx {α:Type u} {xs:List α} {i:Nat}:xs.toArray[i]? = xs[i]?:=List.getElem?_toArray
theorem Zy {α:Type u} {a:α} {l:List α}:(a::l)[0]? = some a:=List.getElem?_cons_zero
theorem Zz {α:Type u} {a:α} {l:List α} {i:Nat}:(a::l)[i+1]? = l[i]?:=List.getElem?_cons_succ
theorem Zu {α:Type u} {xs:List α} {i:Nat} {a:α}:xs.toArray.setIfInBounds i a=(xs.set i a).toArray:=List.setIfInBounds_toArray _ _ _
theorem Zv {α:Type u} {xs:List α} {n:Nat} {a b:α}:(a::xs).set (n+1) b=a::xs.set n b:=List.set_cons_succ
theorem Zw {α:Type u} {xs:List α} {a b:α}:(a::xs).set 0 b=b::xs:=List.set_cons_zero
open Go.RowKit in
theorem _root_.Go.RowKit.Hid.o {p:Prop} (h:Hid p):p:=h
open Go.RowKit in
theorem Zb {w:World} {o:Obj}:Below w.heap.size w (w.alloc o):=(Below.refl _ _).alloc (Nat.le_refl _) _
theorem Ze {α:Sort u} (a:α):∃b,a=b:=⟨_,rfl⟩
abbrev Str:=List UInt8
structure QD where
 op:Int
 dfn:Str
 uses:List Str
 targets:List Str
structure QI where
 name:Str
 stmts:List QD
structure Qo where
 name:Str
 blocks:List QI
def QGl:List Str:=[[120],[121],[122],[119]]
def Quw:List Str:=[[109],[102],[103]]
def Qpw:List Str:=[[97],[98],[99]]
def Qsw (F:Int)(s:QD):Prop:=
 (s.op=2∧s.dfn=[]∧(1≤s.uses.length∧s.uses.length≤2∧∀u∈s.uses,u∈QGl)∧s.targets=[]) ∨
 ((s.op=4∨s.op=6)∧s.dfn∈QGl∧s.uses=[]∧s.targets=[]) ∨
 (s.op=5∧s.dfn=[]∧(∃v∈QGl,s.uses=[v])∧s.targets=[]) ∨
 (s.op=3∧s.dfn=[]∧s.uses=[]∧∃r:Nat,(r:Int)<F∧∃n,Quw[r]? = some n∧s.targets=[n]) ∨
 (s.op=1∧s.dfn∈QGl∧(s.uses.length≤3∧∀u∈s.uses,u∈QGl)∧s.targets=[])
def QLw (K:Int)(s:QD):Prop:=
 (s.op=9∧s.dfn=[]∧s.uses=[]∧s.targets=[]) ∨
 (s.op=7∧s.dfn=[]∧s.uses=[]∧∃r:Nat,(r:Int)<K∧∃n,Qpw[r]? = some n∧s.targets=[n]) ∨
 (s.op=8∧s.dfn=[]∧(∃v∈QGl,s.uses=[v])∧∃r q:Nat,(r:Int)<K∧(q:Int)<K∧∃n m,Qpw[r]? = some n∧Qpw[q]? = some m∧s.targets=[n,m])
def QHw (F K:Int)(k:Nat)(b:QI):Prop:=
 Qpw[k]? = some b.name∧∃l t,b.stmts=l++[t]∧l.length≤3∧(∀s∈l,Qsw F s)∧QLw K t
def QMw (F:Int)(i:Nat)(f:Qo):Prop:=
 Quw[i]? = some f.name∧1≤f.blocks.length∧f.blocks.length≤3∧∀k b,f.blocks[k]? = some b→QHw F f.blocks.length k b
def Qqw (p:List Qo):Prop:=1≤p.length∧p.length≤3∧∀i f,p[i]? = some f→QMw p.length i f
end
section
structure Tok where
 kind:Int
 text:List UInt8
 line:Int
 col:Int
def Qjb (c:Int):Bool:=(decide (97≤c)&&decide (c≤122))||(decide (65≤c)&&decide (c≤90))
def QAc (c:Int):Bool:=decide (48≤c)&&decide (c≤57)
def Qsb (c:Int):Bool:=Qjb c||QAc c||c==95
def Qha (b:UInt8):Bool:=Qsb (b.toNat:Int)
structure Qub where
 toks:List Tok
 line:Int
 col:Int
 err:Int
def fin (op:Bool)(line col:Int)(acc:List Tok):List Tok:=if op then acc++[⟨3,[],line,col⟩] else acc
def lexF:Nat→List UInt8→Int→Int→Bool→List Tok→Qub
|0,_,_,_,_,_=>⟨[],0,0,0⟩
|_+1,[],line,col,op,acc=>⟨fin op line col acc,0,0,0⟩
|n+1,c::r,line,col,op,acc=>
  if c.toNat=32∨c.toNat=9 then lexF n r line (col+1) op acc
  else if c.toNat=59 then lexF n r line (col+1) false (fin op line col acc)
  else if c.toNat=35 then
   lexF n (r.dropWhile fun b=>b.toNat != 10) line (col+1+((r.takeWhile fun b=>b.toNat != 10).length:Int)) false (fin op line col acc)
  else if c.toNat=10 then lexF n r (line+1) 1 false (fin op line col acc)
  else if c.toNat=61 then lexF n r line (col+1) true (acc++[⟨2,[61],line,col⟩])
  else if Qha c then
   if QAc (c.toNat:Int) then ⟨[],line,col,4⟩
   else if 16<((c::r).takeWhile Qha).length then ⟨[],line,col,7⟩
   else lexF n ((c::r).dropWhile Qha) line (col+(((c::r).takeWhile Qha).length:Int)) true (acc++[⟨1,(c::r).takeWhile Qha,line,col⟩])
  else ⟨[],line,col,4⟩
theorem QSa {α:Type}(p:α→Bool)(l:List α):(l.dropWhile p).length≤l.length:=by
 induction l with
|nil=>simp
|cons x r ih=>
  rw[List.dropWhile_cons]
  split
  ·simp;omega
  ·simp
theorem Qce (n m:Nat):∀(l:List UInt8) (line col:Int) (op:Bool) (acc:List Tok),l.length<n→l.length<m→lexF n l line col op acc=lexF m l line col op acc:=by
 induction n generalizing m with
|zero=>intro l line col op acc h;omega
|succ n ih=>
  intro l line col op acc h1 h2
  cases m with
 |zero=>omega
 |succ m=>
   cases l with
  |nil=>rfl
  |cons c r=>
    simp only[List.length_cons] at h1 h2;have hd:=QSa (fun b:UInt8=>b.toNat != 10) r;simp only[lexF]
    split
    ·exact ih m _ _ _ _ _ ZO ZO
    split
    ·exact ih m _ _ _ _ _ ZO ZO
    split
    ·exact ih m _ _ _ _ _ ZO ZO
    split
    ·exact ih m _ _ _ _ _ ZO ZO
    split
    ·exact ih m _ _ _ _ _ ZO ZO
    split
    ·rename_i hp
     split
     ·rfl
     split
     ·rfl
     have he:(c::r).dropWhile Qha=r.dropWhile Qha:=by rw[List.dropWhile_cons,if_pos hp]
     have hd:=QSa Qha r;exact ih m _ _ _ _ _ (by rw[he];omega) (by rw[he];omega)
    ·rfl
def lex (l:List UInt8)(line col:Int)(op:Bool)(acc:List Tok):Qub:=lexF (l.length+1) l line col op acc
theorem QHp (line col:Int)(op:Bool)(acc:List Tok):lex [] line col op acc=⟨fin op line col acc,0,0,0⟩:=rfl
section
variable {c:UInt8} {r:List UInt8} {line col:Int} {op:Bool} {acc:List Tok}
theorem Qzk (h:c.toNat=32∨c.toNat=9):lex (c::r) line col op acc=lex r line (col+1) op acc:=by
 unfold lex;rw[lexF,if_pos h];exact Qce _ _ _ _ _ _ _ ZS ZS
theorem Qlh (h:c.toNat=59):lex (c::r) line col op acc=lex r line (col+1) false (fin op line col acc):=by
 unfold lex;rw[lexF,if_neg ZO,if_pos h];exact Qce _ _ _ _ _ _ _ ZS ZS
theorem Qms (h:c.toNat=35):lex (c::r) line col op acc =
  lex (r.dropWhile fun b=>b.toNat != 10) line (col+1+((r.takeWhile fun b=>b.toNat != 10).length:Int)) false (fin op line col acc):=by
 have hd:=QSa (fun b:UInt8=>b.toNat != 10) r;unfold lex;rw[lexF,if_neg ZO,if_neg ZO,if_pos h];exact Qce _ _ _ _ _ _ _ (by simp;omega) ZO
theorem Qmh (h:c.toNat=10):lex (c::r) line col op acc=lex r (line+1) 1 false (fin op line col acc):=by
 unfold lex;rw[lexF,if_neg ZO,if_neg ZO,if_neg ZO,if_pos h];exact Qce _ _ _ _ _ _ _ ZS ZS
theorem QSq (h:c.toNat=61):lex (c::r) line col op acc=lex r line (col+1) true (acc++[⟨2,[61],line,col⟩]):=by
 unfold lex;rw[lexF,if_neg ZO,if_neg ZO,if_neg ZO,if_neg ZO,if_pos h];exact Qce _ _ _ _ _ _ _ ZS ZS
theorem Qtg (h:Qha c=true):c.toNat≠32∧c.toNat≠9∧c.toNat≠59∧c.toNat≠35∧c.toNat≠10∧c.toNat≠61:=by
 simp only[Qha,Qsb,Qjb,QAc,Bool.or_eq_true,Bool.and_eq_true,decide_eq_true_eq,beq_iff_eq] at h;omega
theorem QAk (h:Qha c=true)(hd:QAc (c.toNat:Int)=true):lex (c::r) line col op acc=⟨[],line,col,4⟩:=by
 have:=Qtg h;unfold lex;rw[lexF,if_neg ZO,if_neg ZO,if_neg ZO,if_neg ZO,if_neg ZO,if_pos h,if_pos hd]
theorem Qzm (h:Qha c=true)(hd:QAc (c.toNat:Int)=false)(hl:16<((c::r).takeWhile Qha).length):lex (c::r) line col op acc=⟨[],line,col,7⟩:=by
 have:=Qtg h;unfold lex;rw[lexF,if_neg ZO,if_neg ZO,if_neg ZO,if_neg ZO,if_neg ZO,if_pos h,if_neg (by simp[hd]),if_pos hl]
theorem Qym (h:Qha c=true)(hd:QAc (c.toNat:Int)=false)(hl:¬16<((c::r).takeWhile Qha).length):lex (c::r) line col op acc =
  lex ((c::r).dropWhile Qha) line (col+(((c::r).takeWhile Qha).length:Int)) true (acc++[⟨1,(c::r).takeWhile Qha,line,col⟩]):=by
 have:=Qtg h;have he:(c::r).dropWhile Qha=r.dropWhile Qha:=by rw[List.dropWhile_cons,if_pos h]
 have hd2:=QSa Qha r;unfold lex;rw[lexF,if_neg ZO,if_neg ZO,if_neg ZO,if_neg ZO,if_neg ZO,if_pos h,if_neg (by simp[hd]),if_neg hl];exact Qce _ _ _ _ _ _ _ (by rw[he];simp;omega) (by rw[he];omega)
theorem QRq (h1:c.toNat≠32)(h2:c.toNat≠9)(h3:c.toNat≠59)(h4:c.toNat≠35)(h5:c.toNat≠10)(h6:c.toNat≠61)(h:Qha c=false):
  lex (c::r) line col op acc=⟨[],line,col,4⟩:=by
 unfold lex;rw[lexF,if_neg ZO,if_neg ZO,if_neg ZO,if_neg ZO,if_neg ZO,if_neg (by simp[h])]
end
def Qhd (l:List UInt8):Qub:=if 4096<l.length then ⟨[],0,0,7⟩ else lex l 1 1 false []
end
section
def kws:List (List UInt8):=[[102,117,110,99],[98,108,111,99,107],[101,110,100],[117,115,101],[99,97,108,108],[115,111,117,114,99,101],[115,105,110,107],[115,97,110,105,116,105,122,101],[103,111,116,111],[98,114,97,110,99,104],[114,101,116,117,114,110]]
def QGg:List UInt8→Bool
|[]=>false
|c::_=>Qjb (c.toNat:Int)
def hasB (ls:List (List UInt8))(l:List UInt8):Bool:=ls.contains l
def QV (l:List UInt8):Bool:=QGg l&&decide (l.length≤16)&&!(hasB kws l)&&l.all Qha
theorem Qxk {l:List UInt8}(h:16<l.length):QV l=false:=by
 have:decide (l.length≤16)=false:=by simp;omega
 simp[QV,this]
theorem Qtj {l:List UInt8}(h:QGg l=false):QV l=false:=by simp[QV,h]
theorem QFp {l:List UInt8}(h:hasB kws l=true):QV l=false:=by unfold QV;rw[h];simp
theorem QOq {l:List UInt8}(h:l.all Qha=false):QV l=false:=by unfold QV;rw[h];simp
theorem Qwk {l:List UInt8}(h1:l.length≤16)(h2:QGg l=true)(h3:hasB kws l=false):QV l=l.all Qha:=by
 unfold QV;rw[h2,h3,decide_eq_true h1];simp
theorem QCr (p:UInt8→Bool)(l:List UInt8):((l.takeWhile p).length=l.length)↔l.all p=true:=by
 induction l with
|nil=>simp
|cons c r ih=>
  rw[List.takeWhile_cons]
  cases h:p c
  ·simp[h]
  ·simp only[if_true,List.length_cons,Nat.add_right_cancel_iff,List.all_cons,h,Bool.true_and];exact ih
theorem Qbt (l:List UInt8)(k:Nat)(c:UInt8)(h:l[k]? = some c)(p:UInt8→Bool):(l.drop k).all p=(p c&&(l.drop (k+1)).all p):=by
 obtain⟨h1,rfl⟩:=List.getElem?_eq_some_iff.1 h;rw[List.drop_eq_getElem_cons h1,List.all_cons]
end
section
def Qjl (l:List Str)(a b:Int):Bool:=l.all QV&&(decide (a≤(l.length:Int))&&decide ((l.length:Int)≤b))
def opB (op:Int)(d e:Bool)(u t:Nat):Bool:=
 if op=1 then d&&decide (t=0)
 else if op=2 then e&&(decide (1≤u)&&decide (t=0))
 else if op=5 then e&&(decide (u=1)&&decide (t=0))
 else if op=3∨op=7 then e&&(decide (u=0)&&decide (t=1))
 else if op=4∨op=6 then d&&(decide (u=0)&&decide (t=0))
 else if op=8 then e&&(decide (u=1)&&decide (t=2))
 else if op=9 then e&&(decide (u=0)&&decide (t=0))
 else false
def stmtB (s:QD):Bool:=Qjl s.uses 0 4&&(Qjl s.targets 0 2&&opB s.op (QV s.dfn) (s.dfn.isEmpty) s.uses.length s.targets.length)
def Qoc (b:QI):Bool:=QV b.name&&(decide (1≤b.stmts.length)&&(decide (b.stmts.length≤32)&&b.stmts.all stmtB))
def QNc (f:Qo):Bool:=QV f.name&&(decide (1≤f.blocks.length)&&(decide (f.blocks.length≤16)&&f.blocks.all Qoc))
def QMa (p:List Qo):Bool:=decide (1≤p.length)&&(decide (p.length≤8)&&p.all QNc)
end
section
open Go.RowKit
class Base where
 b:Nat
variable [Base]
def Qic (w:World)(b:Nat)(c:Array Value)(T:TypeId)(fr:Nat×Nat):Prop:=∃U,(U=T∨b<Base.b)∧w.heap[b]? = some (.cells c U fr)
theorem Qic.of {w:World}{b:Nat}{c:Array Value}{T:TypeId}{fr:Nat×Nat}(h:w.heap[b]? = some (.cells c T fr)):Qic w b c T fr:=⟨T,.inl rfl,h⟩
theorem Qic.lt {w:World}{b:Nat}{c:Array Value}{T:TypeId}{fr:Nat×Nat}(h:Qic w b c T fr):b<w.heap.size:=by
 obtain⟨U,-,h⟩:=h;rcases Nat.lt_or_ge b w.heap.size with h1|h1
 ·exact h1
 ·rw[Array.getElem?_eq_none h1] at h;cases h
theorem Qic.cell {w:World}{b:Nat}{c:Array Value}{T:TypeId}{fr:Nat×Nat}(h:Qic w b c T fr)(o:Nat):w.cell? ⟨b,o,none⟩=c[o]?:=by
 obtain⟨U,-,h⟩:=h;simp[World.cell?,h]
end
section
open Go.RowKit
variable [Base]
def Qg (w:World)(T:TypeId)(sz:Nat)(v:Value)(xs:List Value):Prop:=
 ∃n cap:Nat,xs.length=n*sz∧n≤cap∧cap≤maxLen∧(((∃a,v=.slice a 0 0)∧n=0) ∨
  ∃b off c fr,v=.slice (some ⟨b,off,none⟩) n cap∧Qic w b c T fr∧∀i,i<xs.length→c[off+i]? = xs[i]?)
def tyAt (w:World)(b:Nat):Option TypeId:=match w.heap[b]? with|some (.cells _ t _)=>if b<Base.b then none else some t|_=>none
theorem Qv {w:World}{b:Nat}{c:Array Value}{t:TypeId}{fr:Nat×Nat}(h:w.heap[b]? = some (.cells c t fr))(hb:Base.b≤b:=by(try dsimp only);omega):tyAt w b=some t:=by
 unfold tyAt;rw[h];exact if_neg (Nat.not_lt.2 hb)
theorem Qb {w:World}{b:Nat}{o:Obj}(h:w.heap[b]? = some o):b<w.heap.size:=by
 rcases Nat.lt_or_ge b w.heap.size with h1|h1
 ·exact h1
 ·rw[Array.getElem?_eq_none h1] at h;cases h
theorem Qg.nil {w:World}{T:TypeId}{sz:Nat}:Qg w T sz (.slice none 0 0) []:=⟨0,0,by simp,Nat.le_refl _,Nat.zero_le _,.inl ⟨⟨none,rfl⟩,rfl⟩⟩
theorem Qg.of_owns {w:World}{base:Nat}{T:TypeId}{sz:Nat}{v:Value}{n:Nat}{xs:List Value}(h:w.ownsRow base T sz v n xs):Qg w T sz v xs:=by
 obtain⟨h1,h2⟩:=h;rcases h2 with⟨rfl,rfl⟩|⟨g,cap,cur,rfl,_,hg,hn,hc,hs,ht⟩
 ·have:xs=[]:=List.length_eq_zero_iff.1 ZO;subst this;exact .nil
 ·refine⟨n,cap,h1,hn,hc,.inr ⟨g,0,cur,(0,0),rfl,.of hg,fun i hi=>?_⟩⟩;rw[←ht,List.getElem?_take_of_lt ZO];simp
def Qf (T:TypeId)(w w':World):Prop:=∀(b:Nat) (c:Array Value) (fr:Nat×Nat) (U:TypeId),(U=T∨b<Base.b)→w.heap[b]? = some (Obj.cells c U fr)→w'.heap[b]? = some (Obj.cells c U fr)
theorem Qf.own {T:TypeId}{w w':World}(h:Qf T w w'){b:Nat}{c:Array Value}{fr:Nat×Nat}(e:w.heap[b]? = some (.cells c T fr)):w'.heap[b]? = some (.cells c T fr):=h b c fr T (.inl rfl) e
theorem Qic.same {T:TypeId}{w w':World}{b:Nat}{c:Array Value}{fr:Nat×Nat}(h:Qic w b c T fr)(hs:Qf T w w'):Qic w' b c T fr:=by
 obtain⟨U,hU,h⟩:=h;exact⟨U,hU,hs _ _ _ U hU h⟩
theorem Qg.same {w w':World}{T:TypeId}{sz:Nat}{v:Value}{xs:List Value}(h:Qg w T sz v xs)(hs:Qf T w w'):Qg w' T sz v xs:=by
 obtain⟨n,cap,h1,h2,h3,h4⟩:=h;refine⟨n,cap,h1,h2,h3,?_⟩;rcases h4 with h4|⟨b,off,c,fr,e1,e2,e3⟩
 ·exact .inl h4
 ·exact .inr ⟨b,off,c,fr,e1,e2.same hs,e3⟩
theorem Qf.refl {T:TypeId}{w:World}:Qf T w w:=fun _ _ _ _ _ h=>h
theorem Qf.trans {T:TypeId}{a b c:World}(h:Qf T a b)(k:Qf T b c):Qf T a c:=fun x y z U hU e=>k x y z U hU (h x y z U hU e)
theorem Qf.below {T:TypeId}{w w':World}(h:Below w.heap.size w w'):Qf T w w':=fun b _ _ _ _ e=>(h.block b (Qb e)).trans e
theorem Qf.drewN {T:TypeId}{w:World}{n:Nat}:Qf T w (w.drewN n):=fun _ _ _ _ _ h=>h
theorem Qf.alloc {T:TypeId}{w:World}{o:Obj}:Qf T w (w.alloc o):=fun b _ _ _ _ e=>(Below.heap_alloc w o b (Qb e)).trans e
theorem Qf.setCell {T U:TypeId}{w:World}{p:Addr}{u:Value}(h:tyAt w p.block=some U)(hne:T≠U):Qf T w (w.setCell p u):=fun b c fr V hV e=>by
 rw[Below.heap_setCell _ _ _ _ (fun hb=>by
  unfold tyAt at h
  rw[←hb,e] at h
  by_cases hx:b<Base.b
  ·simp only[if_pos hx] at h;cases h
  ·simp only[if_neg hx] at h
   injection h with h
   rcases hV with hV|hV
   ·exact hne (hV.symm.trans h)
   ·exact hx hV)]
 exact e
theorem Qf.grown {T U:TypeId}{w w':World}{base n sz:Nat}{v:Value}{xs:List Value}(hg:w.grownBy w' v.ownBlock)(ho:w.ownsRow base U sz v n xs)(hne:T≠U)(hbase:Base.b≤base:=by omega):Qf T w w':=fun b c fr V hV e=>by
 rw[hg.block b (Qb e) ?_]
 ·exact e
 ·intro hb
  rcases ho.2 with⟨rfl,_⟩|⟨g,cap,cur,rfl,hgb,hh,_⟩
  ·simp[Value.ownBlock] at hb
  ·simp[Value.ownBlock] at hb
   subst hb
   rw[hh] at e
   injection e with e
   injection e with _ e2 _
   rcases hV with hV|hV
   ·exact hne (hV.symm.trans e2.symm)
   ·omega
def All2 {α β:Type}(R:α→β→Prop):List α→List β→Prop
|[],[]=>True
|a::ps,b::bs=>R a b∧All2 R ps bs
|_,_=>False
theorem All2.mono {α β:Type}{R S:α→β→Prop}(h:∀a b,R a b→S a b):∀{ps:List α} {bs:List β},All2 R ps bs→All2 S ps bs
|[],[],_=>trivial
|_::_,_::_,⟨h1,h2⟩=>⟨h _ _ h1,All2.mono h h2⟩
theorem All2.length {α β:Type}{R:α→β→Prop}:∀{ps:List α} {bs:List β},All2 R ps bs→ps.length=bs.length
|[],[],_=>rfl
|_::_,_::_,⟨_,h2⟩=>by simp[All2.length h2]
theorem All2.append {α β:Type}{R:α→β→Prop}:∀{ps cs:List α} {bs ds:List β},All2 R ps bs→All2 R cs ds→All2 R (ps++cs) (bs++ds)
|[],_,[],_,_,h=>h
|_::_,_,_::_,_,⟨h1,h2⟩,h=>⟨h1,All2.append h2 h⟩
theorem All2.get {α β:Type}{R:α→β→Prop}:∀{ps:List α} {bs:List β} (_:All2 R ps bs) (i:Nat) (h1:i<ps.length) (h2:i<bs.length),R ps[i] bs[i]
|_::_,_::_,⟨h,_⟩,0,_,_=>h
|_::_,_::_,⟨_,h⟩,i+1,h1,h2=>All2.get h i (by simpa using h1) (by simpa using h2)
theorem QNe {α:Type}(sz:Nat):∀(l:List (List α)) (_:∀x∈l,x.length=sz) (i j:Nat) (hi:i<l.length) (_:j<sz),l.flatten[i*sz+j]? = l[i][j]?
|x::l,h,0,j,_,hj=>by
  simp only[List.flatten_cons,Nat.zero_mul,Nat.zero_add,List.getElem_cons_zero]
  rw[List.getElem?_append_left (by rw[h x (List.mem_cons_self)];exact hj)]
|x::l,h,i+1,j,hi,hj=>by
  have hx:=h x List.mem_cons_self
  simp only[List.flatten_cons,List.getElem_cons_succ]
  rw[List.getElem?_append_right (by rw[hx];rw[Nat.succ_mul];omega),hx,show(i+1)*sz+j-sz=i*sz+j from by rw[Nat.succ_mul];omega]
  exact QNe sz l (fun y hy=>h y (List.mem_cons_of_mem _ hy)) i j (by simpa using hi) hj
theorem Qed {α:Type}(sz:Nat):∀(l:List (List α)) (_:∀x∈l,x.length=sz),l.flatten.length=l.length*sz
|[],_=>by simp
|x::l,h=>by
  rw[List.flatten_cons,List.length_append,h x List.mem_cons_self,Qed sz l (fun y hy=>h y (List.mem_cons_of_mem _ hy)),List.length_cons,Nat.succ_mul];omega
theorem Qg.form {w:World}{T:TypeId}{sz:Nat}{v:Value}{xs:List Value}(h:Qg w T sz v xs):
  ∃a n c,v=.slice a n c∧xs.length=n*sz∧n≤maxLen∧n≤c∧c≤maxLen∧(0<n→∃b off,a=some ⟨b,off,none⟩∧b<w.heap.size∧True∧∀i,i<xs.length→w.cell? ⟨b,off+i,none⟩=xs[i]?):=by
 obtain⟨n,cap,h1,h2,h3,h4⟩:=h;rcases h4 with⟨⟨a,rfl⟩,rfl⟩|⟨b,off,c,fr,rfl,e2,e3⟩
 ·exact⟨a,0,0,rfl,h1,Nat.zero_le _,Nat.le_refl _,Nat.zero_le _,fun h=>by omega⟩
 ·exact⟨some ⟨b,off,none⟩,n,cap,rfl,h1,by omega,h2,h3,fun _=>⟨b,off,rfl,e2.lt,trivial,fun i hi=>by rw[←e3 i hi,e2.cell]⟩⟩
theorem QPk {w:World}{cs:List Value}{e:TypeId}(j:Nat)(u:Value)(h:cs[j]? = some u):(w.alloc (.cells cs.toArray e)).cell? ((⟨w.heap.size,0,none⟩:Addr).add j)=some u:=by
 have h2:((⟨w.heap.size,0,none⟩:Addr).add j)=⟨w.heap.size,j,none⟩:=by
  unfold Addr.add
  split
  ·rename_i h0;subst h0;rfl
  ·simp
 rw[h2,World.cell?_alloc_new]
 simpa using h
theorem QL {P:Program}{ops:Array Oper}{rest:List Oper}{o:Oper}{a:Act}{Q:Exit→Act→World→Prop}{w:World}(news:List Value)(hgd:o.guard=none)(s x:Operand)(t:TypeId)(ho:o.op=.call { callee:=.builtin .append,args:=#[s,x],argTypes:=#[t,t] })(base:Nat)(e:TypeId)(z:Value)(size bytes:Nat)(ht:P.underlying t=some (.slice e))(hi:(P.info? e).map (fun i=>(i.zero,i.size,i.bytes))=some (some z,size,bytes))(hzs:z.cells.size=size)(hsz:0<size)(v:Value)(n:Nat)(xs:List Value)(hown:w.ownsRow base e size v n xs)(hs:a.eval s=v)(hx:a.eval x=.slice (some ⟨w.heap.size,0,none⟩) 1 1)(hl:news.length=size)(h1:news.all Value.oneCell'=true)(h63:n+1≤maxLen)(hbytes:(n+1)*bytes≤140737488355328)(hbase:base≤w.heap.size)(h:∀g cap w',w'.ownsRow base e size (.slice (some ⟨g,0,none⟩) (n+1) cap) (n+1) (xs++news)→w.grownBy w' v.ownBlock→base≤g→g<w'.heap.size →
   wpList P ops Q rest (a.put o.dst (.slice (some ⟨g,0,none⟩) (n+1) cap)) w'):
  wpList P ops Q (o::rest) a (w.alloc (.cells news.toArray e)):=by
 obtain⟨i,hi',hz,hs1,hs2⟩:=info_parts hi;refine wpList_append_lies _ hgd s x t ho base e i z size bytes ht hi' hz hs1 hs2 hzs hsz v n xs hs (hown.alloc _) ⟨w.heap.size,0,none⟩ 1 1 news hx ZO
  QPk (fun u hu=>List.all_eq_true.1 h1 u hu) ZO h63 hbytes (by simp;omega) _ rfl ?_
 intro g cap w' h2 h3 h4 h5;refine h g cap w' h2 ?_ ?_ h5
 ·have ha:=World.grownBy_alloc w (.cells news.toArray e) v.ownBlock;exact⟨h3.os.trans ha.os,h3.tape.trans ha.tape,h3.output.trans ha.output,Nat.le_trans ha.size h3.size,
   fun k hk hn=>(h3.block k (Nat.lt_of_lt_of_le hk ha.size) hn).trans (ha.block k hk hn)⟩
 ·rcases h4 with h4|h4
  ·exact(hown.lt g h4).1
  ·rw[h4];simp;omega
theorem Below.of_grown {base:Nat}{e:TypeId}{size n:Nat}{v:Value}{xs:List Value}{w w':World}(hg:w.grownBy w' v.ownBlock)(hown:w.ownsRow base e size v n xs)(hb:base≤w.heap.size):Below base w w':=
 (Below.refl base w).grown hg hb fun k hk=>(hown.lt k hk).1
theorem Qg.new {w:World}{T:TypeId}{sz:Nat}(xs:List Value)(n:Nat)(h:xs.length=n*sz)(hn:n≤maxLen):
  Qg (w.alloc (.cells xs.toArray T)) T sz (.slice (some ⟨w.heap.size,0,none⟩) n n) xs:=
 ⟨n,n,h,Nat.le_refl _,hn,.inr ⟨w.heap.size,0,xs.toArray,(0,0),rfl,.of (heap_alloc_new _ _),fun i _=>by simp⟩⟩
end
section
open Go.RowKit
variable [Base]
theorem Qbl (l:List UInt8):(⟨l.toArray⟩:ByteArray).size=l.length:=by show l.toArray.size=_;simp
theorem Qgb {a b:Bool}(h:a=b):Ending.returned (.bool a)=.returned (.bool b):=by rw[h]
def Qvn (w:World)(a:Option Addr)(ls:List (List UInt8)):Prop:=∀(k:Nat) s,ls[k]? = some s→∃b off,a=some ⟨b,off,none⟩∧w.cell? ⟨b,off+k,none⟩=some (.string ⟨s.toArray⟩)
theorem Qig (ls:List (List UInt8))(k:Nat)(s l:List UInt8)(h:ls[k]? = some s):hasB (ls.drop k) l=(l==s||hasB (ls.drop (k+1)) l):=by
 obtain⟨h1,rfl⟩:=List.getElem?_eq_some_iff.1 h;unfold hasB;rw[List.drop_eq_getElem_cons h1,List.contains_cons]
end
section
open Go.RowKit
theorem Qtp {k:IntKind}{a b:Int}(h:a=b):Ending.returned (.int k a)=.returned (.int k b):=by rw[h]
theorem QIk (c:Int)(w:World):
  Calls Tryz.prog 256 #[.int .u8 c] w fun e w'=>e=.returned (.bool (QAc c))∧w'=w:=by
 unfold QAc;by_cases h1:48≤c
 ·go_enter Tryz.func256,Tryz.ntmps256;go_wp2;go_ret;exact⟨by simp[h1],rfl⟩
 ·have h1':decide (48≤c)=false:=by simp;omega
  go_enter Tryz.func256,Tryz.ntmps256;go_wp2;go_ret;exact⟨by simp[h1'],rfl⟩
theorem QQa (c:Int)(w:World):
  Calls Tryz.prog 219 #[.int .u8 c] w fun e w'=>e=.returned (.bool (QAc c))∧w'=w:=by
 unfold QAc;by_cases h1:48≤c
 ·go_enter Tryz.func219,Tryz.ntmps219;go_wp2;go_ret;exact⟨by simp[h1],rfl⟩
 ·have h1':decide (48≤c)=false:=by simp;omega
  go_enter Tryz.func219,Tryz.ntmps219;go_wp2;go_ret;exact⟨by simp[h1'],rfl⟩
theorem Qqe (c:Int)(w:World):
  Calls Tryz.prog 228 #[.int .u8 c] w fun e w'=>e=.returned (.bool (Qjb c))∧w'=w:=by
 have hl:∀b,Qjb c=b→Qjb c=b:=fun _ h=>h
 by_cases h1:97≤c
 ·by_cases h2:c≤122
  ·have hv:Qjb c=true:=by simp[Qjb,h1,h2]
   rw[hv];clear hl hv;go_enter Tryz.func228,Tryz.ntmps228;go_wp2;go_ret;exact⟨rfl,rfl⟩
  ·have hv:Qjb c=false:=by simp[Qjb];omega
   have h3:65≤c:=by omega
   have h2':decide (c≤122)=false:=by simp;omega
   have h4':decide (c≤90)=false:=by simp;omega
   rw[hv];clear hl hv;go_enter Tryz.func228,Tryz.ntmps228;go_wp2;go_ret;exact⟨rfl,rfl⟩
 ·have h1':decide (97≤c)=false:=by simp;omega
  by_cases h3:65≤c
  ·by_cases h4:c≤90
   ·have hv:Qjb c=true:=by simp[Qjb];omega
    rw[hv];clear hl hv;go_enter Tryz.func228,Tryz.ntmps228;go_wp2;go_ret;exact⟨rfl,rfl⟩
   ·have hv:Qjb c=false:=by simp[Qjb];omega
    have h4':decide (c≤90)=false:=by simp;omega
    rw[hv];clear hl hv;go_enter Tryz.func228,Tryz.ntmps228;go_wp2;go_ret;exact⟨rfl,rfl⟩
  ·have hv:Qjb c=false:=by simp[Qjb];omega
   have h3':decide (65≤c)=false:=by simp;omega
   rw[hv];clear hl hv;go_enter Tryz.func228,Tryz.ntmps228;go_wp2;go_ret;exact⟨rfl,rfl⟩
def QOa (c:Int):Bool:=Qjb c||c==95
theorem Qim (c:Int)(w:World):
  Calls Tryz.prog 250 #[.int .u8 c] w fun e w'=>e=.returned (.bool (Qsb c))∧w'=w:=by
 unfold Qsb
 cases hl:Qjb c
 ·cases hd:QAc c
  all_goals
   go_enter Tryz.func250,Tryz.ntmps250;go_wp2_with (first|(go_at_call 228;refine(Qqe _ _).mono ?_;rintro e w' ⟨rfl,rfl⟩)|(go_at_call 256;refine(QIk _ _).mono ?_;rintro e w' ⟨rfl,rfl⟩));go_ret;exact⟨rfl,rfl⟩
 ·go_enter Tryz.func250,Tryz.ntmps250;go_wp2_with (first|(go_at_call 228;refine(Qqe _ _).mono ?_;rintro e w' ⟨rfl,rfl⟩)|(go_at_call 256;refine(QIk _ _).mono ?_;rintro e w' ⟨rfl,rfl⟩));go_ret;exact⟨rfl,rfl⟩
theorem QDa (c:Int)(w:World):
  Calls Tryz.prog 218 #[.int .u8 c] w fun e w'=>e=.returned (.bool (QOa c))∧w'=w:=by
 by_cases h1:97≤c
 ·by_cases h2:c≤122
  ·have hv:QOa c=true:=by simp[QOa,Qjb,h1,h2]
   rw[hv];clear hv;go_enter Tryz.func218,Tryz.ntmps218;go_wp2;go_ret;exact⟨rfl,rfl⟩
  ·have hv:QOa c=false:=by simp[QOa,Qjb];omega
   have h3:65≤c:=by omega
   have h2':decide (c≤122)=false:=by simp;omega
   have h4':decide (c≤90)=false:=by simp;omega
   have h5':(c==95)=false:=by simp;omega
   rw[hv];clear hv;go_enter Tryz.func218,Tryz.ntmps218;go_wp2;go_ret;exact⟨rfl,rfl⟩
 ·have h1':decide (97≤c)=false:=by simp;omega
  by_cases h3:65≤c
  ·by_cases h4:c≤90
   ·have hv:QOa c=true:=by simp[QOa,Qjb];omega
    rw[hv];clear hv;go_enter Tryz.func218,Tryz.ntmps218;go_wp2;go_ret;exact⟨rfl,rfl⟩
   ·have hv:QOa c=(c==95):=by simp[QOa,Qjb];omega
    have h4':decide (c≤90)=false:=by simp;omega
    rw[hv];clear hv;go_enter Tryz.func218,Tryz.ntmps218;go_wp2;go_ret;exact⟨rfl,rfl⟩
  ·have hv:QOa c=(c==95):=by simp[QOa,Qjb];omega
   have h3':decide (65≤c)=false:=by simp;omega
   rw[hv];clear hv;go_enter Tryz.func218,Tryz.ntmps218;go_wp2;go_ret;exact⟨rfl,rfl⟩
theorem QYa (s:ByteArray)(k:Nat)(h:k<s.size):s.data.toList.drop k=s[k]::s.data.toList.drop (k+1):=by
 rw[List.drop_eq_getElem_cons (by simpa using h)];rfl
theorem Qef (s:ByteArray)(k:Nat)(h:s.size≤k):s.data.toList.drop k=[]:=by
 rw[List.drop_eq_nil_iff];simpa using h
def wlen (s:ByteArray)(k:Nat):Nat:=((s.data.toList.drop k).takeWhile Qha).length
theorem Qfe (s:ByteArray)(k:Nat)(h:k<s.size)(hp:Qsb (s[k].toNat:Int)=true):wlen s k=1+wlen s (k+1):=by
 unfold wlen;rw[QYa s k h,List.takeWhile_cons,if_pos (show Qha s[k]=true from hp),List.length_cons];omega
theorem QZk (s:ByteArray)(k:Nat)(h:k<s.size)(hp:Qsb (s[k].toNat:Int)=false):wlen s k=0:=by
 unfold wlen;rw[QYa s k h,List.takeWhile_cons,if_neg (by show ¬Qsb (s[k].toNat:Int)=true;simp[hp])];rfl
theorem QNi (s:ByteArray)(k:Nat)(h:s.size≤k):wlen s k=0:=by
 unfold wlen;rw[Qef s k h];rfl
theorem QEl (s:ByteArray)(i:Nat)(w:World)(hs:s.size≤maxLen)(hi:i≤s.size):
  Calls Tryz.prog 230 #[.string s,.int .i64 i] w fun e w'=>e=.returned (.int .i64 ((i+wlen s i:Nat):Int))∧w'=w:=by
 unfold maxLen at hs;go_enter Tryz.func230,Tryz.ntmps230;go_wp2;go_loop [1] (fun v=>∃k:Nat,k≤s.size∧v=.int .i64 k∧Hid (k+wlen s k=i+wlen s i)) (fun v=>s.size-(intOf v).toNat)
 case atStart=>exact⟨i,hi,rfl,rfl⟩
 case round=>
  obtain⟨k,hk,rfl,hw⟩:=hrel;by_cases hlt:k<s.size
  ·cases hp:Qsb (s[k].toNat:Int)
   ·have h0:=Zh (QZk s k hlt hp);go_wp2_with (go_at_call 250;refine(Qim _ _).mono ?_;rintro e w' ⟨rfl,rfl⟩);go_ret;exact⟨Qtp (by have:=hw.o;have:=h0.o;omega),rfl⟩
   ·have h0:=Zh (Qfe s k hlt hp);go_wp2_with (go_at_call 250;refine(Qim _ _).mono ?_;rintro e w' ⟨rfl,rfl⟩);go_round
    case rel=>exact⟨k+1,by omega,by go_num,by have:=hw.o;have:=h0.o;unfold Hid;omega⟩
    case measure=>simp[intOf];omega
  ·have h0:=Zh (QNi s k ZO);go_wp2;go_ret;exact⟨Qtp (by have:=hw.o;have:=h0.o;omega),rfl⟩
end
section
open Go.RowKit
variable [Base]
def strV (l:List UInt8):Value:=.string ⟨l.toArray⟩
theorem Qnl (w:World):
  Calls Tryz.prog 224 #[] w fun e w'=>e=.returned (.slice (some ⟨w.heap.size,0,none⟩) 11 11)∧w'=w.alloc (.cells (kws.map strV).toArray 9):=by
 go_enter Tryz.func224,Tryz.ntmps224;go_wp2;go_ret;exact⟨rfl,rfl⟩
theorem QFr (w:World)(ls:List (List UInt8))(t:TypeId):Qvn (w.alloc (.cells (ls.map strV).toArray t)) (some ⟨w.heap.size,0,none⟩) ls:=by
 intro k s h;refine⟨w.heap.size,0,rfl,?_⟩;rw[World.cell?_alloc_new];simp[h,strV]
def Qde (b:Bool)(w:World)(e:Ending)(w':World):Prop:=e=.returned (.bool b)∧Below w.heap.size w w'
theorem QTf (c:Int)(w:World):Calls Tryz.prog 218 #[.int .u8 c] w fun e w'=>e=.returned (.bool (QOa c))∧w=w':=(QDa c w).mono fun _ _ h=>⟨h.1,h.2.symm⟩
theorem QWo (c:Int)(w:World):Calls Tryz.prog 219 #[.int .u8 c] w fun e w'=>e=.returned (.bool (QAc c))∧w=w':=(QQa c w).mono fun _ _ h=>⟨h.1,h.2.symm⟩
theorem QVq (c:Int)(h:QOa c=false):Qsb c=QAc c:=by
 unfold QOa at h;simp only[Bool.or_eq_false_iff] at h;unfold Qsb;rw[h.1,h.2];simp
theorem Qro (c:Int)(h:QOa c=true):Qsb c=true:=by
 unfold QOa at h;unfold Qsb;cases h1:Qjb c <;> simp_all
theorem QNr (s:ByteArray)(w:World)(h0:0<s.size)(h1:s.size≤16)(h2:QOa (s[0].toNat:Int)=true)(h3:((s[0].toNat:Int)==95)=false)(hf:Hid (QGg s.data.toList=true)):
  Calls Tryz.prog 175 #[.string s] w (Qde (QV s.data.toList) w):=by
 have g1:decide ((16:Int)<(s.size:Int))=false:=by simp;omega
 have g0:((s.size:Int)==0)=false:=by rw[beq_eq_false_iff_ne];omega
 go_enter Tryz.func175,Tryz.ntmps175;go_wp2_with (go_at_call 218;refine(QTf _ _).mono ?_;rintro e w' ⟨rfl,rfl⟩);go_loop [3] (fun v=>∃k:Nat,k≤s.size∧v=.int .i64 k∧Hid (s.data.toList.all Qha=(s.data.toList.drop k).all Qha)) (fun v=>s.size-(intOf v).toNat)
 case atStart=>exact⟨0,Nat.zero_le _,rfl,by unfold Hid;simp⟩
 case round=>
  obtain⟨k,hk,rfl,hs⟩:=hrel;by_cases hlt:k<s.size
  ·have st:=Zh (Qbt s.data.toList k s[k] (by simp[hlt];rfl) Qha)
   cases e1:QOa (s[k].toNat:Int)
   ·have q:=Zh (QVq _ e1)
    cases e2:QAc (s[k].toNat:Int)
    ·have E2:=Zh e2;go_wp2_with (first
     |(go_at_call 218;refine(QTf _ _).mono ?_;rintro e w' ⟨rfl,rfl⟩)
     |(go_at_call 219;refine(QWo _ _).mono ?_;rintro e w' ⟨rfl,rfl⟩))
     go_ret;refine⟨?_,Below.refl _ _⟩;rw[QOq (by rw[hs.o,st.o];unfold Qha;rw[q.o,E2.o];rfl)];rfl
    ·have E2:=Zh e2;go_wp2_with (first
     |(go_at_call 218;refine(QTf _ _).mono ?_;rintro e w' ⟨rfl,rfl⟩)
     |(go_at_call 219;refine(QWo _ _).mono ?_;rintro e w' ⟨rfl,rfl⟩))
     go_round
     case rel=>exact⟨k+1,by omega,by go_num,by unfold Hid;rw[hs.o,st.o];unfold Qha;rw[q.o,E2.o];rfl⟩
     case measure=>simp[intOf];omega
   ·have q:=Zh (Qro _ e1);go_wp2_with (first
    |(go_at_call 218;refine(QTf _ _).mono ?_;rintro e w' ⟨rfl,rfl⟩)
    |(go_at_call 219;refine(QWo _ _).mono ?_;rintro e w' ⟨rfl,rfl⟩))
    go_round
    case rel=>exact⟨k+1,by omega,by go_num,by unfold Hid;rw[hs.o,st.o];unfold Qha;rw[q.o];rfl⟩
    case measure=>simp[intOf];omega
  ·have hall:Hid (s.data.toList.all Qha=true):=by unfold Hid;rw[hs.o,List.drop_of_length_le (by simp;omega)];rfl
   clear hs;have hr:Hid (hasB kws s.data.toList=false→QV s.data.toList=true):=by
    intro h;rw[Qwk (by simp;omega) hf.o h];exact hall.o
   have hS:=Zh (QFr w kws 9);go_wp2_with (go_at_call 224;refine(Qnl _).mono ?_;rintro e w2 ⟨rfl,hw'⟩;have hW:=Zh hw';clear hw');go_loop [5] (fun v=>∃k:Nat,k≤11∧v=.int .i64 k∧Hid (hasB kws s.data.toList=hasB (kws.drop k) s.data.toList)) (fun v=>11-(intOf v).toNat)
   case atStart=>exact⟨0,Nat.zero_le _,rfl,by unfold Hid;simp⟩
   case round=>
    obtain⟨j,hj,rfl,hk2⟩:=hrel;by_cases hlt2:j<11
    ·obtain⟨t,ht⟩:∃t,kws[j]? = some t:=⟨_,List.getElem?_eq_getElem (show j<kws.length from hlt2)⟩;obtain⟨b,off,hb,g⟩:=hS.o j t ht;simp only[Option.some.injEq,Addr.mk.injEq] at hb;obtain⟨rfl,rfl,_⟩:=hb;rw[←hW.o,Nat.zero_add] at g;have st2:=Zh (Qig kws j t s.data.toList ht);clear ht
     cases e:t==s.toList
     ·have E:=Zh e;go_wp2;go_round
      case rel=>exact⟨j+1,by omega,by go_num,by have h:=E.o;rw[ByteArray.toList_eq,BEq.comm] at h;unfold Hid;rw[hk2.o,st2.o,h];rfl⟩
      case measure=>simp[intOf];omega
     ·have E:=Zh e;go_wp2;go_ret;refine⟨?_,?_⟩
      ·have h:=E.o;rw[ByteArray.toList_eq,BEq.comm] at h;rw[QFp (by rw[hk2.o,st2.o,h];rfl)];rfl
      ·rw[hW.o];exact Zb
    ·go_wp2;go_ret;refine⟨?_,?_⟩
     ·rw[hr.o (by rw[hk2.o,List.drop_of_length_le (by show 11≤j;omega)];rfl)];rfl
     ·rw[hW.o];exact Zb
theorem Qrk (s:ByteArray)(w:World)(h:s.size=0∨16<s.size)(hv:QV s.data.toList=false):
  Calls Tryz.prog 175 #[.string s] w (Qde (QV s.data.toList) w):=by
 rw[hv];clear hv;rcases h with h|h
 ·have g0:((s.size:Int)==0)=true:=by rw[beq_iff_eq];omega
  clear h;go_enter Tryz.func175,Tryz.ntmps175;go_wp2;go_ret;exact⟨rfl,Below.refl _ _⟩
 ·have g0:((s.size:Int)==0)=false:=by rw[beq_eq_false_iff_ne];omega
  have g1:decide ((16:Int)<(s.size:Int))=true:=by simp;omega
  clear h;go_enter Tryz.func175,Tryz.ntmps175;go_wp2;go_ret;exact⟨rfl,Below.refl _ _⟩
theorem Qcm (s:ByteArray)(w:World)(h0:0<s.size)(h1:s.size≤16)(h2:Qjb (s[0].toNat:Int)=false)(hv:QV s.data.toList=false):
  Calls Tryz.prog 175 #[.string s] w (Qde (QV s.data.toList) w):=by
 rw[hv];clear hv;have g1:decide ((16:Int)<(s.size:Int))=false:=by simp;omega
 have g0:((s.size:Int)==0)=false:=by rw[beq_eq_false_iff_ne];omega
 cases e:QOa (s[0].toNat:Int)
 ·clear h2;go_enter Tryz.func175,Tryz.ntmps175;go_wp2_with (go_at_call 218;refine(QTf _ _).mono ?_;rintro e w' ⟨rfl,rfl⟩);go_ret;exact⟨rfl,Below.refl _ _⟩
 ·have h3:((s[0].toNat:Int)==95)=true:=by unfold QOa at e;rw[h2] at e;simpa using e
  clear h2;go_enter Tryz.func175,Tryz.ntmps175;go_wp2_with (go_at_call 218;refine(QTf _ _).mono ?_;rintro e w' ⟨rfl,rfl⟩);go_ret;exact⟨rfl,Below.refl _ _⟩
theorem QBs (s:ByteArray)(h0:0<s.size):QGg s.data.toList=Qjb (s[0].toNat:Int):=by
 have h:=QYa s 0 h0;rw[List.drop_zero] at h;rw[h];rfl
theorem Qsk (s:ByteArray)(w:World):
  Calls Tryz.prog 175 #[.string s] w (Qde (QV s.data.toList) w):=by
 by_cases h0:s.size=0
 ·exact Qrk s w (.inl h0) (by rw[List.length_eq_zero_iff.1 (show s.data.toList.length=0 by simpa using h0)];rfl)
 by_cases h1:16<s.size
 ·exact Qrk s w (.inr h1) (Qxk (by simpa using h1))
 have h0':0<s.size:=by omega
 have hf:=QBs s h0'
 cases h2:Qjb (s[0].toNat:Int)
 ·exact Qcm s w h0' ZO h2 (Qtj (by rw[hf,h2]))
 ·refine QNr s w h0' ZO (by unfold QOa;rw[h2];rfl) ?_ (by unfold Hid;rw[hf,h2]);rw[beq_eq_false_iff_ne];intro h;rw[h] at h2;exact absurd h2 ZD
end
section
open Go.RowKit
variable [Base]
theorem Qyn (v n:Int)(hn:1≤n)(hn':n≤9223372036854775807):
  0≤wrap64 ((IntKind.u64.wrap v).tmod n)∧wrap64 ((IntKind.u64.wrap v).tmod n)<n:=by
 have h0:0≤IntKind.u64.wrap v:=by rw[IntKind.wrap_u64];omega
 have h1:(IntKind.u64.wrap v).tmod n=(IntKind.u64.wrap v) % n:=Int.tmod_eq_emod_of_nonneg h0;have h2:=Int.emod_nonneg (IntKind.u64.wrap v) (show n≠0 by omega);have h3:=Int.emod_lt_of_pos (IntKind.u64.wrap v) (show 0<n by omega);rw[h1];generalize IntKind.u64.wrap v % n=m at *;rw[IntWalk.wrap64_in m ZO];exact⟨h2,h3⟩
def QSt (n:Int)(e:Ending):Prop:=∃r:Int,0≤r∧r<n∧e=.returned (.int .i64 r)
theorem QEt (v n:Int)(w:World)(hn:1≤n)(hn':n≤9223372036854775807):
  Calls Tryz.prog 61 #[.int .i64 v,.int .i64 n] w fun e w'=>e=.returned (.int .i64 (wrap64 ((IntKind.u64.wrap v).tmod n)))∧w'=w:=by
 go_enter Tryz.func61,Tryz.ntmps61;go_wp2;go_ret;exact⟨rfl,rfl⟩
structure QZ (B:Nat)(w:World)(bt:Nat):Prop where
 base:Base.b≤B
 ge:B≤bt
 lt:bt<w.heap.size
 get:∃(a:Option Addr) (n c:Nat) (i:Int),w.heap[bt]? = some (.cells #[.slice a n c,.int .i64 i] 85 (0,0))∧0≤i∧n≤maxLen∧i≤maxLen ∧
  ∀j:Nat,j<n→∃b off z,a=some ⟨b,off,none⟩∧b<B∧w.cell? ⟨b,off+j,none⟩=some (.int .i64 z)
theorem QZ.bs {B bt:Nat}{w:World}(h:QZ B w bt):Base.b≤bt:=Nat.le_trans h.base h.ge
structure But (bt:Nat)(w w':World):Prop where
 os:w'.os=w.os
 tape:w'.tape=w.tape
 output:w'.output=w.output
 size:w.heap.size≤w'.heap.size
 block:∀k,k<w.heap.size→k≠bt→w'.heap[k]? = w.heap[k]?
theorem But.refl (bt:Nat)(w:World):But bt w w:=⟨rfl,rfl,rfl,Nat.le_refl _,fun _ _ _=>rfl⟩
theorem But.trans {bt:Nat}{a b c:World}(h:But bt a b)(k:But bt b c):But bt a c:=
 ⟨k.os.trans h.os,k.tape.trans h.tape,k.output.trans h.output,Nat.le_trans h.size k.size,
  fun i hi hn=>(k.block i (Nat.lt_of_lt_of_le hi h.size) hn).trans (h.block i hi hn)⟩
theorem But.drewN {bt:Nat}{a w:World}(h:But bt a w)(n:Nat):But bt a (w.drewN n):=⟨h.os,h.tape,h.output,h.size,h.block⟩
theorem But.alloc {bt:Nat}{a w:World}(h:But bt a w)(o:Obj):But bt a (w.alloc o):=
 h.trans ⟨rfl,rfl,rfl,by simp,fun k hk _=>Below.heap_alloc _ _ _ hk⟩
theorem But.setCell {bt:Nat}{a w:World}(h:But bt a w)(p:Addr)(hp:p.block=bt∨a.heap.size≤p.block)(u:Value):But bt a (w.setCell p u):=
 ⟨h.os,h.tape,h.output,by simpa using h.size,fun k hk hn=>by
  rw[Below.heap_setCell _ _ _ _ ZO];exact h.block k hk hn⟩
theorem But.below {bt:Nat}{a w w':World}(h:But bt a w)(k:Below w.heap.size w w'):But bt a w':=
 h.trans ⟨k.os,k.tape,k.output,k.size,fun i hi _=>k.block i hi⟩
theorem But.cell {bt:Nat}{w w':World}(h:But bt w w'):∀b o,b<w.heap.size→b≠bt→w'.cell? ⟨b,o,none⟩=w.cell? ⟨b,o,none⟩:=
 fun b o hb hn=>World.cell?_of_block (h.block b hb hn)
theorem But.toBelow {B bt:Nat}{w w':World}(h:But bt w w')(hB:B≤bt)(hw:B≤w.heap.size):Below B w w':=
 ⟨h.os,h.tape,h.output,h.size,fun k hk=>h.block k ZO ZO⟩
theorem QZ.keep {B bt:Nat}{w w':World}(h:QZ B w bt)(hb:w'.heap[bt]? = w.heap[bt]?)(hB:∀k,k<B→w'.heap[k]? = w.heap[k]?)(hs:w.heap.size≤w'.heap.size):QZ B w' bt:=by
 obtain⟨a,n,c,i,h1,h2,h3,h4,h5⟩:=h.get;refine⟨h.base,h.ge,Nat.lt_of_lt_of_le h.lt hs,a,n,c,i,hb.trans h1,h2,h3,h4,fun j hj=>?_⟩;obtain⟨b,off,z,e1,e2,e3⟩:=h5 j hj;exact⟨b,off,z,e1,e2,(World.cell?_of_block (hB b e2)).trans e3⟩
theorem QZ.drewN {B bt:Nat}{w:World}(h:QZ B w bt)(n:Nat):QZ B (w.drewN n) bt:=h.keep rfl (fun _ _=>rfl) (Nat.le_refl _)
theorem QZ.alloc {B bt:Nat}{w:World}(h:QZ B w bt)(o:Obj):QZ B (w.alloc o) bt:=
 h.keep (Below.heap_alloc _ _ _ h.lt) (fun k hk=>Below.heap_alloc _ _ _ (by have:=h.lt;have:=h.ge;omega)) ZS
theorem QZ.setCell {B bt:Nat}{w:World}(h:QZ B w bt){p:Addr}(h1:p.block≠bt)(h2:B≤p.block)(u:Value):QZ B (w.setCell p u) bt:=
 h.keep (Below.heap_setCell _ _ _ _ ZO) (fun k hk=>Below.heap_setCell _ _ _ _ ZO) ZS
theorem QZ.below {B bt:Nat}{w w':World}(h:QZ B w bt)(k:Below w.heap.size w w'):QZ B w' bt:=
 h.keep (k.block _ h.lt) (fun i hi=>k.block i (by have:=h.lt;have:=h.ge;omega)) k.size
theorem Qio (a:Option Addr)(l c bt:Nat)(i n:Int)(w:World)(hn:n≤1)(h0:w.cell? ⟨bt,0,none⟩=some (.slice a l c))(h1:w.cell? ⟨bt,1,none⟩=some (.int .i64 i)):
  Calls Tryz.prog 16 #[.pointer (some ⟨bt,0,none⟩),.int .i64 n] w fun e w'=>e=.returned (.int .i64 0)∧∃k,w'=w.drewN k:=by
 go_enter Tryz.func16,Tryz.ntmps16;go_wp2;go_quiet (fail);go_wp2;go_ret;exact⟨rfl,_,rfl⟩
theorem Qjs (a:Option Addr)(l c bt:Nat)(i n:Int)(w:World)(hn:1<n)(hl:(l:Int)≤i)(h0:w.cell? ⟨bt,0,none⟩=some (.slice a l c))(h1:w.cell? ⟨bt,1,none⟩=some (.int .i64 i)):
  Calls Tryz.prog 16 #[.pointer (some ⟨bt,0,none⟩),.int .i64 n] w fun e w'=>e=.returned (.int .i64 0)∧∃k,w'=w.drewN k:=by
 have hn2:decide (n≤1)=false:=by simp;omega
 go_enter Tryz.func16,Tryz.ntmps16;go_wp2;go_quiet (fail);go_wp2;go_ret;exact⟨rfl,_,rfl⟩
theorem QMq (b off l c bt:Nat)(i n z:Int)(w:World)(hn:1<n)(hn':n≤9223372036854775807)(hi:0≤i)(hl:i<(l:Int))(hm:(l:Int)≤9223372036854775807)(hbt:b≠bt)(h0:w.cell? ⟨bt,0,none⟩=some (.slice (some ⟨b,off,none⟩) l c))(h1:w.cell? ⟨bt,1,none⟩=some (.int .i64 i))(hf:w.frozen? ⟨bt,1,none⟩=false)(hz:w.cell? ⟨b,off+i.toNat,none⟩=some (.int .i64 z)):
  Calls Tryz.prog 16 #[.pointer (some ⟨bt,0,none⟩),.int .i64 n] w fun e w'=>QSt n e∧∃k,w'=(w.setCell ⟨bt,1,none⟩ (.int .i64 (i+1))).drewN k:=by
 have hn2:decide (n≤1)=false:=by simp;omega
 have hl2:decide ((l:Int)≤i)=false:=by simp;omega
 have hb:=Zh (Qyn z n ZO hn');go_enter Tryz.func16,Tryz.ntmps16;go_wp2;go_quiet (fail);go_wp2;have e1:IntKind.i64.wrap (i+1-1)=i:=IntWalk.i64_in _ ZO |>.trans ZO
 go_quiet ((go_at_call 61;exact Calls.quiet_of_same (QEt _ _ _ ZO ZO)));go_wp2;go_ret;exact⟨⟨_,hb.o.1,hb.o.2,rfl⟩,_,World.drewN_drewN (w.setCell ⟨bt,1,none⟩ (.int .i64 (i+1))) _ _⟩
def Qft (B bt:Nat)(n:Int)(w:World)(e:Ending)(w':World):Prop:=
 ∃r:Int,0≤r∧(r<n∨r=0)∧e=.returned (.int .i64 r)∧QZ B w' bt∧But bt w w'
theorem QMc {B bt:Nat}{w:World}(ht:QZ B w bt)(n:Int)(hn':n≤9223372036854775807):
  Calls Tryz.prog 16 #[.pointer (some ⟨bt,0,none⟩),.int .i64 n] w (Qft B bt n w):=by
 obtain⟨a,l,c,i,h1,h2,h3,h4,h5⟩:=ht.get;have c0:w.cell? ⟨bt,0,none⟩=some (.slice a l c):=by simp[World.cell?,h1]
 have c1:w.cell? ⟨bt,1,none⟩=some (.int .i64 i):=by simp[World.cell?,h1]
 have cf:w.frozen? ⟨bt,1,none⟩=false:=by simp[World.frozen?,h1]
 by_cases hn:n≤1
 ·refine(Qio a l c bt i n w hn c0 c1).mono ?_;rintro e w' ⟨rfl,k,rfl⟩;exact⟨0,by omega,by omega,rfl,ht.drewN _,(But.refl _ _).drewN _⟩
 by_cases hl:(l:Int)≤i
 ·refine(Qjs a l c bt i n w ZO hl c0 c1).mono ?_;rintro e w' ⟨rfl,k,rfl⟩;exact⟨0,by omega,by omega,rfl,ht.drewN _,(But.refl _ _).drewN _⟩
 obtain⟨b,off,z,rfl,hb,hz⟩:=h5 i.toNat ZO;have hge:=ht.ge;unfold maxLen at h3 h4;refine(QMq b off l c bt i n z w ZO hn' h2 ZO ZO ZO c0 c1 cf hz).mono ?_;rintro e w' ⟨⟨r,r1,r2,rfl⟩,k,rfl⟩;refine⟨r,r1,.inl r2,rfl,?_,((But.refl bt w).setCell ⟨bt,1,none⟩ (.inl rfl) _).drewN _⟩;refine⟨ht.base,ht.ge,by simpa using ht.lt,some ⟨b,off,none⟩,l,c,i+1,?_,by omega,by unfold maxLen;omega,by unfold maxLen;omega,fun j hj=>?_⟩
 ·simp[World.setCell,Array.getElem?_modify,h1]
 ·obtain⟨b',off',z',e1,e2,e3⟩:=h5 j hj;refine⟨b',off',z',e1,e2,?_⟩;exact(World.cell?_of_block (w:=w) (Below.heap_setCell _ _ _ _ (by show b'≠bt;omega))).trans e3
theorem QDt {B:Nat}{w:World}(hB:B=w.heap.size)(a:Option Addr)(n c:Nat)(hn:n≤maxLen)(h:∀j:Nat,j<n→∃b off z,a=some ⟨b,off,none⟩∧b<B∧w.cell? ⟨b,off+j,none⟩=some (.int .i64 z))(hbs:Base.b≤B:=by omega):
  Calls Tryz.prog 8 #[.slice a n c] w fun e w'=>e=.returned (.pointer (some ⟨B,0,none⟩))∧QZ B w' B∧Below B w w':=by
 have h':=Zh h;clear h;go_enter Tryz.func8,Tryz.ntmps8;go_wp2;go_ret;subst hB;refine⟨rfl,⟨hbs,Nat.le_refl _,by simp,a,n,c,0,heap_alloc_new w _,by omega,hn,by unfold maxLen;omega,fun j hj=>?_⟩,Zb⟩;obtain⟨b,off,z,e1,e2,e3⟩:=h'.o j hj;exact⟨b,off,z,e1,e2,(World.cell?_of_block (w:=w) (Below.heap_alloc _ _ _ e2)).trans e3⟩
end
section
open Go.RowKit
variable [Base]
abbrev sv (s:Str):Value:=.string ⟨s.toArray⟩
def Qea (w:World)(v:Value)(l:List Str):Prop:=Qg w 9 1 v (l.map sv)
def QZa (w:World)(cs:List Value)(s:QD):Prop:=
 ∃u t,cs=[.int .i64 s.op,sv s.dfn,u,t]∧Qea w u s.uses∧Qea w t s.targets
def Qgt (B bt:Nat)(w:World)(e:Ending)(w':World):Prop:=
 ∃s,s∈QGl∧e=.returned (sv s)∧QZ B w' bt∧But bt w w'
theorem name_any {B bt:Nat}{w:World}(ht:QZ B w bt):
  Calls Tryz.prog 41 #[.pointer (some ⟨bt,0,none⟩)] w (Qgt B bt w):=by
 have hlt:=ht.lt;have Ht:=Zh ht;clear ht;go_enter Tryz.func41,Tryz.ntmps41;go_wp2_with fail;refine(QMc (Ht.o.alloc _) _ ZO).mono ?_;rintro e w' ⟨r,r1,r2,rfl,ht',hbut⟩;have hc:∀o,w'.cell? ⟨w.heap.size,o,none⟩=_:=fun o=>hbut.cell w.heap.size o ZS ZO
 have hr:r=0∨r=1∨r=2∨r=3:=by omega
 have ht':=Zh ht';have hb':=Zh (((But.refl bt w).alloc _).trans hbut);clear Ht hbut;rcases hr with rfl|rfl|rfl|rfl
 all_goals
  go_wp2;go_ret;exact⟨_,by simp[QGl],rfl,ht'.o,hb'.o⟩
theorem Qvw (i:Nat)(hi:i<3)(w:World):
  Calls Tryz.prog 40 #[.int .i64 i] w fun e w'=>(∃n,Qpw[i]? = some n∧e=.returned (sv n))∧Below w.heap.size w w':=by
 have hr:i=0∨i=1∨i=2:=by omega
 clear hi;rcases hr with rfl|rfl|rfl
 all_goals
  go_enter Tryz.func40,Tryz.ntmps40;go_wp2;go_ret;exact⟨⟨_,rfl,rfl⟩,Zb⟩
end
end Go.Proofs.YtijekimobahgpaaGreatDoor
