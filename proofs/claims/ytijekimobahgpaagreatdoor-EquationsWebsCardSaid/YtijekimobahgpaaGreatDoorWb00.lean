/- A part of the proof. -/
import Derived.WalkKit
import Derived.WalkSpells
import Derived.Lib.Hide
import Derived.Deep.QuietTactic
import Derived.Deep.AppendLies
import Derived.Test.YtijekimobahgpaaGreatDoorRows
import Derived.WalkLawsBesides
import Derived.BigQuiet
import Derived.Deep.RegionHeld3
import Derived.Deep.DrawnRows
import Derived.Deep.DeepMust
import Derived.Deep.RegionLaw
import Derived.Maps.RangeWalk
import Derived.Maps.OwnOps
import Derived.DeepKeys4
import Derived.Laws.BitsLemmas
import Derived.Laws.Bits64
import Derived.Laws.Shifts
import Derived.Laws.MakeOwn
set_option linter.unusedVariables false
set_option linter.unusedSimpArgs false
set_option linter.unusedSectionVars false
set_option maxRecDepth 100000
set_option maxHeartbeats 16000000
namespace Go.Proofs.YtijekimobahgpaaGreatDoor
section
universe u
theorem Zh {p:Prop} (h:p):RowKit.Hid p:=h
theorem Zi {a b c:Prop} (h:b) (k:b→c):(a→b)∧c:=⟨fun _=>h,k h⟩
theorem ZO {p:Prop} (h:p:=by omega):p:=h
theorem ZD {p:Prop} (h:p:=by decide):p:=h
theorem ZK {p:Prop} (h:p:=by kernel_rfl):p:=h
theorem ZS {p:Prop} (h:p:=by simp):p:=h
theorem Zx {α:Type u} {xs:List α} {i:Nat}:xs.toArray[i]? = xs[i]?:=List.getElem?_toArray
theorem Zy {α:Type u} {a:α} {l:List α}:(a::l)[0]? = some a:=List.getElem?_cons_zero
theorem Zz {α:Type u} {a:α} {l:List α} {i:Nat}:(a::l)[i+1]? = l[i]?:=List.getElem?_cons_succ
theorem Zu {α:Type u} {xs:List α} {i:Nat} {a:α}:xs.toArray.setIfInBounds i a=(xs.set i a).toArray:=List.setIfInBounds_toArray _ _ _
theorem Zv {α:Type u} {xs:List α} {n:Nat} {a b:α}:(a::xs).set (n+1) b=a::xs.set n b:=List.set_cons_succ
theorem Zw {α:Type u} {xs:List α} {a b:α}:(a::xs).set 0 b=b::xs:=List.set_cons_zero
open Go.RowKit in
theorem _root_.Go.RowKit.Hid.o {p:Prop} (h:Hid p):p:=h
open Go.RowKit in
theorem Zb {w:World} {o:Obj}:Below w.heap.size w (w.alloc o):=(Below.refl _ _).alloc (Nat.le_refl _) _
theorem Ze {α:Sort u} (a:α):∃b,a=b:=⟨_,rfl⟩
abbrev Str:=List UInt8
structure QD where
 op:Int
 dfn:Str
 uses:List Str
 targets:List Str
structure QI where
 name:Str
 stmts:List QD
structure Qo where
 name:Str
 blocks:List QI
def QGl:List Str:=[[120],[121],[122],[119]]
end
section
structure Tok where
 kind:Int
 text:List UInt8
 line:Int
 col:Int
def Qjb (c:Int):Bool:=(decide (97≤c)&&decide (c≤122))||(decide (65≤c)&&decide (c≤90))
def QAc (c:Int):Bool:=decide (48≤c)&&decide (c≤57)
def Qsb (c:Int):Bool:=Qjb c||QAc c||c==95
def Qha (b:UInt8):Bool:=Qsb (b.toNat:Int)
structure Qub where
 toks:List Tok
 line:Int
 col:Int
 err:Int
def fin (op:Bool)(line col:Int)(acc:List Tok):List Tok:=if op then acc++[⟨3,[],line,col⟩] else acc
def lexF:Nat→List UInt8→Int→Int→Bool→List Tok→Qub
|0,_,_,_,_,_=>⟨[],0,0,0⟩
|_+1,[],line,col,op,acc=>⟨fin op line col acc,0,0,0⟩
|n+1,c::r,line,col,op,acc=>
  if c.toNat=32∨c.toNat=9 then lexF n r line (col+1) op acc
  else if c.toNat=59 then lexF n r line (col+1) false (fin op line col acc)
  else if c.toNat=35 then
   lexF n (r.dropWhile fun b=>b.toNat != 10) line (col+1+((r.takeWhile fun b=>b.toNat != 10).length:Int)) false (fin op line col acc)
  else if c.toNat=10 then lexF n r (line+1) 1 false (fin op line col acc)
  else if c.toNat=61 then lexF n r line (col+1) true (acc++[⟨2,[61],line,col⟩])
  else if Qha c then
   if QAc (c.toNat:Int) then ⟨[],line,col,4⟩
   else if 16<((c::r).takeWhile Qha).length then ⟨[],line,col,7⟩
   else lexF n ((c::r).dropWhile Qha) line (col+(((c::r).takeWhile Qha).length:Int)) true (acc++[⟨1,(c::r).takeWhile Qha,line,col⟩])
  else ⟨[],line,col,4⟩
theorem QSa {α:Type}(p:α→Bool)(l:List α):(l.dropWhile p).length≤l.length:=by
 induction l with
|nil=>simp
|cons x r ih=>
  rw[List.dropWhile_cons]
  split
  ·simp;omega
  ·simp
theorem Qce (n m:Nat):∀(l:List UInt8) (line col:Int) (op:Bool) (acc:List Tok),l.length<n→l.length<m→lexF n l line col op acc=lexF m l line col op acc:=by
 induction n generalizing m with
|zero=>intro l line col op acc h;omega
|succ n ih=>
  intro l line col op acc h1 h2
  cases m with
 |zero=>omega
 |succ m=>
   cases l with
  |nil=>rfl
  |cons c r=>
    simp only[List.length_cons] at h1 h2;have hd:=QSa (fun b:UInt8=>b.toNat != 10) r;simp only[lexF]
    split
    ·exact ih m _ _ _ _ _ ZO ZO
    split
    ·exact ih m _ _ _ _ _ ZO ZO
    split
    ·exact ih m _ _ _ _ _ ZO ZO
    split
    ·exact ih m _ _ _ _ _ ZO ZO
    split
    ·exact ih m _ _ _ _ _ ZO ZO
    split
    ·rename_i hp
     split
     ·rfl
     split
     ·rfl
     have he:(c::r).dropWhile Qha=r.dropWhile Qha:=by rw[List.dropWhile_cons,if_pos hp]
     have hd:=QSa Qha r;exact ih m _ _ _ _ _ (by rw[he];omega) (by rw[he];omega)
    ·rfl
def lex (l:List UInt8)(line col:Int)(op:Bool)(acc:List Tok):Qub:=lexF (l.length+1) l line col op acc
theorem QHp (line col:Int)(op:Bool)(acc:List Tok):lex [] line col op acc=⟨fin op line col acc,0,0,0⟩:=rfl
section
variable {c:UInt8} {r:List UInt8} {line col:Int} {op:Bool} {acc:List Tok}
theorem Qzk (h:c.toNat=32∨c.toNat=9):lex (c::r) line col op acc=lex r line (col+1) op acc:=by
 unfold lex;rw[lexF,if_pos h];exact Qce _ _ _ _ _ _ _ ZS ZS
theorem Qlh (h:c.toNat=59):lex (c::r) line col op acc=lex r line (col+1) false (fin op line col acc):=by
 unfold lex;rw[lexF,if_neg ZO,if_pos h];exact Qce _ _ _ _ _ _ _ ZS ZS
theorem Qms (h:c.toNat=35):lex (c::r) line col op acc =
  lex (r.dropWhile fun b=>b.toNat != 10) line (col+1+((r.takeWhile fun b=>b.toNat != 10).length:Int)) false (fin op line col acc):=by
 have hd:=QSa (fun b:UInt8=>b.toNat != 10) r;unfold lex;rw[lexF,if_neg ZO,if_neg ZO,if_pos h];exact Qce _ _ _ _ _ _ _ (by simp;omega) ZO
theorem Qmh (h:c.toNat=10):lex (c::r) line col op acc=lex r (line+1) 1 false (fin op line col acc):=by
 unfold lex;rw[lexF,if_neg ZO,if_neg ZO,if_neg ZO,if_pos h];exact Qce _ _ _ _ _ _ _ ZS ZS
theorem QSq (h:c.toNat=61):lex (c::r) line col op acc=lex r line (col+1) true (acc++[⟨2,[61],line,col⟩]):=by
 unfold lex;rw[lexF,if_neg ZO,if_neg ZO,if_neg ZO,if_neg ZO,if_pos h];exact Qce _ _ _ _ _ _ _ ZS ZS
theorem Qtg (h:Qha c=true):c.toNat≠32∧c.toNat≠9∧c.toNat≠59∧c.toNat≠35∧c.toNat≠10∧c.toNat≠61:=by
 simp only[Qha,Qsb,Qjb,QAc,Bool.or_eq_true,Bool.and_eq_true,decide_eq_true_eq,beq_iff_eq] at h;omega
theorem QAk (h:Qha c=true)(hd:QAc (c.toNat:Int)=true):lex (c::r) line col op acc=⟨[],line,col,4⟩:=by
 have:=Qtg h;unfold lex;rw[lexF,if_neg ZO,if_neg ZO,if_neg ZO,if_neg ZO,if_neg ZO,if_pos h,if_pos hd]
theorem Qzm (h:Qha c=true)(hd:QAc (c.toNat:Int)=false)(hl:16<((c::r).takeWhile Qha).length):lex (c::r) line col op acc=⟨[],line,col,7⟩:=by
 have:=Qtg h;unfold lex;rw[lexF,if_neg ZO,if_neg ZO,if_neg ZO,if_neg ZO,if_neg ZO,if_pos h,if_neg (by simp[hd]),if_pos hl]
theorem Qym (h:Qha c=true)(hd:QAc (c.toNat:Int)=false)(hl:¬16<((c::r).takeWhile Qha).length):lex (c::r) line col op acc =
  lex ((c::r).dropWhile Qha) line (col+(((c::r).takeWhile Qha).length:Int)) true (acc++[⟨1,(c::r).takeWhile Qha,line,col⟩]):=by
 have:=Qtg h;have he:(c::r).dropWhile Qha=r.dropWhile Qha:=by rw[List.dropWhile_cons,if_pos h]
 have hd2:=QSa Qha r;unfold lex;rw[lexF,if_neg ZO,if_neg ZO,if_neg ZO,if_neg ZO,if_neg ZO,if_pos h,if_neg (by simp[hd]),if_neg hl];exact Qce _ _ _ _ _ _ _ (by rw[he];simp;omega) (by rw[he];omega)
theorem QRq (h1:c.toNat≠32)(h2:c.toNat≠9)(h3:c.toNat≠59)(h4:c.toNat≠35)(h5:c.toNat≠10)(h6:c.toNat≠61)(h:Qha c=false):
  lex (c::r) line col op acc=⟨[],line,col,4⟩:=by
 unfold lex;rw[lexF,if_neg ZO,if_neg ZO,if_neg ZO,if_neg ZO,if_neg ZO,if_neg (by simp[h])]
end
def Qhd (l:List UInt8):Qub:=if 4096<l.length then ⟨[],0,0,7⟩ else lex l 1 1 false []
end
section
def kws:List (List UInt8):=[[102,117,110,99],[98,108,111,99,107],[101,110,100],[117,115,101],[99,97,108,108],[115,111,117,114,99,101],[115,105,110,107],[115,97,110,105,116,105,122,101],[103,111,116,111],[98,114,97,110,99,104],[114,101,116,117,114,110]]
def QGg:List UInt8→Bool
|[]=>false
|c::_=>Qjb (c.toNat:Int)
def hasB (ls:List (List UInt8))(l:List UInt8):Bool:=ls.contains l
def QV (l:List UInt8):Bool:=QGg l&&decide (l.length≤16)&&!(hasB kws l)&&l.all Qha
theorem Qxk {l:List UInt8}(h:16<l.length):QV l=false:=by
 have:decide (l.length≤16)=false:=by simp;omega
 simp[QV,this]
theorem Qtj {l:List UInt8}(h:QGg l=false):QV l=false:=by simp[QV,h]
theorem QFp {l:List UInt8}(h:hasB kws l=true):QV l=false:=by unfold QV;rw[h];simp
theorem QOq {l:List UInt8}(h:l.all Qha=false):QV l=false:=by unfold QV;rw[h];simp
theorem Qwk {l:List UInt8}(h1:l.length≤16)(h2:QGg l=true)(h3:hasB kws l=false):QV l=l.all Qha:=by
 unfold QV;rw[h2,h3,decide_eq_true h1];simp
theorem QCr (p:UInt8→Bool)(l:List UInt8):((l.takeWhile p).length=l.length)↔l.all p=true:=by
 induction l with
|nil=>simp
|cons c r ih=>
  rw[List.takeWhile_cons]
  cases h:p c
  ·simp[h]
  ·simp only[if_true,List.length_cons,Nat.add_right_cancel_iff,List.all_cons,h,Bool.true_and];exact ih
theorem Qbt (l:List UInt8)(k:Nat)(c:UInt8)(h:l[k]? = some c)(p:UInt8→Bool):(l.drop k).all p=(p c&&(l.drop (k+1)).all p):=by
 obtain⟨h1,rfl⟩:=List.getElem?_eq_some_iff.1 h;rw[List.drop_eq_getElem_cons h1,List.all_cons]
end
section
def Qjl (l:List Str)(a b:Int):Bool:=l.all QV&&(decide (a≤(l.length:Int))&&decide ((l.length:Int)≤b))
def opB (op:Int)(d e:Bool)(u t:Nat):Bool:=
 if op=1 then d&&decide (t=0)
 else if op=2 then e&&(decide (1≤u)&&decide (t=0))
 else if op=5 then e&&(decide (u=1)&&decide (t=0))
 else if op=3∨op=7 then e&&(decide (u=0)&&decide (t=1))
 else if op=4∨op=6 then d&&(decide (u=0)&&decide (t=0))
 else if op=8 then e&&(decide (u=1)&&decide (t=2))
 else if op=9 then e&&(decide (u=0)&&decide (t=0))
 else false
def stmtB (s:QD):Bool:=Qjl s.uses 0 4&&(Qjl s.targets 0 2&&opB s.op (QV s.dfn) (s.dfn.isEmpty) s.uses.length s.targets.length)
def Qoc (b:QI):Bool:=QV b.name&&(decide (1≤b.stmts.length)&&(decide (b.stmts.length≤32)&&b.stmts.all stmtB))
def QNc (f:Qo):Bool:=QV f.name&&(decide (1≤f.blocks.length)&&(decide (f.blocks.length≤16)&&f.blocks.all Qoc))
def QMa (p:List Qo):Bool:=decide (1≤p.length)&&(decide (p.length≤8)&&p.all QNc)
end
section
open Go.RowKit
class Base where
 b:Nat
variable [Base]
def Qic (w:World)(b:Nat)(c:Array Value)(T:TypeId)(fr:Nat×Nat):Prop:=∃U,(U=T∨b<Base.b)∧w.heap[b]? = some (.cells c U fr)
theorem Qic.of {w:World}{b:Nat}{c:Array Value}{T:TypeId}{fr:Nat×Nat}(h:w.heap[b]? = some (.cells c T fr)):Qic w b c T fr:=⟨T,.inl rfl,h⟩
theorem Qic.old {w:World}{b:Nat}{c:Array Value}{T U:TypeId}{fr:Nat×Nat}(h:w.heap[b]? = some (.cells c U fr))(hb:b<Base.b):Qic w b c T fr:=⟨U,.inr hb,h⟩
theorem Qic.lt {w:World}{b:Nat}{c:Array Value}{T:TypeId}{fr:Nat×Nat}(h:Qic w b c T fr):b<w.heap.size:=by
 obtain⟨U,-,h⟩:=h;rcases Nat.lt_or_ge b w.heap.size with h1|h1
 ·exact h1
 ·rw[Array.getElem?_eq_none h1] at h;cases h
theorem Qic.cell {w:World}{b:Nat}{c:Array Value}{T:TypeId}{fr:Nat×Nat}(h:Qic w b c T fr)(o:Nat):w.cell? ⟨b,o,none⟩=c[o]?:=by
 obtain⟨U,-,h⟩:=h;simp[World.cell?,h]
end
section
open Go.RowKit
variable [Base]
def Qg (w:World)(T:TypeId)(sz:Nat)(v:Value)(xs:List Value):Prop:=
 ∃n cap:Nat,xs.length=n*sz∧n≤cap∧cap≤maxLen∧(((∃a,v=.slice a 0 0)∧n=0) ∨
  ∃b off c fr,v=.slice (some ⟨b,off,none⟩) n cap∧Qic w b c T fr∧∀i,i<xs.length→c[off+i]? = xs[i]?)
def tyAt (w:World)(b:Nat):Option TypeId:=match w.heap[b]? with|some (.cells _ t _)=>if b<Base.b then none else some t|_=>none
theorem Qv {w:World}{b:Nat}{c:Array Value}{t:TypeId}{fr:Nat×Nat}(h:w.heap[b]? = some (.cells c t fr))(hb:Base.b≤b:=by(try dsimp only);omega):tyAt w b=some t:=by
 unfold tyAt;rw[h];exact if_neg (Nat.not_lt.2 hb)
theorem QJv {w w':World}{b:Nat}(h:w'.heap[b]? = w.heap[b]?):tyAt w' b=tyAt w b:=by
 unfold tyAt;rw[h]
theorem Qb {w:World}{b:Nat}{o:Obj}(h:w.heap[b]? = some o):b<w.heap.size:=by
 rcases Nat.lt_or_ge b w.heap.size with h1|h1
 ·exact h1
 ·rw[Array.getElem?_eq_none h1] at h;cases h
theorem Qg.nil {w:World}{T:TypeId}{sz:Nat}:Qg w T sz (.slice none 0 0) []:=⟨0,0,by simp,Nat.le_refl _,Nat.zero_le _,.inl ⟨⟨none,rfl⟩,rfl⟩⟩
theorem Qg.of_owns {w:World}{base:Nat}{T:TypeId}{sz:Nat}{v:Value}{n:Nat}{xs:List Value}(h:w.ownsRow base T sz v n xs):Qg w T sz v xs:=by
 obtain⟨h1,h2⟩:=h;rcases h2 with⟨rfl,rfl⟩|⟨g,cap,cur,rfl,_,hg,hn,hc,hs,ht⟩
 ·have:xs=[]:=List.length_eq_zero_iff.1 ZO;subst this;exact .nil
 ·refine⟨n,cap,h1,hn,hc,.inr ⟨g,0,cur,(0,0),rfl,.of hg,fun i hi=>?_⟩⟩;rw[←ht,List.getElem?_take_of_lt ZO];simp
def Qf (T:TypeId)(w w':World):Prop:=∀(b:Nat) (c:Array Value) (fr:Nat×Nat) (U:TypeId),(U=T∨b<Base.b)→w.heap[b]? = some (Obj.cells c U fr)→w'.heap[b]? = some (Obj.cells c U fr)
theorem Qf.own {T:TypeId}{w w':World}(h:Qf T w w'){b:Nat}{c:Array Value}{fr:Nat×Nat}(e:w.heap[b]? = some (.cells c T fr)):w'.heap[b]? = some (.cells c T fr):=h b c fr T (.inl rfl) e
theorem Qic.same {T:TypeId}{w w':World}{b:Nat}{c:Array Value}{fr:Nat×Nat}(h:Qic w b c T fr)(hs:Qf T w w'):Qic w' b c T fr:=by
 obtain⟨U,hU,h⟩:=h;exact⟨U,hU,hs _ _ _ U hU h⟩
theorem Qg.same {w w':World}{T:TypeId}{sz:Nat}{v:Value}{xs:List Value}(h:Qg w T sz v xs)(hs:Qf T w w'):Qg w' T sz v xs:=by
 obtain⟨n,cap,h1,h2,h3,h4⟩:=h;refine⟨n,cap,h1,h2,h3,?_⟩;rcases h4 with h4|⟨b,off,c,fr,e1,e2,e3⟩
 ·exact .inl h4
 ·exact .inr ⟨b,off,c,fr,e1,e2.same hs,e3⟩
theorem Qf.refl {T:TypeId}{w:World}:Qf T w w:=fun _ _ _ _ _ h=>h
theorem Qf.trans {T:TypeId}{a b c:World}(h:Qf T a b)(k:Qf T b c):Qf T a c:=fun x y z U hU e=>k x y z U hU (h x y z U hU e)
theorem Qf.below {T:TypeId}{w w':World}(h:Below w.heap.size w w'):Qf T w w':=fun b _ _ _ _ e=>(h.block b (Qb e)).trans e
theorem Qf.drewN {T:TypeId}{w:World}{n:Nat}:Qf T w (w.drewN n):=fun _ _ _ _ _ h=>h
theorem Qf.alloc {T:TypeId}{w:World}{o:Obj}:Qf T w (w.alloc o):=fun b _ _ _ _ e=>(Below.heap_alloc w o b (Qb e)).trans e
theorem Qf.setCell {T U:TypeId}{w:World}{p:Addr}{u:Value}(h:tyAt w p.block=some U)(hne:T≠U):Qf T w (w.setCell p u):=fun b c fr V hV e=>by
 rw[Below.heap_setCell _ _ _ _ (fun hb=>by
  unfold tyAt at h
  rw[←hb,e] at h
  by_cases hx:b<Base.b
  ·simp only[if_pos hx] at h;cases h
  ·simp only[if_neg hx] at h
   injection h with h
   rcases hV with hV|hV
   ·exact hne (hV.symm.trans h)
   ·exact hx hV)]
 exact e
theorem Qf.grown {T U:TypeId}{w w':World}{base n sz:Nat}{v:Value}{xs:List Value}(hg:w.grownBy w' v.ownBlock)(ho:w.ownsRow base U sz v n xs)(hne:T≠U)(hbase:Base.b≤base:=by omega):Qf T w w':=fun b c fr V hV e=>by
 rw[hg.block b (Qb e) ?_]
 ·exact e
 ·intro hb
  rcases ho.2 with⟨rfl,_⟩|⟨g,cap,cur,rfl,hgb,hh,_⟩
  ·simp[Value.ownBlock] at hb
  ·simp[Value.ownBlock] at hb
   subst hb
   rw[hh] at e
   injection e with e
   injection e with _ e2 _
   rcases hV with hV|hV
   ·exact hne (hV.symm.trans e2.symm)
   ·omega
def All2 {α β:Type}(R:α→β→Prop):List α→List β→Prop
|[],[]=>True
|a::ps,b::bs=>R a b∧All2 R ps bs
|_,_=>False
theorem All2.mono {α β:Type}{R S:α→β→Prop}(h:∀a b,R a b→S a b):∀{ps:List α} {bs:List β},All2 R ps bs→All2 S ps bs
|[],[],_=>trivial
|_::_,_::_,⟨h1,h2⟩=>⟨h _ _ h1,All2.mono h h2⟩
theorem All2.length {α β:Type}{R:α→β→Prop}:∀{ps:List α} {bs:List β},All2 R ps bs→ps.length=bs.length
|[],[],_=>rfl
|_::_,_::_,⟨_,h2⟩=>by simp[All2.length h2]
theorem All2.append {α β:Type}{R:α→β→Prop}:∀{ps cs:List α} {bs ds:List β},All2 R ps bs→All2 R cs ds→All2 R (ps++cs) (bs++ds)
|[],_,[],_,_,h=>h
|_::_,_,_::_,_,⟨h1,h2⟩,h=>⟨h1,All2.append h2 h⟩
theorem All2.get {α β:Type}{R:α→β→Prop}:∀{ps:List α} {bs:List β} (_:All2 R ps bs) (i:Nat) (h1:i<ps.length) (h2:i<bs.length),R ps[i] bs[i]
|_::_,_::_,⟨h,_⟩,0,_,_=>h
|_::_,_::_,⟨_,h⟩,i+1,h1,h2=>All2.get h i (by simpa using h1) (by simpa using h2)
theorem QNe {α:Type}(sz:Nat):∀(l:List (List α)) (_:∀x∈l,x.length=sz) (i j:Nat) (hi:i<l.length) (_:j<sz),l.flatten[i*sz+j]? = l[i][j]?
|x::l,h,0,j,_,hj=>by
  simp only[List.flatten_cons,Nat.zero_mul,Nat.zero_add,List.getElem_cons_zero]
  rw[List.getElem?_append_left (by rw[h x (List.mem_cons_self)];exact hj)]
|x::l,h,i+1,j,hi,hj=>by
  have hx:=h x List.mem_cons_self
  simp only[List.flatten_cons,List.getElem_cons_succ]
  rw[List.getElem?_append_right (by rw[hx];rw[Nat.succ_mul];omega),hx,show(i+1)*sz+j-sz=i*sz+j from by rw[Nat.succ_mul];omega]
  exact QNe sz l (fun y hy=>h y (List.mem_cons_of_mem _ hy)) i j (by simpa using hi) hj
theorem Qed {α:Type}(sz:Nat):∀(l:List (List α)) (_:∀x∈l,x.length=sz),l.flatten.length=l.length*sz
|[],_=>by simp
|x::l,h=>by
  rw[List.flatten_cons,List.length_append,h x List.mem_cons_self,Qed sz l (fun y hy=>h y (List.mem_cons_of_mem _ hy)),List.length_cons,Nat.succ_mul];omega
theorem Qg.form {w:World}{T:TypeId}{sz:Nat}{v:Value}{xs:List Value}(h:Qg w T sz v xs):
  ∃a n c,v=.slice a n c∧xs.length=n*sz∧n≤maxLen∧n≤c∧c≤maxLen∧(0<n→∃b off,a=some ⟨b,off,none⟩∧b<w.heap.size∧True∧∀i,i<xs.length→w.cell? ⟨b,off+i,none⟩=xs[i]?):=by
 obtain⟨n,cap,h1,h2,h3,h4⟩:=h;rcases h4 with⟨⟨a,rfl⟩,rfl⟩|⟨b,off,c,fr,rfl,e2,e3⟩
 ·exact⟨a,0,0,rfl,h1,Nat.zero_le _,Nat.le_refl _,Nat.zero_le _,fun h=>by omega⟩
 ·exact⟨some ⟨b,off,none⟩,n,cap,rfl,h1,by omega,h2,h3,fun _=>⟨b,off,rfl,e2.lt,trivial,fun i hi=>by rw[←e3 i hi,e2.cell]⟩⟩
theorem QPk {w:World}{cs:List Value}{e:TypeId}(j:Nat)(u:Value)(h:cs[j]? = some u):(w.alloc (.cells cs.toArray e)).cell? ((⟨w.heap.size,0,none⟩:Addr).add j)=some u:=by
 have h2:((⟨w.heap.size,0,none⟩:Addr).add j)=⟨w.heap.size,j,none⟩:=by
  unfold Addr.add
  split
  ·rename_i h0;subst h0;rfl
  ·simp
 rw[h2,World.cell?_alloc_new]
 simpa using h
theorem QL {P:Program}{ops:Array Oper}{rest:List Oper}{o:Oper}{a:Act}{Q:Exit→Act→World→Prop}{w:World}(news:List Value)(hgd:o.guard=none)(s x:Operand)(t:TypeId)(ho:o.op=.call { callee:=.builtin .append,args:=#[s,x],argTypes:=#[t,t] })(base:Nat)(e:TypeId)(z:Value)(size bytes:Nat)(ht:P.underlying t=some (.slice e))(hi:(P.info? e).map (fun i=>(i.zero,i.size,i.bytes))=some (some z,size,bytes))(hzs:z.cells.size=size)(hsz:0<size)(v:Value)(n:Nat)(xs:List Value)(hown:w.ownsRow base e size v n xs)(hs:a.eval s=v)(hx:a.eval x=.slice (some ⟨w.heap.size,0,none⟩) 1 1)(hl:news.length=size)(h1:news.all Value.oneCell'=true)(h63:n+1≤maxLen)(hbytes:(n+1)*bytes≤140737488355328)(hbase:base≤w.heap.size)(h:∀g cap w',w'.ownsRow base e size (.slice (some ⟨g,0,none⟩) (n+1) cap) (n+1) (xs++news)→w.grownBy w' v.ownBlock→base≤g→g<w'.heap.size →
   wpList P ops Q rest (a.put o.dst (.slice (some ⟨g,0,none⟩) (n+1) cap)) w'):
  wpList P ops Q (o::rest) a (w.alloc (.cells news.toArray e)):=by
 obtain⟨i,hi',hz,hs1,hs2⟩:=info_parts hi;refine wpList_append_lies _ hgd s x t ho base e i z size bytes ht hi' hz hs1 hs2 hzs hsz v n xs hs (hown.alloc _) ⟨w.heap.size,0,none⟩ 1 1 news hx ZO
  QPk (fun u hu=>List.all_eq_true.1 h1 u hu) ZO h63 hbytes (by simp;omega) _ rfl ?_
 intro g cap w' h2 h3 h4 h5;refine h g cap w' h2 ?_ ?_ h5
 ·have ha:=World.grownBy_alloc w (.cells news.toArray e) v.ownBlock;exact⟨h3.os.trans ha.os,h3.tape.trans ha.tape,h3.output.trans ha.output,Nat.le_trans ha.size h3.size,
   fun k hk hn=>(h3.block k (Nat.lt_of_lt_of_le hk ha.size) hn).trans (ha.block k hk hn)⟩
 ·rcases h4 with h4|h4
  ·exact(hown.lt g h4).1
  ·rw[h4];simp;omega
theorem Below.of_grown {base:Nat}{e:TypeId}{size n:Nat}{v:Value}{xs:List Value}{w w':World}(hg:w.grownBy w' v.ownBlock)(hown:w.ownsRow base e size v n xs)(hb:base≤w.heap.size):Below base w w':=
 (Below.refl base w).grown hg hb fun k hk=>(hown.lt k hk).1
theorem Qg.new {w:World}{T:TypeId}{sz:Nat}(xs:List Value)(n:Nat)(h:xs.length=n*sz)(hn:n≤maxLen):
  Qg (w.alloc (.cells xs.toArray T)) T sz (.slice (some ⟨w.heap.size,0,none⟩) n n) xs:=
 ⟨n,n,h,Nat.le_refl _,hn,.inr ⟨w.heap.size,0,xs.toArray,(0,0),rfl,.of (heap_alloc_new _ _),fun i _=>by simp⟩⟩
end
section
open Go.RowKit
variable [Base]
theorem Qbl (l:List UInt8):(⟨l.toArray⟩:ByteArray).size=l.length:=by show l.toArray.size=_;simp
theorem Qgb {a b:Bool}(h:a=b):Ending.returned (.bool a)=.returned (.bool b):=by rw[h]
def Qvn (w:World)(a:Option Addr)(ls:List (List UInt8)):Prop:=∀(k:Nat) s,ls[k]? = some s→∃b off,a=some ⟨b,off,none⟩∧w.cell? ⟨b,off+k,none⟩=some (.string ⟨s.toArray⟩)
theorem Qig (ls:List (List UInt8))(k:Nat)(s l:List UInt8)(h:ls[k]? = some s):hasB (ls.drop k) l=(l==s||hasB (ls.drop (k+1)) l):=by
 obtain⟨h1,rfl⟩:=List.getElem?_eq_some_iff.1 h;unfold hasB;rw[List.drop_eq_getElem_cons h1,List.contains_cons]
end
section
open Go.RowKit
theorem Qtp {k:IntKind}{a b:Int}(h:a=b):Ending.returned (.int k a)=.returned (.int k b):=by rw[h]
theorem QIk (c:Int)(w:World):
  Calls Tryz.prog 256 #[.int .u8 c] w fun e w'=>e=.returned (.bool (QAc c))∧w'=w:=by
 unfold QAc;by_cases h1:48≤c
 ·go_enter Tryz.func256,Tryz.ntmps256;go_wp2;go_ret;exact⟨by simp[h1],rfl⟩
 ·have h1':decide (48≤c)=false:=by simp;omega
  go_enter Tryz.func256,Tryz.ntmps256;go_wp2;go_ret;exact⟨by simp[h1'],rfl⟩
theorem QQa (c:Int)(w:World):
  Calls Tryz.prog 219 #[.int .u8 c] w fun e w'=>e=.returned (.bool (QAc c))∧w'=w:=by
 unfold QAc;by_cases h1:48≤c
 ·go_enter Tryz.func219,Tryz.ntmps219;go_wp2;go_ret;exact⟨by simp[h1],rfl⟩
 ·have h1':decide (48≤c)=false:=by simp;omega
  go_enter Tryz.func219,Tryz.ntmps219;go_wp2;go_ret;exact⟨by simp[h1'],rfl⟩
theorem Qqe (c:Int)(w:World):
  Calls Tryz.prog 228 #[.int .u8 c] w fun e w'=>e=.returned (.bool (Qjb c))∧w'=w:=by
 have hl:∀b,Qjb c=b→Qjb c=b:=fun _ h=>h
 by_cases h1:97≤c
 ·by_cases h2:c≤122
  ·have hv:Qjb c=true:=by simp[Qjb,h1,h2]
   rw[hv];clear hl hv;go_enter Tryz.func228,Tryz.ntmps228;go_wp2;go_ret;exact⟨rfl,rfl⟩
  ·have hv:Qjb c=false:=by simp[Qjb];omega
   have h3:65≤c:=by omega
   have h2':decide (c≤122)=false:=by simp;omega
   have h4':decide (c≤90)=false:=by simp;omega
   rw[hv];clear hl hv;go_enter Tryz.func228,Tryz.ntmps228;go_wp2;go_ret;exact⟨rfl,rfl⟩
 ·have h1':decide (97≤c)=false:=by simp;omega
  by_cases h3:65≤c
  ·by_cases h4:c≤90
   ·have hv:Qjb c=true:=by simp[Qjb];omega
    rw[hv];clear hl hv;go_enter Tryz.func228,Tryz.ntmps228;go_wp2;go_ret;exact⟨rfl,rfl⟩
   ·have hv:Qjb c=false:=by simp[Qjb];omega
    have h4':decide (c≤90)=false:=by simp;omega
    rw[hv];clear hl hv;go_enter Tryz.func228,Tryz.ntmps228;go_wp2;go_ret;exact⟨rfl,rfl⟩
  ·have hv:Qjb c=false:=by simp[Qjb];omega
   have h3':decide (65≤c)=false:=by simp;omega
   rw[hv];clear hl hv;go_enter Tryz.func228,Tryz.ntmps228;go_wp2;go_ret;exact⟨rfl,rfl⟩
def QOa (c:Int):Bool:=Qjb c||c==95
theorem Qim (c:Int)(w:World):
  Calls Tryz.prog 250 #[.int .u8 c] w fun e w'=>e=.returned (.bool (Qsb c))∧w'=w:=by
 unfold Qsb
 cases hl:Qjb c
 ·cases hd:QAc c
  all_goals
   go_enter Tryz.func250,Tryz.ntmps250;go_wp2_with (first|(go_at_call 228;refine(Qqe _ _).mono ?_;rintro e w' ⟨rfl,rfl⟩)|(go_at_call 256;refine(QIk _ _).mono ?_;rintro e w' ⟨rfl,rfl⟩));go_ret;exact⟨rfl,rfl⟩
 ·go_enter Tryz.func250,Tryz.ntmps250;go_wp2_with (first|(go_at_call 228;refine(Qqe _ _).mono ?_;rintro e w' ⟨rfl,rfl⟩)|(go_at_call 256;refine(QIk _ _).mono ?_;rintro e w' ⟨rfl,rfl⟩));go_ret;exact⟨rfl,rfl⟩
theorem QDa (c:Int)(w:World):
  Calls Tryz.prog 218 #[.int .u8 c] w fun e w'=>e=.returned (.bool (QOa c))∧w'=w:=by
 by_cases h1:97≤c
 ·by_cases h2:c≤122
  ·have hv:QOa c=true:=by simp[QOa,Qjb,h1,h2]
   rw[hv];clear hv;go_enter Tryz.func218,Tryz.ntmps218;go_wp2;go_ret;exact⟨rfl,rfl⟩
  ·have hv:QOa c=false:=by simp[QOa,Qjb];omega
   have h3:65≤c:=by omega
   have h2':decide (c≤122)=false:=by simp;omega
   have h4':decide (c≤90)=false:=by simp;omega
   have h5':(c==95)=false:=by simp;omega
   rw[hv];clear hv;go_enter Tryz.func218,Tryz.ntmps218;go_wp2;go_ret;exact⟨rfl,rfl⟩
 ·have h1':decide (97≤c)=false:=by simp;omega
  by_cases h3:65≤c
  ·by_cases h4:c≤90
   ·have hv:QOa c=true:=by simp[QOa,Qjb];omega
    rw[hv];clear hv;go_enter Tryz.func218,Tryz.ntmps218;go_wp2;go_ret;exact⟨rfl,rfl⟩
   ·have hv:QOa c=(c==95):=by simp[QOa,Qjb];omega
    have h4':decide (c≤90)=false:=by simp;omega
    rw[hv];clear hv;go_enter Tryz.func218,Tryz.ntmps218;go_wp2;go_ret;exact⟨rfl,rfl⟩
  ·have hv:QOa c=(c==95):=by simp[QOa,Qjb];omega
   have h3':decide (65≤c)=false:=by simp;omega
   rw[hv];clear hv;go_enter Tryz.func218,Tryz.ntmps218;go_wp2;go_ret;exact⟨rfl,rfl⟩
theorem QYa (s:ByteArray)(k:Nat)(h:k<s.size):s.data.toList.drop k=s[k]::s.data.toList.drop (k+1):=by
 rw[List.drop_eq_getElem_cons (by simpa using h)];rfl
theorem Qef (s:ByteArray)(k:Nat)(h:s.size≤k):s.data.toList.drop k=[]:=by
 rw[List.drop_eq_nil_iff];simpa using h
def wlen (s:ByteArray)(k:Nat):Nat:=((s.data.toList.drop k).takeWhile Qha).length
theorem Qfe (s:ByteArray)(k:Nat)(h:k<s.size)(hp:Qsb (s[k].toNat:Int)=true):wlen s k=1+wlen s (k+1):=by
 unfold wlen;rw[QYa s k h,List.takeWhile_cons,if_pos (show Qha s[k]=true from hp),List.length_cons];omega
theorem QZk (s:ByteArray)(k:Nat)(h:k<s.size)(hp:Qsb (s[k].toNat:Int)=false):wlen s k=0:=by
 unfold wlen;rw[QYa s k h,List.takeWhile_cons,if_neg (by show ¬Qsb (s[k].toNat:Int)=true;simp[hp])];rfl
theorem QNi (s:ByteArray)(k:Nat)(h:s.size≤k):wlen s k=0:=by
 unfold wlen;rw[Qef s k h];rfl
theorem QEl (s:ByteArray)(i:Nat)(w:World)(hs:s.size≤maxLen)(hi:i≤s.size):
  Calls Tryz.prog 230 #[.string s,.int .i64 i] w fun e w'=>e=.returned (.int .i64 ((i+wlen s i:Nat):Int))∧w'=w:=by
 unfold maxLen at hs;go_enter Tryz.func230,Tryz.ntmps230;go_wp2;go_loop [1] (fun v=>∃k:Nat,k≤s.size∧v=.int .i64 k∧Hid (k+wlen s k=i+wlen s i)) (fun v=>s.size-(intOf v).toNat)
 case atStart=>exact⟨i,hi,rfl,rfl⟩
 case round=>
  obtain⟨k,hk,rfl,hw⟩:=hrel;by_cases hlt:k<s.size
  ·cases hp:Qsb (s[k].toNat:Int)
   ·have h0:=Zh (QZk s k hlt hp);go_wp2_with (go_at_call 250;refine(Qim _ _).mono ?_;rintro e w' ⟨rfl,rfl⟩);go_ret;exact⟨Qtp (by have:=hw.o;have:=h0.o;omega),rfl⟩
   ·have h0:=Zh (Qfe s k hlt hp);go_wp2_with (go_at_call 250;refine(Qim _ _).mono ?_;rintro e w' ⟨rfl,rfl⟩);go_round
    case rel=>exact⟨k+1,by omega,by go_num,by have:=hw.o;have:=h0.o;unfold Hid;omega⟩
    case measure=>simp[intOf];omega
  ·have h0:=Zh (QNi s k ZO);go_wp2;go_ret;exact⟨Qtp (by have:=hw.o;have:=h0.o;omega),rfl⟩
end
section
open Go.RowKit
variable [Base]
def strV (l:List UInt8):Value:=.string ⟨l.toArray⟩
theorem Qnl (w:World):
  Calls Tryz.prog 224 #[] w fun e w'=>e=.returned (.slice (some ⟨w.heap.size,0,none⟩) 11 11)∧w'=w.alloc (.cells (kws.map strV).toArray 9):=by
 go_enter Tryz.func224,Tryz.ntmps224;go_wp2;go_ret;exact⟨rfl,rfl⟩
theorem QFr (w:World)(ls:List (List UInt8))(t:TypeId):Qvn (w.alloc (.cells (ls.map strV).toArray t)) (some ⟨w.heap.size,0,none⟩) ls:=by
 intro k s h;refine⟨w.heap.size,0,rfl,?_⟩;rw[World.cell?_alloc_new];simp[h,strV]
def Qde (b:Bool)(w:World)(e:Ending)(w':World):Prop:=e=.returned (.bool b)∧Below w.heap.size w w'
theorem QTf (c:Int)(w:World):Calls Tryz.prog 218 #[.int .u8 c] w fun e w'=>e=.returned (.bool (QOa c))∧w=w':=(QDa c w).mono fun _ _ h=>⟨h.1,h.2.symm⟩
theorem QWo (c:Int)(w:World):Calls Tryz.prog 219 #[.int .u8 c] w fun e w'=>e=.returned (.bool (QAc c))∧w=w':=(QQa c w).mono fun _ _ h=>⟨h.1,h.2.symm⟩
theorem QVq (c:Int)(h:QOa c=false):Qsb c=QAc c:=by
 unfold QOa at h;simp only[Bool.or_eq_false_iff] at h;unfold Qsb;rw[h.1,h.2];simp
theorem Qro (c:Int)(h:QOa c=true):Qsb c=true:=by
 unfold QOa at h;unfold Qsb;cases h1:Qjb c <;> simp_all
theorem QNr (s:ByteArray)(w:World)(h0:0<s.size)(h1:s.size≤16)(h2:QOa (s[0].toNat:Int)=true)(h3:((s[0].toNat:Int)==95)=false)(hf:Hid (QGg s.data.toList=true)):
  Calls Tryz.prog 175 #[.string s] w (Qde (QV s.data.toList) w):=by
 have g1:decide ((16:Int)<(s.size:Int))=false:=by simp;omega
 have g0:((s.size:Int)==0)=false:=by rw[beq_eq_false_iff_ne];omega
 go_enter Tryz.func175,Tryz.ntmps175;go_wp2_with (go_at_call 218;refine(QTf _ _).mono ?_;rintro e w' ⟨rfl,rfl⟩);go_loop [3] (fun v=>∃k:Nat,k≤s.size∧v=.int .i64 k∧Hid (s.data.toList.all Qha=(s.data.toList.drop k).all Qha)) (fun v=>s.size-(intOf v).toNat)
 case atStart=>exact⟨0,Nat.zero_le _,rfl,by unfold Hid;simp⟩
 case round=>
  obtain⟨k,hk,rfl,hs⟩:=hrel;by_cases hlt:k<s.size
  ·have st:=Zh (Qbt s.data.toList k s[k] (by simp[hlt];rfl) Qha)
   cases e1:QOa (s[k].toNat:Int)
   ·have q:=Zh (QVq _ e1)
    cases e2:QAc (s[k].toNat:Int)
    ·have E2:=Zh e2;go_wp2_with (first
     |(go_at_call 218;refine(QTf _ _).mono ?_;rintro e w' ⟨rfl,rfl⟩)
     |(go_at_call 219;refine(QWo _ _).mono ?_;rintro e w' ⟨rfl,rfl⟩))
     go_ret;refine⟨?_,Below.refl _ _⟩;rw[QOq (by rw[hs.o,st.o];unfold Qha;rw[q.o,E2.o];rfl)];rfl
    ·have E2:=Zh e2;go_wp2_with (first
     |(go_at_call 218;refine(QTf _ _).mono ?_;rintro e w' ⟨rfl,rfl⟩)
     |(go_at_call 219;refine(QWo _ _).mono ?_;rintro e w' ⟨rfl,rfl⟩))
     go_round
     case rel=>exact⟨k+1,by omega,by go_num,by unfold Hid;rw[hs.o,st.o];unfold Qha;rw[q.o,E2.o];rfl⟩
     case measure=>simp[intOf];omega
   ·have q:=Zh (Qro _ e1);go_wp2_with (first
    |(go_at_call 218;refine(QTf _ _).mono ?_;rintro e w' ⟨rfl,rfl⟩)
    |(go_at_call 219;refine(QWo _ _).mono ?_;rintro e w' ⟨rfl,rfl⟩))
    go_round
    case rel=>exact⟨k+1,by omega,by go_num,by unfold Hid;rw[hs.o,st.o];unfold Qha;rw[q.o];rfl⟩
    case measure=>simp[intOf];omega
  ·have hall:Hid (s.data.toList.all Qha=true):=by unfold Hid;rw[hs.o,List.drop_of_length_le (by simp;omega)];rfl
   clear hs;have hr:Hid (hasB kws s.data.toList=false→QV s.data.toList=true):=by
    intro h;rw[Qwk (by simp;omega) hf.o h];exact hall.o
   have hS:=Zh (QFr w kws 9);go_wp2_with (go_at_call 224;refine(Qnl _).mono ?_;rintro e w2 ⟨rfl,hw'⟩;have hW:=Zh hw';clear hw');go_loop [5] (fun v=>∃k:Nat,k≤11∧v=.int .i64 k∧Hid (hasB kws s.data.toList=hasB (kws.drop k) s.data.toList)) (fun v=>11-(intOf v).toNat)
   case atStart=>exact⟨0,Nat.zero_le _,rfl,by unfold Hid;simp⟩
   case round=>
    obtain⟨j,hj,rfl,hk2⟩:=hrel;by_cases hlt2:j<11
    ·obtain⟨t,ht⟩:∃t,kws[j]? = some t:=⟨_,List.getElem?_eq_getElem (show j<kws.length from hlt2)⟩;obtain⟨b,off,hb,g⟩:=hS.o j t ht;simp only[Option.some.injEq,Addr.mk.injEq] at hb;obtain⟨rfl,rfl,_⟩:=hb;rw[←hW.o,Nat.zero_add] at g;have st2:=Zh (Qig kws j t s.data.toList ht);clear ht
     cases e:t==s.toList
     ·have E:=Zh e;go_wp2;go_round
      case rel=>exact⟨j+1,by omega,by go_num,by have h:=E.o;rw[ByteArray.toList_eq,BEq.comm] at h;unfold Hid;rw[hk2.o,st2.o,h];rfl⟩
      case measure=>simp[intOf];omega
     ·have E:=Zh e;go_wp2;go_ret;refine⟨?_,?_⟩
      ·have h:=E.o;rw[ByteArray.toList_eq,BEq.comm] at h;rw[QFp (by rw[hk2.o,st2.o,h];rfl)];rfl
      ·rw[hW.o];exact Zb
    ·go_wp2;go_ret;refine⟨?_,?_⟩
     ·rw[hr.o (by rw[hk2.o,List.drop_of_length_le (by show 11≤j;omega)];rfl)];rfl
     ·rw[hW.o];exact Zb
theorem Qrk (s:ByteArray)(w:World)(h:s.size=0∨16<s.size)(hv:QV s.data.toList=false):
  Calls Tryz.prog 175 #[.string s] w (Qde (QV s.data.toList) w):=by
 rw[hv];clear hv;rcases h with h|h
 ·have g0:((s.size:Int)==0)=true:=by rw[beq_iff_eq];omega
  clear h;go_enter Tryz.func175,Tryz.ntmps175;go_wp2;go_ret;exact⟨rfl,Below.refl _ _⟩
 ·have g0:((s.size:Int)==0)=false:=by rw[beq_eq_false_iff_ne];omega
  have g1:decide ((16:Int)<(s.size:Int))=true:=by simp;omega
  clear h;go_enter Tryz.func175,Tryz.ntmps175;go_wp2;go_ret;exact⟨rfl,Below.refl _ _⟩
theorem Qcm (s:ByteArray)(w:World)(h0:0<s.size)(h1:s.size≤16)(h2:Qjb (s[0].toNat:Int)=false)(hv:QV s.data.toList=false):
  Calls Tryz.prog 175 #[.string s] w (Qde (QV s.data.toList) w):=by
 rw[hv];clear hv;have g1:decide ((16:Int)<(s.size:Int))=false:=by simp;omega
 have g0:((s.size:Int)==0)=false:=by rw[beq_eq_false_iff_ne];omega
 cases e:QOa (s[0].toNat:Int)
 ·clear h2;go_enter Tryz.func175,Tryz.ntmps175;go_wp2_with (go_at_call 218;refine(QTf _ _).mono ?_;rintro e w' ⟨rfl,rfl⟩);go_ret;exact⟨rfl,Below.refl _ _⟩
 ·have h3:((s[0].toNat:Int)==95)=true:=by unfold QOa at e;rw[h2] at e;simpa using e
  clear h2;go_enter Tryz.func175,Tryz.ntmps175;go_wp2_with (go_at_call 218;refine(QTf _ _).mono ?_;rintro e w' ⟨rfl,rfl⟩);go_ret;exact⟨rfl,Below.refl _ _⟩
theorem QBs (s:ByteArray)(h0:0<s.size):QGg s.data.toList=Qjb (s[0].toNat:Int):=by
 have h:=QYa s 0 h0;rw[List.drop_zero] at h;rw[h];rfl
theorem Qsk (s:ByteArray)(w:World):
  Calls Tryz.prog 175 #[.string s] w (Qde (QV s.data.toList) w):=by
 by_cases h0:s.size=0
 ·exact Qrk s w (.inl h0) (by rw[List.length_eq_zero_iff.1 (show s.data.toList.length=0 by simpa using h0)];rfl)
 by_cases h1:16<s.size
 ·exact Qrk s w (.inr h1) (Qxk (by simpa using h1))
 have h0':0<s.size:=by omega
 have hf:=QBs s h0'
 cases h2:Qjb (s[0].toNat:Int)
 ·exact Qcm s w h0' ZO h2 (Qtj (by rw[hf,h2]))
 ·refine QNr s w h0' ZO (by unfold QOa;rw[h2];rfl) ?_ (by unfold Hid;rw[hf,h2]);rw[beq_eq_false_iff_ne];intro h;rw[h] at h2;exact absurd h2 ZD
end
section
open Go.RowKit
variable [Base]
theorem Qyn (v n:Int)(hn:1≤n)(hn':n≤9223372036854775807):
  0≤wrap64 ((IntKind.u64.wrap v).tmod n)∧wrap64 ((IntKind.u64.wrap v).tmod n)<n:=by
 have h0:0≤IntKind.u64.wrap v:=by rw[IntKind.wrap_u64];omega
 have h1:(IntKind.u64.wrap v).tmod n=(IntKind.u64.wrap v) % n:=Int.tmod_eq_emod_of_nonneg h0;have h2:=Int.emod_nonneg (IntKind.u64.wrap v) (show n≠0 by omega);have h3:=Int.emod_lt_of_pos (IntKind.u64.wrap v) (show 0<n by omega);rw[h1];generalize IntKind.u64.wrap v % n=m at *;rw[IntWalk.wrap64_in m ZO];exact⟨h2,h3⟩
def QSt (n:Int)(e:Ending):Prop:=∃r:Int,0≤r∧r<n∧e=.returned (.int .i64 r)
theorem QEt (v n:Int)(w:World)(hn:1≤n)(hn':n≤9223372036854775807):
  Calls Tryz.prog 61 #[.int .i64 v,.int .i64 n] w fun e w'=>e=.returned (.int .i64 (wrap64 ((IntKind.u64.wrap v).tmod n)))∧w'=w:=by
 go_enter Tryz.func61,Tryz.ntmps61;go_wp2;go_ret;exact⟨rfl,rfl⟩
structure QZ (B:Nat)(w:World)(bt:Nat):Prop where
 base:Base.b≤B
 ge:B≤bt
 lt:bt<w.heap.size
 get:∃(a:Option Addr) (n c:Nat) (i:Int),w.heap[bt]? = some (.cells #[.slice a n c,.int .i64 i] 85 (0,0))∧0≤i∧n≤maxLen∧i≤maxLen ∧
  ∀j:Nat,j<n→∃b off z,a=some ⟨b,off,none⟩∧b<B∧w.cell? ⟨b,off+j,none⟩=some (.int .i64 z)
theorem QZ.bs {B bt:Nat}{w:World}(h:QZ B w bt):Base.b≤bt:=Nat.le_trans h.base h.ge
structure But (bt:Nat)(w w':World):Prop where
 os:w'.os=w.os
 tape:w'.tape=w.tape
 output:w'.output=w.output
 size:w.heap.size≤w'.heap.size
 block:∀k,k<w.heap.size→k≠bt→w'.heap[k]? = w.heap[k]?
theorem But.refl (bt:Nat)(w:World):But bt w w:=⟨rfl,rfl,rfl,Nat.le_refl _,fun _ _ _=>rfl⟩
theorem But.trans {bt:Nat}{a b c:World}(h:But bt a b)(k:But bt b c):But bt a c:=
 ⟨k.os.trans h.os,k.tape.trans h.tape,k.output.trans h.output,Nat.le_trans h.size k.size,
  fun i hi hn=>(k.block i (Nat.lt_of_lt_of_le hi h.size) hn).trans (h.block i hi hn)⟩
theorem But.drewN {bt:Nat}{a w:World}(h:But bt a w)(n:Nat):But bt a (w.drewN n):=⟨h.os,h.tape,h.output,h.size,h.block⟩
theorem But.alloc {bt:Nat}{a w:World}(h:But bt a w)(o:Obj):But bt a (w.alloc o):=
 h.trans ⟨rfl,rfl,rfl,by simp,fun k hk _=>Below.heap_alloc _ _ _ hk⟩
theorem But.setCell {bt:Nat}{a w:World}(h:But bt a w)(p:Addr)(hp:p.block=bt∨a.heap.size≤p.block)(u:Value):But bt a (w.setCell p u):=
 ⟨h.os,h.tape,h.output,by simpa using h.size,fun k hk hn=>by
  rw[Below.heap_setCell _ _ _ _ ZO];exact h.block k hk hn⟩
theorem But.below {bt:Nat}{a w w':World}(h:But bt a w)(k:Below w.heap.size w w'):But bt a w':=
 h.trans ⟨k.os,k.tape,k.output,k.size,fun i hi _=>k.block i hi⟩
theorem But.cell {bt:Nat}{w w':World}(h:But bt w w'):∀b o,b<w.heap.size→b≠bt→w'.cell? ⟨b,o,none⟩=w.cell? ⟨b,o,none⟩:=
 fun b o hb hn=>World.cell?_of_block (h.block b hb hn)
theorem But.frozen {bt:Nat}{w w':World}(h:But bt w w'):∀b o,b<w.heap.size→b≠bt→w'.frozen? ⟨b,o,none⟩=w.frozen? ⟨b,o,none⟩:=
 fun b o hb hn=>World.frozen?_of_block (h.block b hb hn)
theorem But.toBelow {B bt:Nat}{w w':World}(h:But bt w w')(hB:B≤bt)(hw:B≤w.heap.size):Below B w w':=
 ⟨h.os,h.tape,h.output,h.size,fun k hk=>h.block k ZO ZO⟩
theorem QZ.keep {B bt:Nat}{w w':World}(h:QZ B w bt)(hb:w'.heap[bt]? = w.heap[bt]?)(hB:∀k,k<B→w'.heap[k]? = w.heap[k]?)(hs:w.heap.size≤w'.heap.size):QZ B w' bt:=by
 obtain⟨a,n,c,i,h1,h2,h3,h4,h5⟩:=h.get;refine⟨h.base,h.ge,Nat.lt_of_lt_of_le h.lt hs,a,n,c,i,hb.trans h1,h2,h3,h4,fun j hj=>?_⟩;obtain⟨b,off,z,e1,e2,e3⟩:=h5 j hj;exact⟨b,off,z,e1,e2,(World.cell?_of_block (hB b e2)).trans e3⟩
theorem QZ.drewN {B bt:Nat}{w:World}(h:QZ B w bt)(n:Nat):QZ B (w.drewN n) bt:=h.keep rfl (fun _ _=>rfl) (Nat.le_refl _)
theorem QZ.alloc {B bt:Nat}{w:World}(h:QZ B w bt)(o:Obj):QZ B (w.alloc o) bt:=
 h.keep (Below.heap_alloc _ _ _ h.lt) (fun k hk=>Below.heap_alloc _ _ _ (by have:=h.lt;have:=h.ge;omega)) ZS
theorem QZ.setCell {B bt:Nat}{w:World}(h:QZ B w bt){p:Addr}(h1:p.block≠bt)(h2:B≤p.block)(u:Value):QZ B (w.setCell p u) bt:=
 h.keep (Below.heap_setCell _ _ _ _ ZO) (fun k hk=>Below.heap_setCell _ _ _ _ ZO) ZS
theorem QZ.below {B bt:Nat}{w w':World}(h:QZ B w bt)(k:Below w.heap.size w w'):QZ B w' bt:=
 h.keep (k.block _ h.lt) (fun i hi=>k.block i (by have:=h.lt;have:=h.ge;omega)) k.size
theorem Qio (a:Option Addr)(l c bt:Nat)(i n:Int)(w:World)(hn:n≤1)(h0:w.cell? ⟨bt,0,none⟩=some (.slice a l c))(h1:w.cell? ⟨bt,1,none⟩=some (.int .i64 i)):
  Calls Tryz.prog 16 #[.pointer (some ⟨bt,0,none⟩),.int .i64 n] w fun e w'=>e=.returned (.int .i64 0)∧∃k,w'=w.drewN k:=by
 go_enter Tryz.func16,Tryz.ntmps16;go_wp2;go_quiet (fail);go_wp2;go_ret;exact⟨rfl,_,rfl⟩
theorem Qjs (a:Option Addr)(l c bt:Nat)(i n:Int)(w:World)(hn:1<n)(hl:(l:Int)≤i)(h0:w.cell? ⟨bt,0,none⟩=some (.slice a l c))(h1:w.cell? ⟨bt,1,none⟩=some (.int .i64 i)):
  Calls Tryz.prog 16 #[.pointer (some ⟨bt,0,none⟩),.int .i64 n] w fun e w'=>e=.returned (.int .i64 0)∧∃k,w'=w.drewN k:=by
 have hn2:decide (n≤1)=false:=by simp;omega
 go_enter Tryz.func16,Tryz.ntmps16;go_wp2;go_quiet (fail);go_wp2;go_ret;exact⟨rfl,_,rfl⟩
theorem QMq (b off l c bt:Nat)(i n z:Int)(w:World)(hn:1<n)(hn':n≤9223372036854775807)(hi:0≤i)(hl:i<(l:Int))(hm:(l:Int)≤9223372036854775807)(hbt:b≠bt)(h0:w.cell? ⟨bt,0,none⟩=some (.slice (some ⟨b,off,none⟩) l c))(h1:w.cell? ⟨bt,1,none⟩=some (.int .i64 i))(hf:w.frozen? ⟨bt,1,none⟩=false)(hz:w.cell? ⟨b,off+i.toNat,none⟩=some (.int .i64 z)):
  Calls Tryz.prog 16 #[.pointer (some ⟨bt,0,none⟩),.int .i64 n] w fun e w'=>QSt n e∧∃k,w'=(w.setCell ⟨bt,1,none⟩ (.int .i64 (i+1))).drewN k:=by
 have hn2:decide (n≤1)=false:=by simp;omega
 have hl2:decide ((l:Int)≤i)=false:=by simp;omega
 have hb:=Zh (Qyn z n ZO hn');go_enter Tryz.func16,Tryz.ntmps16;go_wp2;go_quiet (fail);go_wp2;have e1:IntKind.i64.wrap (i+1-1)=i:=IntWalk.i64_in _ ZO |>.trans ZO
 go_quiet ((go_at_call 61;exact Calls.quiet_of_same (QEt _ _ _ ZO ZO)));go_wp2;go_ret;exact⟨⟨_,hb.o.1,hb.o.2,rfl⟩,_,World.drewN_drewN (w.setCell ⟨bt,1,none⟩ (.int .i64 (i+1))) _ _⟩
def Qft (B bt:Nat)(n:Int)(w:World)(e:Ending)(w':World):Prop:=
 ∃r:Int,0≤r∧(r<n∨r=0)∧e=.returned (.int .i64 r)∧QZ B w' bt∧But bt w w'
theorem QMc {B bt:Nat}{w:World}(ht:QZ B w bt)(n:Int)(hn':n≤9223372036854775807):
  Calls Tryz.prog 16 #[.pointer (some ⟨bt,0,none⟩),.int .i64 n] w (Qft B bt n w):=by
 obtain⟨a,l,c,i,h1,h2,h3,h4,h5⟩:=ht.get;have c0:w.cell? ⟨bt,0,none⟩=some (.slice a l c):=by simp[World.cell?,h1]
 have c1:w.cell? ⟨bt,1,none⟩=some (.int .i64 i):=by simp[World.cell?,h1]
 have cf:w.frozen? ⟨bt,1,none⟩=false:=by simp[World.frozen?,h1]
 by_cases hn:n≤1
 ·refine(Qio a l c bt i n w hn c0 c1).mono ?_;rintro e w' ⟨rfl,k,rfl⟩;exact⟨0,by omega,by omega,rfl,ht.drewN _,(But.refl _ _).drewN _⟩
 by_cases hl:(l:Int)≤i
 ·refine(Qjs a l c bt i n w ZO hl c0 c1).mono ?_;rintro e w' ⟨rfl,k,rfl⟩;exact⟨0,by omega,by omega,rfl,ht.drewN _,(But.refl _ _).drewN _⟩
 obtain⟨b,off,z,rfl,hb,hz⟩:=h5 i.toNat ZO;have hge:=ht.ge;unfold maxLen at h3 h4;refine(QMq b off l c bt i n z w ZO hn' h2 ZO ZO ZO c0 c1 cf hz).mono ?_;rintro e w' ⟨⟨r,r1,r2,rfl⟩,k,rfl⟩;refine⟨r,r1,.inl r2,rfl,?_,((But.refl bt w).setCell ⟨bt,1,none⟩ (.inl rfl) _).drewN _⟩;refine⟨ht.base,ht.ge,by simpa using ht.lt,some ⟨b,off,none⟩,l,c,i+1,?_,by omega,by unfold maxLen;omega,by unfold maxLen;omega,fun j hj=>?_⟩
 ·simp[World.setCell,Array.getElem?_modify,h1]
 ·obtain⟨b',off',z',e1,e2,e3⟩:=h5 j hj;refine⟨b',off',z',e1,e2,?_⟩;exact(World.cell?_of_block (w:=w) (Below.heap_setCell _ _ _ _ (by show b'≠bt;omega))).trans e3
theorem QDt {B:Nat}{w:World}(hB:B=w.heap.size)(a:Option Addr)(n c:Nat)(hn:n≤maxLen)(h:∀j:Nat,j<n→∃b off z,a=some ⟨b,off,none⟩∧b<B∧w.cell? ⟨b,off+j,none⟩=some (.int .i64 z))(hbs:Base.b≤B:=by omega):
  Calls Tryz.prog 8 #[.slice a n c] w fun e w'=>e=.returned (.pointer (some ⟨B,0,none⟩))∧QZ B w' B∧Below B w w':=by
 have h':=Zh h;clear h;go_enter Tryz.func8,Tryz.ntmps8;go_wp2;go_ret;subst hB;refine⟨rfl,⟨hbs,Nat.le_refl _,by simp,a,n,c,0,heap_alloc_new w _,by omega,hn,by unfold maxLen;omega,fun j hj=>?_⟩,Zb⟩;obtain⟨b,off,z,e1,e2,e3⟩:=h'.o j hj;exact⟨b,off,z,e1,e2,(World.cell?_of_block (w:=w) (Below.heap_alloc _ _ _ e2)).trans e3⟩
end
section
open Go.RowKit
variable [Base]
abbrev sv (s:Str):Value:=.string ⟨s.toArray⟩
def Qea (w:World)(v:Value)(l:List Str):Prop:=Qg w 9 1 v (l.map sv)
def QZa (w:World)(cs:List Value)(s:QD):Prop:=
 ∃u t,cs=[.int .i64 s.op,sv s.dfn,u,t]∧Qea w u s.uses∧Qea w t s.targets
def Qgt (B bt:Nat)(w:World)(e:Ending)(w':World):Prop:=
 ∃s,s∈QGl∧e=.returned (sv s)∧QZ B w' bt∧But bt w w'
theorem name_any {B bt:Nat}{w:World}(ht:QZ B w bt):
  Calls Tryz.prog 41 #[.pointer (some ⟨bt,0,none⟩)] w (Qgt B bt w):=by
 have hlt:=ht.lt;have Ht:=Zh ht;clear ht;go_enter Tryz.func41,Tryz.ntmps41;go_wp2_with fail;refine(QMc (Ht.o.alloc _) _ ZO).mono ?_;rintro e w' ⟨r,r1,r2,rfl,ht',hbut⟩;have hc:∀o,w'.cell? ⟨w.heap.size,o,none⟩=_:=fun o=>hbut.cell w.heap.size o ZS ZO
 have hr:r=0∨r=1∨r=2∨r=3:=by omega
 have ht':=Zh ht';have hb':=Zh (((But.refl bt w).alloc _).trans hbut);clear Ht hbut;rcases hr with rfl|rfl|rfl|rfl
 all_goals
  go_wp2;go_ret;exact⟨_,by simp[QGl],rfl,ht'.o,hb'.o⟩
end
section
open Go.RowKit
variable [Base]
theorem But.blk {bt b:Nat}{w w':World}{o:Obj}(h:But bt w w')(hb:w.heap[b]? = some o)(hne:b≠bt):w'.heap[b]? = some o:=(h.block b (Qb hb) hne).trans hb
theorem Below.blk {b:Nat}{w w':World}{o:Obj}(h:Below w.heap.size w w')(hb:w.heap[b]? = some o):w'.heap[b]? = some o:=(h.block b (Qb hb)).trans hb
theorem Qfa {b:Nat}{w:World}{o:Obj}(x:Obj)(hb:w.heap[b]? = some o):(w.alloc x).heap[b]? = some o:=(Below.heap_alloc w x b (Qb hb)).trans hb
theorem Qd {w:World}{b:Nat}{c:Array Value}{t:TypeId}(h:w.heap[b]? = some (.cells c t (0,0))):(∀o,w.cell? ⟨b,o,none⟩=c[o]?)∧∀o,w.frozen? ⟨b,o,none⟩=false:=
 ⟨fun o=>by simp[World.cell?,h],fun o=>by simp[World.frozen?,h]⟩
theorem set4 {w:World}{b:Nat}{a0 a1 a2 a3:Value}{t:TypeId}{fr:Nat×Nat}(h:w.heap[b]? = some (.cells #[a0,a1,a2,a3] t fr))(x0 x1 x2 x3:Value):
  ((((w.setCell ⟨b,0,none⟩ x0).setCell ⟨b,1,none⟩ x1).setCell ⟨b,2,none⟩ x2).setCell ⟨b,3,none⟩ x3).heap[b]? = some (.cells #[x0,x1,x2,x3] t fr):=by
 simp[World.setCell,Array.getElem?_modify,h]
theorem Qf.but {T bt:Nat}{w w':World}(h:But bt w w')(ht:tyAt w bt≠some T)(hbs:Base.b≤bt:=by omega):Qf T w w':=fun b c fr U hU e=>
 (h.block b (Qb e) (fun hb=>by
  subst hb
  rcases hU with rfl|hU
  ·exact ht (Qv e)
  ·omega)).trans e
end
section
open Go.RowKit
variable [Base]
theorem QYu {P:Program}{ops:Array Oper}{o:Oper}{a:Act}{K:Act→World→Prop}{Q:Exit→Act→World→Prop}{E:Prop}{w:World}(news:List Value)(hgd:o.guard=none)(s x:Operand)(t:TypeId)(ho:o.op=.call { callee:=.builtin .append,args:=#[s,x],argTypes:=#[t,t] })(base:Nat)(e:TypeId)(z:Value)(size bytes:Nat)(ht:P.underlying t=some (.slice e))(hi:(P.info? e).map (fun i=>(i.zero,i.size,i.bytes))=some (some z,size,bytes))(hzs:z.cells.size=size)(hsz:0<size)(v:Value)(n:Nat)(xs:List Value)(hown:w.ownsRow base e size v n xs)(hs:a.eval s=v)(hx:a.eval x=.slice (some ⟨w.heap.size,0,none⟩) 1 1)(hl:news.length=size)(h1:news.all Value.oneCell'=true)(h63:n+1≤maxLen)(hbytes:(n+1)*bytes≤140737488355328)(hbase:base≤w.heap.size)(h:∀g cap w',w'.ownsRow base e size (.slice (some ⟨g,0,none⟩) (n+1) cap) (n+1) (xs++news)→w.grownBy w' v.ownBlock→base≤g→g<w'.heap.size →
   K (a.put o.dst (.slice (some ⟨g,0,none⟩) (n+1) cap)) w'):
  if Region.wanted o (yielded ops a.tmps)=true then Oper.wp P o a (w.alloc (.cells news.toArray e)) K Q else E:=by
 obtain⟨i,hi',hz,hs1,hs2⟩:=info_parts hi;refine step_append_lies _ hgd s x t ho base e i z size bytes ht hi' hz hs1 hs2 hzs hsz v n xs hs (hown.alloc _) ⟨w.heap.size,0,none⟩ 1 1 news hx ZO
  QPk (fun u hu=>List.all_eq_true.1 h1 u hu) ZO h63 hbytes (by simp;omega) _ rfl ?_
 intro g cap w' h2 h3 h4 h5;refine h g cap w' h2 ?_ ?_ h5
 ·have ha:=World.grownBy_alloc w (.cells news.toArray e) v.ownBlock;exact⟨h3.os.trans ha.os,h3.tape.trans ha.tape,h3.output.trans ha.output,Nat.le_trans ha.size h3.size,
   fun k hk hn=>(h3.block k (Nat.lt_of_lt_of_le hk ha.size) hn).trans (ha.block k hk hn)⟩
 ·rcases h4 with h4|h4
  ·exact(hown.lt g h4).1
  ·rw[h4];simp;omega
theorem Qcb {P:Program}{ops:Array Oper}{rest:List Oper}{o:Oper}{a:Act}{Q:Exit→Act→World→Prop}{w:World}(news:List Value)(hgd:o.guard=none)(s x:Operand)(t:TypeId)(ho:o.op=.call { callee:=.builtin .append,args:=#[s,x],argTypes:=#[t,t] })(base:Nat)(e:TypeId)(z:Value)(size bytes:Nat)(ht:P.underlying t=some (.slice e))(hi:(P.info? e).map (fun i=>(i.zero,i.size,i.bytes))=some (some z,size,bytes))(hzs:z.cells.size=size)(hsz:0<size)(v:Value)(n:Nat)(xs:List Value)(hown:w.ownsRow base e size v n xs)(hs:a.eval s=v)(H:Nat)(hx:a.eval x=.slice (some ⟨H,0,none⟩) 1 1)(hH:w.heap.size=H)(hl:news.length=size)(h1:news.all Value.oneCell'=true)(h63:n+1≤maxLen)(hbytes:(n+1)*bytes≤140737488355328)(hbase:base≤w.heap.size)(h:∀g cap w',w'.ownsRow base e size (.slice (some ⟨g,0,none⟩) (n+1) cap) (n+1) (xs++news)→w.grownBy w' v.ownBlock→base≤g→g<w'.heap.size →
   wpList P ops Q rest (a.put o.dst (.slice (some ⟨g,0,none⟩) (n+1) cap)) w'):
  wpList P ops Q (o::rest) a (w.alloc (.cells news.toArray e)):=
 QL news hgd s x t ho base e z size bytes ht hi hzs hsz v n xs hown hs (by rw[hH];exact hx) hl h1 h63 hbytes hbase h
end
section
def Qxd:Code→Option Code
|.loop c=>some c
|.seq a b=>match Qxd a with
 |some c=>some c
 |none=>Qxd b
|.block _ c=>Qxd c
|.scope c=>Qxd c
|.cond _ a b=>match Qxd a with
 |some c=>some c
 |none=>Qxd b
|_=>none
def Qqp (a:Act):Nat→Value:=fun i=>a.tmps.getD i undef
end
section
open Go.RowKit
variable [Base]
theorem QGm:(Tryz.prog.info? 94).map (fun i=>(i.zero,i.size,i.bytes))=some (some (.agg #[.int .i64 0,.string ⟨#[]⟩,.slice none 0 0,.slice none 0 0]),4,72):=by kernel_rfl
theorem QEk:(Tryz.prog.info? 92).map (fun i=>(i.zero,i.size,i.bytes))=some (some (.agg #[.string ⟨#[]⟩,.slice none 0 0]),2,40):=by kernel_rfl
theorem Qvs:(Tryz.prog.info? 89).map (fun i=>(i.zero,i.size,i.bytes))=some (some (.agg #[.string ⟨#[]⟩,.slice none 0 0]),2,40):=by kernel_rfl
def QDd (w:World)(v:Value)(l:List QD):Prop:=∃xss,Qg w 94 4 v xss.flatten∧All2 (QZa w) xss l
def QKa (w:World)(cs:List Value)(b:QI):Prop:=∃v,cs=[sv b.name,v]∧QDd w v b.stmts
def QOc (w:World)(v:Value)(l:List QI):Prop:=∃xss,Qg w 92 2 v xss.flatten∧All2 (QKa w) xss l
def Qab (w:World)(cs:List Value)(f:Qo):Prop:=∃v,cs=[sv f.name,v]∧QOc w v f.blocks
def QAa (w:World)(v:Value)(l:List Qo):Prop:=∃xss,Qg w 89 2 v xss.flatten∧All2 (Qab w) xss l
theorem QZa.keep {w w':World}(h9:Qf 9 w w'){cs:List Value}{s:QD}(h:QZa w cs s):QZa w' cs s:=by
 obtain⟨u,t,e,h1,h2⟩:=h;exact⟨u,t,e,h1.same h9,h2.same h9⟩
theorem QDd.keep {w w':World}(h9:Qf 9 w w')(h64:Qf 94 w w'){v:Value}{l:List QD}(h:QDd w v l):QDd w' v l:=by
 obtain⟨xss,h1,h2⟩:=h;exact⟨xss,h1.same h64,h2.mono fun _ _=>QZa.keep h9⟩
theorem QKa.keep {w w':World}(h9:Qf 9 w w')(h64:Qf 94 w w'){cs:List Value}{b:QI}(h:QKa w cs b):QKa w' cs b:=by
 obtain⟨v,e,h1⟩:=h;exact⟨v,e,h1.keep h9 h64⟩
theorem QOc.keep {w w':World}(h9:Qf 9 w w')(h64:Qf 94 w w')(h62:Qf 92 w w'){v:Value}{l:List QI}(h:QOc w v l):QOc w' v l:=by
 obtain⟨xss,h1,h2⟩:=h;exact⟨xss,h1.same h62,h2.mono fun _ _=>QKa.keep h9 h64⟩
theorem Qab.keep {w w':World}(h9:Qf 9 w w')(h64:Qf 94 w w')(h62:Qf 92 w w'){cs:List Value}{f:Qo}(h:Qab w cs f):Qab w' cs f:=by
 obtain⟨v,e,h1⟩:=h;exact⟨v,e,h1.keep h9 h64 h62⟩
theorem QAa.keep {w w':World}(h9:Qf 9 w w')(h64:Qf 94 w w')(h62:Qf 92 w w')(h59:Qf 89 w w'){v:Value}{l:List Qo}(h:QAa w v l):QAa w' v l:=by
 obtain⟨xss,h1,h2⟩:=h;exact⟨xss,h1.same h59,h2.mono fun _ _=>Qab.keep h9 h64 h62⟩
theorem But.belowB {bt B:Nat}{a w w':World}(h:But bt a w)(k:Below B w w')(hB:a.heap.size≤B):But bt a w':=
 ⟨k.os.trans h.os,k.tape.trans h.tape,k.output.trans h.output,Nat.le_trans h.size k.size,fun i hi hn=>(k.block i ZO).trans (h.block i hi hn)⟩
theorem But.undrew {bt n:Nat}{w w':World}(hb:But bt (w.drewN n) w'):But bt w w':=⟨hb.os,hb.tape,hb.output,hb.size,hb.block⟩
theorem Qvc {bt base sz n:Nat}{e:TypeId}{v:Value}{xs:List Value}{w w':World}(h:w.ownsRow base e sz v n xs)(hb:But bt w w')(hlt:bt<base):w'.ownsRow base e sz v n xs:=by
 refine⟨h.1,?_⟩;rcases h.2 with hn|⟨g,cap,cur,rfl,hg,hh,rest⟩
 ·exact .inl hn
 ·exact .inr ⟨g,cap,cur,rfl,hg,hb.blk hh ZO,rest⟩
end
section
open Go.RowKit
variable [Base]
theorem Qea.cell {w:World}{v:Value}{l:List Str}(h:Qea w v l):∃a c,v=.slice a l.length c∧l.length≤maxLen∧∀k s,l[k]? = some s→∃b off,a=some ⟨b,off,none⟩∧b<w.heap.size∧w.cell? ⟨b,off+k,none⟩=some (sv s):=by
 obtain⟨a,n,c,rfl,h1,h2,h3,h4,h5⟩:=Qg.form h;simp at h1;subst h1;refine⟨a,c,rfl,h2,fun k s hk=>?_⟩;obtain⟨hk2,rfl⟩:=List.getElem?_eq_some_iff.1 hk;obtain⟨b,off,rfl,hb,ht,hc⟩:=h5 ZO;refine⟨b,off,rfl,hb,?_⟩;rw[hc _ (by simpa using hk2)];simp[hk2]
theorem Qzd {α:Type}(l:List α)(k:Nat)(c:α)(h:l[k]? = some c)(p:α→Bool):(l.drop k).all p=(p c&&(l.drop (k+1)).all p):=by
 obtain⟨h1,rfl⟩:=List.getElem?_eq_some_iff.1 h;rw[List.drop_eq_getElem_cons h1,List.all_cons]
def QTj (b:Bool)(w:World)(e:Ending)(w':World):Prop:=e=.returned (.bool b)∧Below w.heap.size w w'
end
section
open Go.RowKit
variable [Base]
theorem All2.each {α β:Type}{R:α→β→Prop}{p:α→Prop}(hp:∀a b,R a b→p a):∀{xs:List α} {ys:List β},All2 R xs ys→∀x∈xs,p x
|[],[],_=>by simp
|a::xs,b::ys,⟨h1,h2⟩=>by
  intro x hx
  rcases List.mem_cons.1 hx with rfl|hx
  ·exact hp _ _ h1
  ·exact All2.each hp h2 x hx
theorem All2.sat {α β:Type}{R:α→β→Prop}{xs:List α}{ys:List β}(h:All2 R xs ys){k:Nat}{b:β}(hb:ys[k]? = some b):∃a,xs[k]? = some a∧R a b:=by
 obtain⟨h1,rfl⟩:=List.getElem?_eq_some_iff.1 hb;have h2:k<xs.length:=by rw[h.length];exact h1
 exact⟨xs[k],by simp[h2],h.get k h2 h1⟩
theorem QKh {w:World}{T:TypeId}{sz:Nat}{v:Value}{xss:List (List Value)}(h:Qg w T sz v xss.flatten)(hl:∀x∈xss,x.length=sz)(hs:0<sz):
  ∃a c,v=.slice a xss.length c∧xss.length≤maxLen∧∀k x,xss[k]? = some x→∃b off,a=some ⟨b,off,none⟩∧b<w.heap.size∧∀j,j<sz→w.cell? ⟨b,off+k*sz+j,none⟩=x[j]?:=by
 obtain⟨a,n,c,rfl,h1,h2,h3,h4,h5⟩:=Qg.form h;rw[Qed sz xss hl] at h1;have hn:n=xss.length:=(Nat.eq_of_mul_eq_mul_right hs h1).symm;subst hn;refine⟨a,c,rfl,h2,fun k x hk=>?_⟩;obtain⟨hk2,rfl⟩:=List.getElem?_eq_some_iff.1 hk;obtain⟨b,off,rfl,hb,ht,hc⟩:=h5 ZO;refine⟨b,off,rfl,hb,fun j hj=>?_⟩;have hlt:k*sz+j<xss.flatten.length:=by
  rw[Qed sz xss hl];have:(k+1)*sz≤xss.length*sz:=Nat.mul_le_mul_right sz hk2;rw[Nat.succ_mul] at this;omega
 rw[Nat.add_assoc,hc _ hlt,QNe sz xss hl k j hk2 hj]
theorem QAa.cell {w:World}{v:Value}{l:List Qo}(h:QAa w v l):∃a c,v=.slice a l.length c∧l.length≤maxLen∧∀k f,l[k]? = some f→∃b off bv,a=some ⟨b,off,none⟩∧b<w.heap.size ∧
  w.cell? ⟨b,off+k*2,none⟩=some (sv f.name)∧w.cell? ⟨b,off+k*2+1,none⟩=some bv∧QOc w bv f.blocks:=by
 obtain⟨xss,h1,h2⟩:=h;obtain⟨a,c,e,hm,hc⟩:=QKh h1 (h2.each fun x f ⟨v,e,_⟩=>by rw[e];rfl) ZO;rw[h2.length] at e hm;refine⟨a,c,e,hm,fun k f hk=>?_⟩;obtain⟨x,hx,bv,rfl,hb⟩:=h2.sat hk;obtain⟨b,off,rfl,hlt,hc2⟩:=hc k _ hx;exact⟨b,off,bv,rfl,hlt,hc2 0 ZO,hc2 1 ZO,hb⟩
theorem QOc.cell {w:World}{v:Value}{l:List QI}(h:QOc w v l):∃a c,v=.slice a l.length c∧l.length≤maxLen∧∀k f,l[k]? = some f→∃b off bv,a=some ⟨b,off,none⟩∧b<w.heap.size ∧
  w.cell? ⟨b,off+k*2,none⟩=some (sv f.name)∧w.cell? ⟨b,off+k*2+1,none⟩=some bv∧QDd w bv f.stmts:=by
 obtain⟨xss,h1,h2⟩:=h;obtain⟨a,c,e,hm,hc⟩:=QKh h1 (h2.each fun x f ⟨v,e,_⟩=>by rw[e];rfl) ZO;rw[h2.length] at e hm;refine⟨a,c,e,hm,fun k f hk=>?_⟩;obtain⟨x,hx,bv,rfl,hb⟩:=h2.sat hk;obtain⟨b,off,rfl,hlt,hc2⟩:=hc k _ hx;exact⟨b,off,bv,rfl,hlt,hc2 0 ZO,hc2 1 ZO,hb⟩
theorem QDd.cell {w:World}{v:Value}{l:List QD}(h:QDd w v l):∃a c,v=.slice a l.length c∧l.length≤maxLen∧∀k s,l[k]? = some s→∃b off u t,a=some ⟨b,off,none⟩∧b<w.heap.size ∧
  w.cell? ⟨b,off+k*4,none⟩=some (.int .i64 s.op)∧w.cell? ⟨b,off+k*4+1,none⟩=some (sv s.dfn)∧w.cell? ⟨b,off+k*4+2,none⟩=some u∧w.cell? ⟨b,off+k*4+3,none⟩=some t∧Qea w u s.uses∧Qea w t s.targets:=by
 obtain⟨xss,h1,h2⟩:=h;obtain⟨a,c,e,hm,hc⟩:=QKh h1 (h2.each fun x f ⟨u,t,e,_⟩=>by rw[e];rfl) ZO;rw[h2.length] at e hm;refine⟨a,c,e,hm,fun k f hk=>?_⟩;obtain⟨x,hx,u,t,rfl,hu,ht⟩:=h2.sat hk;obtain⟨b,off,rfl,hlt,hc2⟩:=hc k _ hx;exact⟨b,off,u,t,rfl,hlt,hc2 0 ZO,hc2 1 ZO,hc2 2 ZO,hc2 3 ZO,hu,ht⟩
end
section
abbrev iv (z:Int):Value:=.int .i64 z
end
section
open Go.RowKit
variable [Base]
theorem Qz {b:Nat}{w:World}{o:Obj}(x:Obj)(hb:w.heap[b]? = some o):(w.alloc x).heap[b]? = some o:=(Below.heap_alloc w x b (Qb hb)).trans hb
theorem Qda {w:World}(a b:Obj):((w.alloc a).alloc b).heap[w.heap.size+1]? = some b:=by
 have h2:=heap_alloc_new (w.alloc a) b;rw[World.size_alloc] at h2;exact h2
theorem Qa {w:World}{b:Nat}{c:Array Value}{t:TypeId}(h:w.heap[b]? = some (.cells c t (0,0))):(∀o,w.cell? ⟨b,o,none⟩=c[o]?)∧∀o,w.frozen? ⟨b,o,none⟩=false:=
 ⟨fun o=>by simp[World.cell?,h],fun o=>by simp[World.frozen?,h]⟩
theorem Qc {B b:Nat}{w w':World}{o:Obj}(h:w.heap[b]? = some o)(hb:Below B w w')(hlt:b<B):w'.heap[b]? = some o:=(hb.block b hlt).trans h
theorem All2.eachR {α β:Type}{R:α→β→Prop}{p:α→Prop}(hp:∀a b,R a b→p a):∀{xs:List α} {ys:List β},All2 R xs ys→∀x∈xs,p x
|[],[],_=>by simp
|a::xs,b::ys,⟨h1,h2⟩=>by
  intro x hx
  rcases List.mem_cons.1 hx with rfl|hx
  ·exact hp _ _ h1
  ·exact All2.eachR hp h2 x hx
theorem All2.satR {α β:Type}{R:α→β→Prop}{xs:List α}{ys:List β}(h:All2 R xs ys){k:Nat}{b:β}(hb:ys[k]? = some b):∃a,xs[k]? = some a∧R a b:=by
 obtain⟨h1,rfl⟩:=List.getElem?_eq_some_iff.1 hb;have h2:k<xs.length:=by rw[h.length];exact h1
 exact⟨xs[k],by simp[h2],h.get k h2 h1⟩
theorem QYg {w:World}{T:TypeId}{sz:Nat}{v:Value}{xss:List (List Value)}(h:Qg w T sz v xss.flatten)(hl:∀x∈xss,x.length=sz)(hs:0<sz):
  ∃a c,v=.slice a xss.length c∧xss.length≤maxLen∧xss.length≤c∧c≤maxLen∧∀k x,xss[k]? = some x→∃b off,a=some ⟨b,off,none⟩∧b<w.heap.size∧True∧∀j,j<sz→w.cell? ⟨b,off+k*sz+j,none⟩=x[j]?:=by
 obtain⟨a,n,c,rfl,h1,h2,h3,h4,h5⟩:=Qg.form h;rw[Qed sz xss hl] at h1;have hn:n=xss.length:=(Nat.eq_of_mul_eq_mul_right hs h1).symm;subst hn;refine⟨a,c,rfl,h2,h3,h4,fun k x hk=>?_⟩;obtain⟨hk2,rfl⟩:=List.getElem?_eq_some_iff.1 hk;obtain⟨b,off,rfl,hb,ht,hc⟩:=h5 ZO;refine⟨b,off,rfl,hb,ht,fun j hj=>?_⟩;have hlt:k*sz+j<xss.flatten.length:=by
  rw[Qed sz xss hl];have:(k+1)*sz≤xss.length*sz:=Nat.mul_le_mul_right sz hk2;rw[Nat.succ_mul] at this;omega
 rw[Nat.add_assoc,hc _ hlt,QNe sz xss hl k j hk2 hj]
def Qia (b:Bool)(w:World)(e:Ending)(w':World):Prop:=e=.returned (.bool b)∧Below w.heap.size w w'
def IntQ (n:Int)(w:World)(e:Ending)(w':World):Prop:=e=.returned (.int .i64 n)∧Below w.heap.size w w'
theorem Qyb {a b:Bool}(h:a=b):Ending.returned (.bool a)=.returned (.bool b):=by rw[h]
theorem Qob {a b:Int}(h:a=b):Ending.returned (.int .i64 a)=.returned (.int .i64 b):=by rw[h]
theorem Qp {B:Nat}{w w':World}(h:Below B w w')(n:Nat):Below B w (w'.drewN n):=⟨h.os,h.tape,h.output,h.size,h.block⟩
end
section
open Go.RowKit
structure Enc (α:Type) where
 R:Value→Option (DataW Unit×List MemPlace)
 val:α→Value
 en:α→DataW Unit
 z0:α
 read:∀a,R (val a)=some (en a,[])
 inv:∀v y,R v=some y→∃a,v=val a∧y=(en a,[])
 inj:∀a b,en a=en b→a=b
structure KeyE (P:Program)(K:TypeId)(κ:Type) where
 enc:κ→Value
 ok:κ→Prop
 keyed:Maps.Keyed P K
 of:∀k,ok k→∃l,keyOf P K (enc k)=some l
 inj:∀a b,enc a=enc b→a=b
section
variable {α κ:Type} [DecidableEq κ] {P:Program} {K:TypeId}
def MapG (Ky:KeyE P K κ)(E:Enc α)(w:World)(b n:Nat)(f:κ→α)(there:κ→Bool):Prop:=
 ∃D,w.ownsMap P K E.R b n D∧∀k,Ky.ok k→∀l,keyOf P K (Ky.enc k)=some l→D.atKey l (E.en E.z0)=E.en (f k)∧Maps.has D l=there k
variable {Ky:KeyE P K κ}
theorem MapG.lt {E:Enc α}{w:World}{b n:Nat}{f:κ→α}{th:κ→Bool}(h:MapG Ky E w b n f th):b<w.heap.size:=by
 obtain⟨D,h1,_⟩:=h;exact h1.lt
theorem MapG.isMap {E:Enc α}{w:World}{b n:Nat}{f:κ→α}{th:κ→Bool}(h:MapG Ky E w b n f th):∃es c,w.heap[b]? = some (.map es c):=by
 obtain⟨D,⟨es,c,h1,_⟩,_⟩:=h;exact⟨es,c,h1⟩
theorem MapG.block {E:Enc α}{w w':World}{b n:Nat}{f:κ→α}{th:κ→Bool}(h:MapG Ky E w b n f th)(hb:w'.heap[b]? = w.heap[b]?):MapG Ky E w' b n f th:=by
 obtain⟨D,⟨es,clock,h1,h2⟩,h3⟩:=h;exact⟨D,⟨es,clock,hb.trans h1,h2⟩,h3⟩
theorem MapG.below {E:Enc α}{w w':World}{b n:Nat}{f:κ→α}{th:κ→Bool}(h:MapG Ky E w b n f th)(hb:Below w.heap.size w w'):MapG Ky E w' b n f th:=h.block (hb.block b h.lt)
theorem MapG.made (Ky:KeyE P K κ)(E:Enc α)(w:World):MapG Ky E (w.alloc (.map #[] 0)) w.heap.size 0 (fun _=>E.z0) (fun _=>false):=
 ⟨.map [],World.ownsMap_made w P K E.R,fun k _ l _=>⟨rfl,rfl⟩⟩
theorem MapG.congr {E:Enc α}{w:World}{b n:Nat}{f g:κ→α}{th th':κ→Bool}(h:MapG Ky E w b n f th)(hf:∀k,f k=g k)(ht:∀k,th k=th' k):MapG Ky E w b n g th':=by
 rw[←funext hf,←funext ht];exact h
theorem MapG.look {E:Enc α}{w:World}{b n:Nat}{f:κ→α}{th:κ→Bool}{t e:TypeId}(h:MapG Ky E w b n f th)(ht:P.underlying t=some (.map K e))(hz:(zeroValue e).run P w=.ok (E.val E.z0) w){k:κ}(wk:Ky.ok k):(Instr.lookup t (.map (some b)) (Ky.enc k) false).run P w=.ok (E.val (f k)) w:=by
 obtain⟨D,h1,h2⟩:=h;obtain⟨l,hl⟩:=Ky.of k wk;obtain⟨v,ps,hr,hv⟩:=h1.lookup Ky.keyed ht hz (E.read E.z0) hl;obtain⟨a,rfl,ha⟩:=E.inv _ _ hv;rw[(h2 k wk l hl).1,Prod.mk.injEq] at ha;rw[E.inj _ _ ha.1];exact hr
theorem MapG.store {E:Enc α}{w:World}{b n:Nat}{f:κ→α}{th:κ→Bool}{t e:TypeId}(h:MapG Ky E w b n f th)(ht:P.underlying t=some (.map K e))(hn:n<maxLen){k:κ}(wk:Ky.ok k)(x:α):∃w',(Instr.mapUpdate t (.map (some b)) (Ky.enc k) (E.val x)).run P w=.ok () w'∧MapG Ky E w' b (n+1) (fun q=>if q=k then x else f q) (fun q=>decide (q=k)||th q)∧w.grownBy w' (some b):=by
 obtain⟨D,h1,h2⟩:=h;obtain⟨l,hl⟩:=Ky.of k wk;obtain⟨w',hr,h4,h5⟩:=h1.update Ky.keyed ht hn hl (E.read x);have hkey:WideAt.IsKeyLit l:=Ky.keyed.key hl;refine⟨w',hr,⟨_,h4,fun q wq m hm=>?_⟩,h5⟩;by_cases e:q=k
 ·subst e;rw[hl] at hm;injection hm with hm
  subst hm;refine⟨?_,?_⟩
  ·show _=E.en (if q=q then x else f q);rw[if_pos rfl];exact Maps.atKey_put_same h1.isMap hkey _ _
  ·simp only[decide_true,Bool.true_or];exact Maps.has_put_same h1.isMap hkey _
 ·have hne:m≠l:=fun he=>e (Ky.inj _ _ (Ky.keyed.inj (he▸hm) hl))
  refine⟨?_,?_⟩
  ·show _=E.en (if q=k then x else f q);rw[if_neg e,←(h2 q wq m hm).1];exact Maps.atKey_put_other hne _ _
  ·show _=(decide (q=k)||th q);rw[←(h2 q wq m hm).2,decide_eq_false e,Bool.false_or];exact Maps.has_put_other hne _
end
def QSs (v:Value):Option (DataW Unit×List MemPlace):=match v with|.bool b=>some (.lit (.bool b),[])|_=>none
def intR (v:Value):Option (DataW Unit×List MemPlace):=match v with|.int .i64 b=>some (.lit (.int .i64 b),[])|_=>none
theorem Qsr (v:Value)(y:DataW Unit×List MemPlace)(h:QSs v=some y):∃a,v=.bool a∧y=(.lit (.bool a),[]):=by
 unfold QSs at h
 split at h
 ·cases h;exact⟨_,rfl,rfl⟩
 ·cases h
theorem Qrs (v:Value)(y:DataW Unit×List MemPlace)(h:intR v=some y):∃a,v=.int .i64 a∧y=(.lit (.int .i64 a),[]):=by
 unfold intR at h
 split at h
 ·cases h;exact⟨_,rfl,rfl⟩
 ·cases h
def Qbc:Enc Bool:=⟨QSs,.bool,fun b=>.lit (.bool b),false,fun _=>rfl,Qsr,fun a b h=>by cases h;rfl⟩
def Qwo:Enc Int:=⟨intR,.int .i64,fun b=>.lit (.int .i64 b),0,fun _=>rfl,Qrs,fun a b h=>by cases h;rfl⟩
def Qgu {P:Program}{K:TypeId}(hk:P.underlying K=some .string):KeyE P K (List UInt8) where
 enc:=fun s=>.string ⟨s.toArray⟩
 ok:=fun s=>s.length≤maxLen
 keyed:=Maps.string_keyed hk
 of:=fun s hs=>⟨_,WideMaps.keyOf_string_mk hk (s:=⟨s.toArray⟩) (by simpa [ByteArray.size] using hs)⟩
 inj:=fun a b h=>by injection h with h;injection h with h;simpa using congrArg Array.toList h
section
variable {α κ:Type} [DecidableEq κ] {P:Program} {w:World} {ops:Array Oper} {rest:List Oper} {o:Oper} {a:Act} {Q:Exit→Act→World→Prop} {K:TypeId} {Ky:KeyE P K κ}
theorem QHb (E:Enc α)(hg:o.guard=none)(m x v:Operand)(t:TypeId)(hop:o.op=Op.mapUpdate t m x v){e:TypeId}(ht:P.underlying t=some (.map K e)){b n:Nat}{f:κ→α}{th:κ→Bool}(hm:a.eval m=.map (some b))(h:MapG Ky E w b n f th)(hn:n<maxLen){k:κ}(hx:a.eval x=Ky.enc k)(wk:Ky.ok k)(y:α)(hv:a.eval v=E.val y)(hK:∀w',MapG Ky E w' b (n+1) (fun q=>if q=k then y else f q) (fun q=>decide (q=k)||th q)→w.grownBy w' (some b)→wpList P ops Q rest (a.put o.dst undef) w'):wpList P ops Q (o::rest) a w:=by
 refine wpList_plain hg fun K' hK'=>?_
 obtain⟨w',hr,h1,h2⟩:=h.store ht hn wk y;unfold Oper.wp;simp[execOp,hop,hm,hx,hv,hr,Result.andThen];exact hK' _ _ (hK w' h1 h2)
end
end
section
structure QSet where
 width:Int
 words:List Nat
deriving DecidableEq
def QLa (l:List Nat):Prop:=∀x∈l,x<18446744073709551616
def Qli (s:QSet):Bool:=decide (s.width % 64=0)||decide ((s.words.getLastD 0) / 2 ^ (s.width % 64).toNat=0)
def QEa (w:Int):Bool:=decide (0≤w)&&decide (w≤256)
def QId (s:QSet):Bool:=decide ((s.words.length:Int)=(s.width+63) / 64)
def setB (s:QSet):Bool:=QEa s.width&&(QId s&&Qli s)
def QE (l:List Nat)(b:Nat):Bool:=(l.getD (b / 64) 0).testBit (b % 64)
theorem QNg (n:Int)(h₀:0≤n)(h₁:n<2 ^ 64):IntKind.u64.wrap n=n:=by rw[IntKind.wrap_u64];omega
theorem QBl (a b:Nat)(ha:a<18446744073709551616)(hb:b<18446744073709551616):bits .and .u64 (a:Int) (b:Int)=((a &&& b:Nat):Int):=(bits_nat .u64 64 ZD QNg a b ha hb).1
theorem Qhl (a b:Nat)(ha:a<18446744073709551616)(hb:b<18446744073709551616):bits .or .u64 (a:Int) (b:Int)=((a ||| b:Nat):Int):=(bits_nat .u64 64 ZD QNg a b ha hb).2
theorem Qbj (a k:Nat)(ha:a<18446744073709551616):bits .and .u64 ((a:Int) / 2 ^ k) 1=if a.testBit k then 1 else 0:=by
 have h1:((a:Int) / 2 ^ k)=((a / 2 ^ k:Nat):Int):=by simp
 have h2:a / 2 ^ k<18446744073709551616:=Nat.lt_of_le_of_lt (Nat.div_le_self _ _) ha;have h3:=QBl (a / 2 ^ k) 1 h2 ZO;rw[h1];have h4:((1:Nat):Int)=1:=rfl;rw[h4] at h3;rw[h3,Nat.and_one_is_mod];have h5:a.testBit k=decide (a / 2 ^ k % 2=1):=by rw[Nat.testBit_eq_decide_div_mod_eq]
 rw[h5];by_cases h:a / 2 ^ k % 2=1
 ·rw[h];rfl
 ·rw[show a / 2 ^ k % 2=0 by omega];rfl
theorem QHr (r:Nat)(hr:r<64):IntKind.u64.wrap (18446744073709551615*2 ^ r)=((18446744073709551616-2 ^ r:Nat):Int):=by
 rw[IntKind.wrap_u64];have h1:2 ^ r<2 ^ 64:=Nat.pow_lt_pow_right ZD hr;have h2:0<2 ^ r:=Nat.two_pow_pos r;have h3:((2:Int) ^ r)=((2 ^ r:Nat):Int):=by simp
 rw[h3];generalize 2 ^ r=p at *;omega
theorem Qlk (r:Nat)(hr:r≤64)(k:Nat):(18446744073709551616-2 ^ r:Nat).testBit k=(decide (r≤k)&&decide (k<64)):=by
 have e:(18446744073709551616-2 ^ r:Nat)=(2 ^ (64-r)-1) <<< r:=by
  rw[Nat.shiftLeft_eq,Nat.sub_mul,←Nat.pow_add,show 64-r+r=64 from by omega];simp
 rw[e,Nat.testBit_shiftLeft,Nat.testBit_two_pow_sub_one];by_cases h:r≤k
 ·simp[h];omega
 ·simp[h]
theorem Qxr (a r:Nat)(ha:a<18446744073709551616)(hr:r≤64):(a &&& (18446744073709551616-2 ^ r)=0)↔a / 2 ^ r=0:=by
 constructor
 ·intro h;rw[Nat.div_eq_zero_iff_lt (Nat.two_pow_pos r)];refine Nat.lt_pow_two_of_testBit a fun i hi=>?_
  have h2:=congrArg (fun x=>Nat.testBit x i) h;simp only[Nat.testBit_and,Qlk r hr,Nat.zero_testBit] at h2;by_cases h64:i<64
  ·simpa [hi,h64] using h2
  ·exact Nat.testBit_lt_two_pow (Nat.lt_of_lt_of_le ha (Nat.pow_le_pow_right (n:=2) ZD (show 64≤i by omega)))
 ·intro h;rw[Nat.div_eq_zero_iff_lt (Nat.two_pow_pos r)] at h;refine Nat.eq_of_testBit_eq fun i=>?_
  rw[Nat.testBit_and,Qlk r hr,Nat.zero_testBit];by_cases hi:r≤i
  ·rw[Nat.testBit_lt_two_pow (Nat.lt_of_lt_of_le h (Nat.pow_le_pow_right ZD hi))];rfl
  ·simp[hi]
theorem QFh {s:QSet}(hw:QLa s.words)(h0:0≤s.width)(hl:QId s=true):Qli s=true↔∀b:Nat,s.width≤b→b<64*s.words.length→QE s.words b=false:=by
 obtain⟨w,ws⟩:=s;obtain⟨n,rfl⟩:=Int.eq_ofNat_of_zero_le h0;simp only[QId,decide_eq_true_eq] at hl;have hl2:ws.length=(n+63) / 64:=by omega
 have hr:((n:Int) % 64).toNat=n % 64:=by omega
 simp only[Qli,Bool.or_eq_true,decide_eq_true_eq,hr];by_cases h64:n % 64=0
 ·constructor
  ·intro _ b h1 h2
   try simp only at h1 h2
   omega
  ·intro _;left;omega
 ·have hlast:ws.getLastD 0=ws.getD (n / 64) 0:=by
   rw[List.getLastD_eq_getLast?,List.getLast?_eq_getElem?,List.getD_eq_getElem?_getD]
   congr 2
   omega
  have hlt:ws.getD (n / 64) 0<18446744073709551616:=by
   rw[List.getD_eq_getElem?_getD,List.getElem?_eq_getElem ZO];exact hw _ (List.getElem_mem _)
  rw[hlast];constructor
  ·intro h b h1 h2
   try simp only at h1 h2
   have h3:ws.getD (n / 64) 0 / 2 ^ (n % 64)=0:=by
    rcases h with h|h
    ·omega
    ·exact h
   rw[Nat.div_eq_zero_iff_lt (Nat.two_pow_pos _)] at h3;have hb:b / 64=n / 64:=by omega
   unfold QE;rw[hb];exact Nat.testBit_lt_two_pow (Nat.lt_of_lt_of_le h3 (Nat.pow_le_pow_right ZD ZO))
  ·intro h;right;rw[Nat.div_eq_zero_iff_lt (Nat.two_pow_pos _)];refine Nat.lt_pow_two_of_testBit _ fun i hi=>?_
   by_cases hi64:i<64
   ·have h2:=h (n / 64*64+i) ZO ZO;unfold QE at h2;rw[show(n / 64*64+i) / 64=n / 64 by omega,show(n / 64*64+i) % 64=i by omega] at h2;exact h2
   ·exact Nat.testBit_lt_two_pow (Nat.lt_of_lt_of_le hlt (Nat.pow_le_pow_right (n:=2) ZD (show 64≤i by omega)))
end
section
open Go.RowKit
variable [Base]
abbrev uv (n:Nat):Value:=.int .u64 (n:Int)
def Qi (w:World)(v:Value)(l:List Nat):Prop:=Qg w 139 1 v (l.map uv)∧QLa l
theorem Qi.keep {w w':World}{v:Value}{l:List Nat}(h:Qi w v l)(hs:Qf 139 w w'):Qi w' v l:=⟨h.1.same hs,h.2⟩
theorem Qi.below {w w':World}{v:Value}{l:List Nat}(h:Qi w v l)(hb:Below w.heap.size w w'):Qi w' v l:=h.keep (Qf.below hb)
theorem Qi.nil {w:World}:Qi w (.slice none 0 0) []:=⟨Qg.nil,by intro x h;cases h⟩
theorem Qi.cell {w:World}{v:Value}{l:List Nat}(h:Qi w v l):∃a c,v=.slice a l.length c∧l.length≤maxLen∧l.length≤c∧c≤maxLen∧∀k x,l[k]? = some x→∃b off,a=some ⟨b,off,none⟩∧b<w.heap.size∧True∧w.cell? ⟨b,off+k,none⟩=some (uv x):=by
 obtain⟨a,n,c,rfl,h1,h2,h3,h4,h5⟩:=Qg.form h.1;simp at h1;subst h1;refine⟨a,c,rfl,h2,h3,h4,fun k x hk=>?_⟩;obtain⟨hk2,rfl⟩:=List.getElem?_eq_some_iff.1 hk;obtain⟨b,off,rfl,hb,ht,hc⟩:=h5 ZO;refine⟨b,off,rfl,hb,ht,?_⟩;rw[hc _ (by simpa using hk2)];simp[hk2]
theorem QS {w:World}{b o:Nat}{x:Value}(c:Nat):tyAt (w.setCell ⟨b,o,none⟩ x) c=tyAt w c:=by
 unfold tyAt World.setCell;simp only[Array.getElem?_modify];by_cases h:b=c
 ·subst h;simp only[if_true]
  cases w.heap[b]? with
 |none=>rfl
 |some o=>cases o <;> rfl
 ·simp only[if_neg h]
theorem Qqa {w:World}{b g o j:Nat}{u:Value}{x:Option Value}(h:b≠g)(hc:w.cell? ⟨b,o,none⟩=x):(w.setCell ⟨g,j,none⟩ u).cell? ⟨b,o,none⟩=x:=
 (World.cell?_of_block (Below.heap_setCell _ _ _ _ h)).trans hc
end
section
open Go.RowKit
variable [Base]
abbrev setV (s:QSet)(u:Value):Value:=.agg #[.int .i64 s.width,u]
theorem QYn (n:Int)(w:World):Calls Tryz.prog 116 #[.int .i64 n] w fun e w'=>e=.returned (.bool (QEa n))∧w'=w:=by
 by_cases h1:0≤n
 ·by_cases h2:n≤256
  all_goals
   go_enter Tryz.func116,Tryz.ntmps116;go_wp2;go_ret;exact⟨by simp[QEa, *],rfl⟩
 ·go_enter Tryz.func116,Tryz.ntmps116;go_wp2;go_ret;exact⟨by simp[QEa];omega,rfl⟩
theorem QLf (n:Int)(h0:0≤n)(h1:n≤256)(w:World):Calls Tryz.prog 117 #[.int .i64 n] w fun e w'=>e=.returned (.int .i64 ((n+63) / 64))∧w'=w:=by
 go_enter Tryz.func117,Tryz.ntmps117;go_wp2;go_ret;exact⟨Qob ZO,rfl⟩
theorem Qoq (n:Int)(h0:0≤n)(h1:n≤256)(w:World):Calls Tryz.prog 150 #[.int .i64 n] w fun e w'=>e=.returned (.int .u64 ((18446744073709551616-2 ^ (n % 64).toNat:Nat):Int))∧w'=w:=by
 have hs:=QHr (n % 64).toNat ZO;have hw:IntKind.u64.wrap n=n:=by rw[IntKind.wrap_u64];omega
 have hn:0≤n % 64:=by omega
 have hl:n % 64<64:=by omega
 have ht:n.tmod 64=n % 64:=Int.tmod_eq_emod_of_nonneg h0;have HS:=Zh hs;clear hs;go_enter Tryz.func150,Tryz.ntmps150;go_wp2;go_ret;refine⟨?_,rfl⟩;rw[←HS.o];rfl
end
section
open Go.RowKit
variable [Base]
def Qj (m:Nat):Nat:=(m+63) / 64
def Qy (m:Nat):QSet:=⟨m,List.replicate (Qj m) 0⟩
def putS (s:QSet)(b:Nat):QSet:=⟨s.width,s.words.set (b / 64) (s.words.getD (b / 64) 0 ||| 2 ^ (b % 64))⟩
def QUb (s:QSet):Prop:=QEa s.width=true∧QId s=true∧QLa s.words
theorem QZb {m:Nat}(h:m≤256):QUb (Qy m):=by
 refine⟨by unfold QEa Qy;simp;omega,?_,?_⟩
 ·unfold QId Qy Qj;simp only[List.length_replicate,decide_eq_true_eq];omega
 ·intro x hx;have:=(List.mem_replicate.1 hx).2;omega
theorem Qka {s:QSet}(h:QUb s):∃m:Nat,s.width=m∧m≤256∧s.words.length=Qj m:=by
 obtain⟨h1,h2,_⟩:=h;unfold QEa at h1;unfold QId at h2;simp only[Bool.and_eq_true,decide_eq_true_eq] at h1 h2;obtain⟨m,hm⟩:=Int.eq_ofNat_of_zero_le h1.1;refine⟨m,hm,by omega,?_⟩;unfold Qj;omega
theorem Qxm {a b:Nat}(ha:a<18446744073709551616)(hb:b<18446744073709551616):a ||| b<18446744073709551616:=
 Nat.or_lt_two_pow (n:=64) ha hb
theorem Qjd (b:Nat):2 ^ (b % 64)<18446744073709551616:=by
 have:2 ^ (b % 64)<2 ^ 64:=Nat.pow_lt_pow_right ZD ZO;omega
theorem Qnd {s:QSet}(h:QUb s)(b:Nat):QUb (putS s b):=by
 obtain⟨h1,h2,h3⟩:=h;refine⟨h1,by unfold QId putS at *;simpa using h2,?_⟩;intro x hx;rcases List.mem_or_eq_of_mem_set hx with hx|rfl
 ·exact h3 x hx
 ·refine Qxm ?_ (Qjd b);rw[List.getD_eq_getElem?_getD];rcases Nat.lt_or_ge (b / 64) s.words.length with hb|hb
  ·rw[List.getElem?_eq_getElem hb];exact h3 _ (List.getElem_mem _)
  ·rw[List.getElem?_eq_none hb];decide
def OwnS (B:Nat)(w:World)(u:Value)(s:QSet):Prop:=
 ∃g,u=.slice (some ⟨g,0,none⟩) s.words.length s.words.length∧B≤g∧w.heap[g]? = some (.cells (s.words.map uv).toArray 139 (0,0))∧QUb s
def Qht (s:QSet)(w:World)(e:Ending)(w':World):Prop:=∃u,e=.returned (setV s u)∧OwnS w.heap.size w' u s∧Below w.heap.size w w'
theorem OwnS.words {B:Nat}{w:World}{u:Value}{s:QSet}(h:OwnS B w u s):Qi w u s.words:=by
 obtain⟨g,rfl,_,hg,hf⟩:=h;refine⟨⟨s.words.length,s.words.length,by simp,Nat.le_refl _,?_,.inr ⟨g,0,_,_,rfl,.of hg,fun i hi=>by simp⟩⟩,hf.2.2⟩;obtain⟨m,_,h1,h2⟩:=Qka hf;rw[h2];unfold Qj maxLen;omega
theorem OwnS.mono {B C:Nat}{w:World}{u:Value}{s:QSet}(h:OwnS B w u s)(hb:C≤B):OwnS C w u s:=by
 obtain⟨g,rfl,h1,hg,hf⟩:=h;exact⟨g,rfl,Nat.le_trans hb h1,hg,hf⟩
def zc (k:Nat):Array Value:=(List.replicate k (uv 0)).toArray
theorem QZq:(Tryz.prog.info? 139).map (fun i=>(i.zero,i.size,i.bytes))=some (some (Value.int .u64 0),1,8):=by kernel_rfl
theorem QTd (k:Nat)(hk:k≤1000)(q:Int)(hq:q=k)(w:World):
  (Instr.makeSlice 50 (.int .i64 q) (.int .i64 q)).run Tryz.prog w=.ok (.slice (some ⟨w.heap.size,0,none⟩) k k) (w.alloc (.cells (zc k) 139)):=by
 subst hq;obtain⟨i,hi,hz,hs1,hs2⟩:=info_parts QZq;have h:=run_makeSlice (P:=Tryz.prog) w 50 139 i _ Tryz.underlying50 hi hz .i64 .i64 (k:Int) (k:Int) ZO (Int.le_refl _) (by rw[hs1];omega) (by rw[hs2];omega) ZO;rw[h,hs1];simp only[Int.toNat_natCast,Nat.mul_one]
 congr 3
 unfold zc madeCells;apply Array.ext
 ·simp[Value.cells]
 ·intro j h1 h2;simp[Value.cells,Nat.mod_one]
end
section
def pop:Nat→Nat→Nat
|0,_=>0
|n+1,x=>x % 2+pop n (x / 2)
def repB:Nat→Nat→Nat
|0,_=>0
|n+1,c=>c+256*repB n c
theorem QMh (n c:Nat):repB (n+1) c=c+256*repB n c:=rfl
theorem QXe (n x:Nat):pop (n+1) x=x % 2+pop n (x / 2):=rfl
theorem Qaj (x:Nat):x=x % 256+256*(x / 256):=by omega
theorem Qgf (a c0 c1:Nat)(h:c0<256):a &&& (c0+256*c1)=(a % 256 &&& c0)+256*(a / 256 &&& c1):=by
 have h1:=Qaj (a &&& (c0+256*c1));have h2:(a &&& (c0+256*c1)) % 256=(a % 256 &&& c0):=by
  have:=@Nat.and_mod_two_pow a (c0+256*c1) 8;rw[show 2 ^ 8=256 from rfl] at this;rw[this,show(c0+256*c1) % 256=c0 by omega]
 have h3:(a &&& (c0+256*c1)) / 256=(a / 256 &&& c1):=by
  have:=@Nat.and_div_two_pow a (c0+256*c1) 8;rw[show 2 ^ 8=256 from rfl] at this;rw[this,show(c0+256*c1) / 256=c1 by omega]
 rw[h2,h3] at h1;exact h1
def s1 (b:Nat):Nat:=(b / 2 &&& 85)+(b &&& 85)
def s2 (b:Nat):Nat:=(b / 4 &&& 51)+(b &&& 51)
def A1 (n x:Nat):Nat:=(x / 2 &&& repB n 85)+(x &&& repB n 85)
def A2 (n x:Nat):Nat:=(x / 4 &&& repB n 51)+(x &&& repB n 51)
def A3 (n x:Nat):Nat:=(x / 16+x) &&& repB n 15
theorem and85:∀b<128,∀e<2,(b+128*e) &&& 85=b &&& 85:=by decide
theorem and51:∀b<64,∀e<4,(b+64*e) &&& 51=b &&& 51:=by decide +kernel
theorem Qcq (n b y:Nat)(hb:b<256):A1 (n+1) (b+256*y)=s1 b+256*A1 n y:=by
 unfold A1 s1;rw[QMh];rw[Qgf _ _ _ ZD,Qgf _ _ _ ZD];have e1:(b+256*y) / 2 % 256=b / 2+128*(y % 2):=by omega
 have e2:(b+256*y) / 2 / 256=y / 2:=by omega
 have e3:(b+256*y) % 256=b:=by omega
 have e4:(b+256*y) / 256=y:=by omega
 rw[e1,e2,e3,e4,and85 _ ZO _ ZO,Nat.mul_add];omega
theorem Qbq (n b y:Nat)(hb:b<256):A2 (n+1) (b+256*y)=s2 b+256*A2 n y:=by
 unfold A2 s2;rw[QMh];rw[Qgf _ _ _ ZD,Qgf _ _ _ ZD];have e1:(b+256*y) / 4 % 256=b / 4+64*(y % 4):=by omega
 have e2:(b+256*y) / 4 / 256=y / 4:=by omega
 have e3:(b+256*y) % 256=b:=by omega
 have e4:(b+256*y) / 256=y:=by omega
 rw[e1,e2,e3,e4,and51 _ ZO _ ZO,Nat.mul_add];omega
theorem QTt (n b y:Nat)(h1:b % 16≤4)(h2:b / 16≤4)(h3:y % 16≤4):A3 (n+1) (b+256*y)=(b / 16+b % 16)+256*A3 n y:=by
 unfold A3;rw[QMh];rw[Qgf _ _ _ ZD];have e1:((b+256*y) / 16+(b+256*y)) % 256=b / 16+b+16*(y % 16):=by omega
 have e2:((b+256*y) / 16+(b+256*y)) / 256=y / 16+y:=by omega
 rw[e1,e2];have e3:(b / 16+b+16*(y % 16)) &&& 15=b / 16+b % 16:=by
  have:=Nat.and_two_pow_sub_one_eq_mod (b / 16+b+16*(y % 16)) 4;rw[show 2 ^ 4-1=15 from rfl,show 2 ^ 4=16 from rfl] at this;rw[this];omega
 rw[e3]
theorem QVp:∀b<256,s1 b<256∧s2 (s1 b)<256∧s2 (s1 b) % 16≤4∧s2 (s1 b) / 16≤4∧s2 (s1 b) / 16+s2 (s1 b) % 16=pop 8 b:=by decide +kernel
def sums:Nat→Nat→Nat
|0,_=>0
|n+1,x=>pop 8 (x % 256)+256*sums n (x / 256)
theorem QIu (n x:Nat)(hx:x<256 ^ n):A2 n (A1 n x) % 16≤4:=by
 cases n with
|zero=>
  obtain rfl:x=0:=by simpa using hx
  decide
|succ n=>
  have h:=QVp (x % 256) (Nat.mod_lt _ ZD);rw[Qaj x,Qcq n _ _ (Nat.mod_lt _ ZD),Qbq n _ _ h.1];have:=h.2.2.1;omega
theorem QZt:∀(n x:Nat),x<256 ^ n→A3 n (A2 n (A1 n x))=sums n x
|0,x,h=>by
  obtain rfl:x=0:=by simpa using h
  decide
|n+1,x,h=>by
  have hb:=QVp (x % 256) (Nat.mod_lt _ ZD)
  have hx:x / 256<256 ^ n:=by rw[Nat.div_lt_iff_lt_mul ZD];rw[Nat.pow_succ] at h;exact h
  have hm:=QIu n (x / 256) hx
  conv=>lhs;rw[Qaj x]
  rw[Qcq n _ _ (Nat.mod_lt _ ZD),Qbq n _ _ hb.1,QTt n _ _ hb.2.2.1 hb.2.2.2.1 hm,hb.2.2.2.2,QZt n _ hx]
  rfl
theorem Qqf:∀n x,pop n x≤n
|0,_=>Nat.le_refl _
|n+1,x=>by have:=Qqf n (x / 2);rw[QXe];omega
theorem Qyp:∀(n m x:Nat),pop (n+m) x=pop n x+pop m (x / 2 ^ n)
|0,m,x=>by simp[pop]
|n+1,m,x=>by
  rw[show n+1+m=(n+m)+1 by omega,QXe,QXe,Qyp n m (x / 2),Nat.div_div_eq_div_mul,show 2*2 ^ n=2 ^ (n+1) by rw[Nat.pow_succ];omega]
  omega
theorem Qwp:∀(n x:Nat),pop n (x % 2 ^ n)=pop n x
|0,x=>rfl
|n+1,x=>by
  rw[QXe,QXe]
  have h1:x % 2 ^ (n+1) % 2=x % 2:=by
   rw[Nat.pow_succ,Nat.mul_comm];exact Nat.mod_mul_right_mod x 2 (2 ^ n)
  have h2:x % 2 ^ (n+1) / 2=x / 2 % 2 ^ n:=by
   rw[Nat.pow_succ,Nat.mul_comm];exact Nat.mod_mul_right_div_self x 2 (2 ^ n)
  rw[h1,h2,Qwp n (x / 2)]
def QFk (x:Nat):Nat:=
 let a:=x+x / 256
 let b:=a+a / 65536
 let c:=b+b / 4294967296
 c % 128
theorem QNo (p0 p1 p2 p3 p4 p5 p6 p7:Nat)(l0:p0≤8)(l1:p1≤8)(l2:p2≤8)(l3:p3≤8)(l4:p4≤8)(l5:p5≤8)(l6:p6≤8)(l7:p7≤8):
  QFk (p0+256*(p1+256*(p2+256*(p3+256*(p4+256*(p5+256*(p6+256*p7)))))))=p0+p1+p2+p3+p4+p5+p6+p7:=by
 have dv:∀v R:Nat,v<256→(v+256*R) / 256=R:=fun v R h=>by omega
 have u0:p0<256:=by omega
 have u1:p0+p1<256:=by omega
 have u2:p1+p2<256:=by omega
 have u3:p0+p1+p2+p3<256:=by omega
 have u4:p1+p2+p3+p4<256:=by omega
 have u5:p2+p3+p4+p5<256:=by omega
 have u6:p3+p4+p5+p6<256:=by omega
 have u7:p0+p1+p2+p3+p4+p5+p6+p7<128:=by omega
 clear l0 l1 l2 l3 l4 l5 l6 l7;obtain⟨X,hX⟩:=Ze (p0+256*(p1+256*(p2+256*(p3+256*(p4+256*(p5+256*(p6+256*p7)))))));have x1:X / 256=p1+256*(p2+256*(p3+256*(p4+256*(p5+256*(p6+256*p7))))):=by rw[←hX];exact dv _ _ u0
 have ha:X+X / 256=(p0+p1)+256*((p1+p2)+256*((p2+p3)+256*((p3+p4)+256*((p4+p5)+256*((p5+p6)+256*((p6+p7)+256*p7)))))):=by rw[x1,←hX];clear hX x1 dv u0 u1 u2 u3 u4 u5 u6 u7;omega
 obtain⟨Y,hY⟩:=Ze (X+X / 256);rw[hY] at ha;have h2:Y / 65536=(p2+p3)+256*((p3+p4)+256*((p4+p5)+256*((p5+p6)+256*((p6+p7)+256*p7)))):=by
  have e:Y / 65536=Y / 256 / 256:=by simp only[Nat.div_div_eq_div_mul,Nat.reduceMul]
  have d1:=dv (p0+p1) ((p1+p2)+256*((p2+p3)+256*((p3+p4)+256*((p4+p5)+256*((p5+p6)+256*((p6+p7)+256*p7)))))) u1;have d2:=dv (p1+p2) ((p2+p3)+256*((p3+p4)+256*((p4+p5)+256*((p5+p6)+256*((p6+p7)+256*p7))))) u2;rw[e,ha,d1,d2]
 have hb:Y+Y / 65536=(p0+p1+p2+p3)+256*((p1+p2+p3+p4)+256*((p2+p3+p4+p5)+256*((p3+p4+p5+p6)+256*((p4+p5+p6+p7)+256*((p5+p6+p7)+256*((p6+p7)+256*p7)))))):=by rw[h2,ha];clear h2 ha hX hY x1 dv u0 u1 u2 u3 u4 u5 u6 u7;omega
 obtain⟨Z,hZ⟩:=Ze (Y+Y / 65536);rw[hZ] at hb;have h4:Z / 4294967296=(p4+p5+p6+p7)+256*((p5+p6+p7)+256*((p6+p7)+256*p7)):=by
  have e:Z / 4294967296=Z / 256 / 256 / 256 / 256:=by simp only[Nat.div_div_eq_div_mul,Nat.reduceMul]
  have d1:=dv (p0+p1+p2+p3) ((p1+p2+p3+p4)+256*((p2+p3+p4+p5)+256*((p3+p4+p5+p6)+256*((p4+p5+p6+p7)+256*((p5+p6+p7)+256*((p6+p7)+256*p7)))))) u3;have d2:=dv (p1+p2+p3+p4) ((p2+p3+p4+p5)+256*((p3+p4+p5+p6)+256*((p4+p5+p6+p7)+256*((p5+p6+p7)+256*((p6+p7)+256*p7))))) u4;have d3:=dv (p2+p3+p4+p5) ((p3+p4+p5+p6)+256*((p4+p5+p6+p7)+256*((p5+p6+p7)+256*((p6+p7)+256*p7)))) u5;have d4:=dv (p3+p4+p5+p6) ((p4+p5+p6+p7)+256*((p5+p6+p7)+256*((p6+p7)+256*p7))) u6;rw[e,hb,d1,d2,d3,d4]
 have hc:(Z+Z / 4294967296) % 128=p0+p1+p2+p3+p4+p5+p6+p7:=by
  rw[h4,hb];clear hX hY hZ ha hb h2 h4 x1 dv u0 u1 u2 u3 u4 u5 u6;omega
 unfold QFk;dsimp only;rw[hX,hY,hZ];exact hc
theorem pop64 (x:Nat):pop 64 x=pop 8 x+(pop 8 (x / 256)+(pop 8 (x / 256 / 256)+(pop 8 (x / 256 / 256 / 256)+(pop 8 (x / 256 / 256 / 256 / 256)+(pop 8 (x / 256 / 256 / 256 / 256 / 256)+(pop 8 (x / 256 / 256 / 256 / 256 / 256 / 256)+pop 8 (x / 256 / 256 / 256 / 256 / 256 / 256 / 256))))))):=by
 have h:∀m y,pop (8+m) y=pop 8 y+pop m (y / 256):=fun m y=>Qyp 8 m y
 rw[show 64=8+56 from rfl,h,show 56=8+48 from rfl,h,show 48=8+40 from rfl,h,show 40=8+32 from rfl,h,show 32=8+24 from rfl,h,show 24=8+16 from rfl,h,show 16=8+8 from rfl,h]
theorem QSr (x:Nat):pop 8 (x % 256)=pop 8 x:=Qwp 8 x
theorem QVc (n x:Nat):sums (n+1) x=pop 8 (x % 256)+256*sums n (x / 256):=rfl
theorem Qfr (x:Nat):QFk (sums 8 x)=pop 64 x:=by
 rw[QVc,QVc,QVc,QVc,QVc,QVc,QVc,QVc,show ∀y,sums 0 y=0 from fun _=>rfl,Nat.mul_zero,Nat.add_zero];simp only[QSr];rw[QNo _ _ _ _ _ _ _ _ (Qqf 8 _) (Qqf 8 _) (Qqf 8 _) (Qqf 8 _) (Qqf 8 _) (Qqf 8 _) (Qqf 8 _) (Qqf 8 _),pop64];omega
theorem Qyt (x:Nat)(hx:x<18446744073709551616):QFk (A3 8 (A2 8 (A1 8 x)))=pop 64 x:=by
 rw[QZt 8 x (by simpa using hx),Qfr]
end
section
variable [Base]
theorem QPt {l m:List Nat}(hl:l.length=m.length)(h1:QLa l)(h2:QLa m)(h:∀b,b<64*l.length→QE l b=QE m b):l=m:=by
 refine List.ext_getElem hl fun i hi hj=>?_
 refine Nat.eq_of_testBit_eq fun k=>?_
 by_cases hk:k<64
 ·have h3:=h (64*i+k) ZO;unfold QE at h3;rw[show(64*i+k) / 64=i by omega,show(64*i+k) % 64=k by omega] at h3
  simpa [List.getD_eq_getElem?_getD,hi,hj] using h3
 ·have e:∀x,x<18446744073709551616→x.testBit k=false:=fun x hx=>Nat.testBit_lt_two_pow (Nat.lt_of_lt_of_le hx (Nat.pow_le_pow_right (n:=2) ZD (show 64≤k by omega)))
  rw[e _ (h1 _ (List.getElem_mem _)),e _ (h2 _ (List.getElem_mem _))]
theorem QOt {l:List Nat}{b:Nat}(h:64*l.length≤b):QE l b=false:=by
 unfold QE;rw[List.getD_eq_getElem?_getD,List.getElem?_eq_none ZO];simp
theorem QVs (k b:Nat):QE (List.replicate k 0) b=false:=by
 unfold QE;rw[List.getD_eq_getElem?_getD,List.getElem?_replicate]
 split <;> simp
theorem QNt {l:List Nat}{k b:Nat}(hk:k / 64<l.length):QE (l.set (k / 64) (l.getD (k / 64) 0 ||| 2 ^ (k % 64))) b=(QE l b||decide (b=k)):=by
 unfold QE;rw[List.getD_eq_getElem?_getD,List.getD_eq_getElem?_getD,List.getElem?_set];by_cases h:k / 64=b / 64
 ·rw[if_pos h,if_pos ZO];simp only[Option.getD_some];rw[Nat.testBit_or,Nat.testBit_two_pow,←h,List.getD_eq_getElem?_getD]
  congr 1
  rw[Bool.eq_iff_iff];simp only[decide_eq_true_eq];omega
 ·rw[if_neg h];have:¬b=k:=by intro e;subst e;exact h rfl
  simp[this,List.getD_eq_getElem?_getD]
theorem QBa {s:QSet}(h:setB s=true)(hw:QLa s.words):QUb s:=by
 unfold setB at h;simp only[Bool.and_eq_true] at h;exact⟨h.1,h.2.1,hw⟩
theorem Qge {s:QSet}(h:setB s=true)(hw:QLa s.words){b:Nat}(hb:s.width≤b):QE s.words b=false:=by
 have h':=h;unfold setB at h;simp only[Bool.and_eq_true] at h;have h0:0≤s.width:=by
  have:=h.1;unfold QEa at this;simp only[Bool.and_eq_true,decide_eq_true_eq] at this;exact this.1
 rcases Nat.lt_or_ge b (64*s.words.length) with hl|hl
 ·exact(QFh hw h0 h.2.1).1 h.2.2 b hb hl
 ·exact QOt hl
theorem QQg {s:QSet}(h:QUb s)(ht:∀b:Nat,s.width≤b→QE s.words b=false):setB s=true:=by
 unfold setB;obtain⟨h1,h2,h3⟩:=h;have h0:0≤s.width:=by
  unfold QEa at h1;simp only[Bool.and_eq_true,decide_eq_true_eq] at h1;exact h1.1
 rw[h1,h2,(QFh h3 h0 h2).2 fun b hb _=>ht b hb];rfl
theorem Qrp {s t:QSet}(hw:s.width=t.width)(hs:QUb s)(ht:QUb t)(h:∀b:Nat,QE s.words b=QE t.words b):s=t:=by
 obtain⟨m,e1,_,e2⟩:=Qka hs;obtain⟨n,e3,_,e4⟩:=Qka ht;have hmn:m=n:=by omega
 cases s
 cases t
 simp only[QSet.mk.injEq] at *;exact⟨hw,QPt (by rw[e2,e4,hmn]) hs.2.2 ht.2.2 fun b _=>h b⟩
theorem Qah {s:QSet}(hf:QUb s){k:Nat}(hk:(k:Int)<s.width)(b:Nat):QE (putS s k).words b=(QE s.words b||decide (b=k)):=by
 obtain⟨m,e1,_,e2⟩:=Qka hf;exact QNt (by rw[e2];unfold Qj;omega)
theorem QNb (m b:Nat):QE (Qy m).words b=false:=QVs _ _
theorem QUm {m:Nat}(h:m≤256):setB (Qy m)=true:=QQg (QZb h) fun b _=>QNb m b
theorem QPr {s:QSet}(h:setB s=true)(hw:QLa s.words){k:Nat}(hk:(k:Int)<s.width):setB (putS s k)=true:=by
 refine QQg (Qnd (QBa h hw) k) fun b hb=>?_
 rw[Qah (QBa h hw) hk,Qge h hw hb];have:¬b=k:=by
  have hb':s.width≤(b:Int):=hb;omega
 simp[this]
def QMb (m i:Nat):QSet:=(List.range i).foldl putS (Qy m)
theorem QFf (m i:Nat):QMb m (i+1)=putS (QMb m i) i:=by unfold QMb;rw[List.range_succ,List.foldl_append];rfl
theorem QMe {m:Nat}(h:m≤256):∀i,QUb (QMb m i)∧(QMb m i).width=m
|0=>⟨QZb h,rfl⟩
|i+1=>by
  rw[QFf]
  exact⟨Qnd (QMe h i).1 i,(QMe h i).2⟩
theorem QFj {m:Nat}(h:m≤256):∀i,i≤m→∀b,QE (QMb m i).words b=decide (b<i)
|0,_,b=>by rw[show QMb m 0=Qy m from rfl,QNb];simp
|i+1,hi,b=>by
  have hf:=QMe h i
  rw[QFf,Qah hf.1 (by rw[hf.2];omega),QFj h i ZO b]
  rw[Bool.eq_iff_iff]
  simp
  omega
def ofGo (m:Nat):List Int→QSet→QSet×Int
|[],s=>(s,0)
|b::l,s=>if b<0∨(m:Int)≤b then (⟨0,[]⟩,3) else ofGo m l (putS s b.toNat)
def ofS (w:Int)(l:List Int):QSet×Int:=if 0≤w∧w≤256 then ofGo w.toNat l (Qy w.toNat) else (⟨0,[]⟩,3)
def zipS (f:Nat→Nat→Nat)(s t:QSet):QSet:=⟨s.width,List.zipWith f s.words t.words⟩
theorem QXk {f:Nat→Nat→Nat}{g:Bool→Bool→Bool}(hfg:∀a b k,(f a b).testBit k=g (a.testBit k) (b.testBit k)){l m:List Nat}(hl:l.length=m.length)(h0:g false false=false)(b:Nat):QE (List.zipWith f l m) b=g (QE l b) (QE m b):=by
 unfold QE;simp only[List.getD_eq_getElem?_getD,List.getElem?_zipWith];rcases Nat.lt_or_ge (b / 64) l.length with h|h
 ·rw[List.getElem?_eq_getElem h,List.getElem?_eq_getElem ZO];exact hfg _ _ _
 ·rw[List.getElem?_eq_none h,List.getElem?_eq_none ZO];simp[h0]
def clr (a b:Nat):Nat:=a ^^^ (a &&& b)
theorem QAl (a b k:Nat):(clr a b).testBit k=(a.testBit k&&!b.testBit k):=by
 unfold clr;rw[Nat.testBit_xor,Nat.testBit_and]
 cases a.testBit k <;> cases b.testBit k <;> rfl
theorem Qvl {a b:Nat}(ha:a<18446744073709551616):clr a b<18446744073709551616:=by
 unfold clr;exact Nat.xor_lt_two_pow (n:=64) ha (Nat.lt_of_le_of_lt Nat.and_le_left ha)
theorem Qee {f:Nat→Nat→Nat}(hf:∀a b,a<18446744073709551616→b<18446744073709551616→f a b<18446744073709551616){s t:QSet}(hs:QUb s)(ht:QUb t)(hw:s.width=t.width):QUb (zipS f s t)∧s.words.length=t.words.length:=by
 obtain⟨m,e1,_,e2⟩:=Qka hs;obtain⟨n,e3,_,e4⟩:=Qka ht;have hmn:m=n:=by omega
 have hl:s.words.length=t.words.length:=by rw[e2,e4,hmn]
 refine⟨⟨hs.1,?_,?_⟩,hl⟩
 ·have:=hs.2.1;unfold QId zipS at *;simp only[List.length_zipWith,←hl,Nat.min_self];exact this
 ·intro x hx;obtain⟨i,hi⟩:=List.mem_iff_getElem?.1 hx;rw[zipS,List.getElem?_zipWith] at hi
  cases h1:s.words[i]? with
 |none=>simp[h1] at hi
 |some a=>
   cases h2:t.words[i]? with
  |none=>simp[h1,h2] at hi
  |some b=>
    simp[h1,h2] at hi;rw[←hi];exact hf a b (hs.2.2 a (List.mem_of_getElem? h1)) (ht.2.2 b (List.mem_of_getElem? h2))
theorem Qzr {f:Nat→Nat→Nat}{g:Bool→Bool→Bool}(hfg:∀a b k,(f a b).testBit k=g (a.testBit k) (b.testBit k))(hlt:∀a b,a<18446744073709551616→b<18446744073709551616→f a b<18446744073709551616)(h0:g false false=false){s t:QSet}(hs:setB s=true)(ht:setB t=true)(ws:QLa s.words)(wt:QLa t.words)(hw:s.width=t.width):setB (zipS f s t)=true:=by
 have fs:=QBa hs ws;have ft:=QBa ht wt;have hz:=Qee hlt fs ft hw;refine QQg hz.1 fun b hb=>?_
 rw[show(zipS f s t).words=List.zipWith f s.words t.words from rfl,QXk hfg hz.2 h0,Qge hs ws (b:=b) hb,Qge ht wt (b:=b) (by rw[←hw];exact hb),h0]
end
end Go.Proofs.YtijekimobahgpaaGreatDoor
