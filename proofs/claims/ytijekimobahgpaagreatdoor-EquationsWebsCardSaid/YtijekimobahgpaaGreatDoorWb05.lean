/- A part of the proof. -/
import Derived.Test.YtijekimobahgpaaGreatDoorWb04
import Derived.Test.YtijekimobahgpaaGreatDoorProg
import Derived.Shelf.Sort.Plain
import Derived.Shelf.Slices.In.SortNone
set_option linter.unusedVariables false
set_option linter.unusedSimpArgs false
set_option linter.unusedSectionVars false
set_option maxRecDepth 100000
set_option maxHeartbeats 16000000
namespace Go.Proofs.YtijekimobahgpaaGreatDoor
section
open Go.RowKit
variable [Base]
def QJa (w:World)(v:Value)(l:List Int):Prop:=Qg w 3 1 v (l.map iv)
theorem QJa.nil {w:World}:QJa w (.slice none 0 0) []:=Qg.nil
theorem QJa.cell {w:World}{v:Value}{l:List Int}(h:QJa w v l):∃a c,v=.slice a l.length c∧l.length≤maxLen∧l.length≤c∧c≤maxLen∧∀k x,l[k]? = some x→∃b off,a=some ⟨b,off,none⟩∧b<w.heap.size∧w.cell? ⟨b,off+k,none⟩=some (iv x):=by
 obtain⟨a,n,c,rfl,h1,h2,h3,h4,h5⟩:=Qg.form h;simp at h1;subst h1;refine⟨a,c,rfl,h2,h3,h4,fun k x hk=>?_⟩;obtain⟨hk2,rfl⟩:=List.getElem?_eq_some_iff.1 hk;obtain⟨b,off,rfl,hb,_,hc⟩:=h5 ZO;refine⟨b,off,rfl,hb,?_⟩;rw[hc _ (by simpa using hk2)];simp[hk2]
theorem Qcs (m:Nat)(s:QSet):ofGo m [] s=(s,0):=rfl
theorem QOh (m:Nat)(b:Int)(l:List Int)(s:QSet):ofGo m (b::l) s=if b<0∨(m:Int)≤b then (⟨0,[]⟩,3) else ofGo m l (putS s b.toNat):=rfl
theorem Qru {n:Int}(h:QEa n=false)(l:List Int):ofS n l=(Qrd,3):=by
 unfold ofS Qrd;rw[if_neg];intro h2;unfold QEa at h;simp only[Bool.and_eq_false_iff,decide_eq_false_iff_not] at h;omega
theorem QAt {m:Nat}(h:m≤256)(l:List Int):ofS m l=ofGo m l (Qy m):=by
 unfold ofS;rw[if_pos ZO];simp
theorem QJc.stop {w wr:World}{r c g m:Nat}{s:QSet}(h:QJc w wr r c g m s)(x y:Value):Below w.heap.size w ((wr.setCell ⟨r,0,none⟩ x).setCell ⟨r,1,none⟩ y):=(h.fin x y).2
theorem QLt (m:Nat)(hm:m≤256)(l:List Int)(v0:Value)(w:World)(hl:QJa w v0 l):Calls Tryz.prog 115 #[.int .i64 m,v0] w (SetE (ofS m l) w):=by
 rw[QAt hm];have HM:=Zh hm;obtain⟨la,lc,rfl,hlm,-,-,hcell⟩:=hl.cell;obtain⟨n,hn⟩:=Ze l.length;rw[hn] at hlm ⊢;have HN:=Zh hn;have HC:=Zh hcell;unfold maxLen at hlm;clear hl hcell hn;go_enter Tryz.func115,Tryz.ntmps115;go_wp2_with fail;refine(Qxe m hm _).mono ?_;rintro e v ⟨u,rfl,⟨g,rfl,o1,o2,o3⟩,b1⟩;simp only[World.size_alloc] at o1 b1;have hz:w.heap.size<v.heap.size:=by have:=b1.size;simp only[World.size_alloc] at this;omega
 rw[show setV (Qy m) (.slice (some ⟨g,0,none⟩) (Qy m).words.length (Qy m).words.length)=.agg #[.int .i64 (m:Int),.slice (some ⟨g,0,none⟩) (Qj m) (Qj m)] from by rw[QHj];rfl];have hgv:=Qb o2;have I0:=Zh (show QJc w (v.alloc (.cells #[.int .i64 (m:Int),.slice (some ⟨g,0,none⟩) (Qj m) (Qj m)] 52)) w.heap.size v.heap.size g m (Qy m) from
  ⟨((Zb).trans (b1.mono ZO)).alloc ZO _,Qz _ ((b1.block w.heap.size ZO).trans (heap_alloc_new w _)),heap_alloc_new _ _,Qz _ o2,QZb hm,rfl,by omega,by omega,by omega,by omega,by omega,by omega⟩)
 obtain⟨V,hV⟩:=Ze (v.alloc (.cells #[.int .i64 (m:Int),.slice (some ⟨g,0,none⟩) (Qj m) (Qj m)] 52));rw[hV] at I0;have HV:=Zh hV;have hne:w.heap.size≠v.heap.size:=by omega
 clear hV o1 o2 o3 b1;go_wp2_with fail;rw[show v.alloc (.cells #[.int .i64 (m:Int),.slice (some ⟨g,0,none⟩) (Qj m) (Qj m)] 52)=V from HV.o];go_loopw [17] (fun y wr=>∃i:Nat,i≤n∧y=.int .i64 i∧Hid (∃s,QJc w wr w.heap.size v.heap.size g m s∧ofGo m (l.drop i) s=ofGo m l (Qy m))) (fun y _=>n-(intOf y).toNat)
 case atStart=>exact⟨0,Nat.zero_le _,rfl,⟨_,I0.o,rfl⟩⟩
 case round=>
  clear I0;obtain⟨i,hi,rfl,II⟩:=hrel;obtain⟨s,I,hR⟩:=II.o;have I:=Zh I;have HR:=Zh hR;clear II hR;have J0:=Zh (Qa I.o.cur);have x0:=J0.o.1 0;have x1:=J0.o.1 1;have J1:=Zh (Qa I.o.res);have y0:=J1.o.1 0;have y1:=J1.o.1 1;have f0:=J1.o.2 0;have f1:=J1.o.2 1;simp only[Zx,Zy,Zz] at x0 x1 y0 y1;by_cases hlt:i<n
  ·obtain⟨b,hb⟩:∃b,l[i]? = some b:=⟨_,List.getElem?_eq_getElem (show i<l.length by have:=HN.o;omega)⟩;obtain⟨lb,lo,rfl,hlb,hlc⟩:=HC.o i b hb;have g0:=(I.o.below.cell (p:=⟨lb,lo+i,none⟩) hlb).trans hlc;have HD:=Zh (show l.drop i=b::l.drop (i+1) by rw[List.drop_eq_getElem_cons (show i<l.length by have:=HN.o;omega)];congr 1;exact(List.getElem?_eq_some_iff.1 hb).2);clear hb hlc;by_cases hb0:b<0
   ·have d1:decide (b<0)=true:=by simpa using hb0
    have HE:=Zh (show ofGo m l (Qy m)=(Qrd,3) by rw[←HR.o,HD.o,QOh,if_pos (Or.inl hb0)];rfl);have HS:=Zh (I.o.stop (.int .i64 0) (.slice none 0 0));go_wp2;refine bodyPost_ret (v:=.tuple #[QPd,.int .i64 3]) (by simp[results,Tryz.results115,go_sem,y0,y1]) rfl ?_;rw[HE.o];exact QJd.set ⟨rfl,HS.o⟩
   ·have d1:decide (b<0)=false:=by simpa using hb0
    by_cases hbm:(m:Int)≤b
    ·have d2:decide ((m:Int)≤b)=true:=by simpa using hbm
     have HE:=Zh (show ofGo m l (Qy m)=(Qrd,3) by rw[←HR.o,HD.o,QOh,if_pos (Or.inr hbm)];rfl);have HS:=Zh (I.o.stop (.int .i64 0) (.slice none 0 0));go_wp2;refine bodyPost_ret (v:=.tuple #[QPd,.int .i64 3]) (by simp[results,Tryz.results115,go_sem,y0,y1]) rfl ?_;rw[HE.o];exact QJd.set ⟨rfl,HS.o⟩
    ·have d2:decide ((m:Int)≤b)=false:=by simpa using hbm
     obtain⟨q,rfl⟩:=Int.eq_ofNat_of_zero_le (show 0≤b by omega);go_wp2_with fail;refine(QWp I.o (show q<m by omega)).mono ?_;rintro e w2 ⟨rfl,p1,p2⟩;have I2:Hid (∃s,QJc w w2 w.heap.size v.heap.size g m s∧ofGo m (l.drop (i+1)) s=ofGo m l (Qy m)):=⟨putS s q,I.o.put p1 p2,by rw[←HR.o,HD.o,QOh,if_neg ZO];rfl⟩;clear p1 p2 x0 x1 y0 y1 f0 f1 g0;go_wp2;go_roundw
     case rel=>exact⟨i+1,by omega,by go_num,I2⟩
     case measure=>simp[intOf];omega
  ·have HE:=Zh (show ofGo m l (Qy m)=(s,0) by rw[←HR.o,List.drop_eq_nil_of_le (by have:=HN.o;omega),Qcs]);have HF:=Zh (I.o.fin (.int .i64 (m:Int)) (.slice (some ⟨g,0,none⟩) (Qj m) (Qj m)));go_wp2;refine bodyPost_ret (v:=.tuple #[setV s (.slice (some ⟨g,0,none⟩) (Qj m) (Qj m)),.int .i64 0]) (by rw[show setV s (.slice (some ⟨g,0,none⟩) (Qj m) (Qj m))=.agg #[.int .i64 (m:Int),.slice (some ⟨g,0,none⟩) (Qj m) (Qj m)] from by unfold setV;rw[I.o.width]];simp[results,Tryz.results115,go_sem,y0,y1]) rfl ?_;rw[HE.o];exact⟨_,rfl,HF.o.1,HF.o.2⟩
end
section
open Go.RowKit
variable [Base]
abbrev miv (l:List Nat):List Value:=l.map fun n:Nat=>iv (n:Int)
theorem QRa:(Tryz.prog.info? 3).map (fun i=>(i.zero,i.size,i.bytes))=some (some (Value.int .i64 0),1,8):=by kernel_rfl
theorem Qep (s:QSet)(u:Value)(w:World)(h:Qi w u s.words):Calls Tryz.prog 94 #[setV s u] w (IntQ ((memS s).length:Nat) w):=by
 obtain⟨a,c,rfl,hm,hc,hcm,hk⟩:=h.cell;obtain⟨n,hn⟩:=Ze s.words.length;obtain⟨W,hW⟩:=Ze (w.alloc (.cells #[.int .i64 s.width,.slice a n c] 52));have B0:Below w.heap.size w W:=by rw[←hW];exact Zb
 have HB0:W.heap[w.heap.size]? = some (.cells #[.int .i64 s.width,.slice a n c] 52 (0,0)):=by rw[←hW];exact heap_alloc_new _ _
 have x0:=(Qa HB0).1 0;have x1:=(Qa HB0).1 1;simp at x0 x1;rw[hn] at hm hc ⊢;have H0:=Zh HB0;have HW:=Zh hW;have BB:=Zh B0;have HN:=Zh hn;have HR:=Zh (show Qi W (.slice a n c) s.words by rw[←hn] at *;exact h.below B0);have HK:=Zh hk;have HOK:=Zh h.2;unfold maxLen at hm;clear hW HB0 B0 hk hn h;rcases Bool.eq_false_or_eq_true (setB s) with hv|hv
 rotate_left
 ·have HV:=Zh hv;rw[QGp hv];clear hv;go_enter Tryz.func94,Tryz.ntmps94;go_wp2_with fail;rw[show w.alloc (.cells #[.int .i64 s.width,.slice a n c] 52)=W from HW.o];refine(QT HV.o _ _ HR.o).mono ?_;rintro e w1 ⟨rfl,b1⟩;have B1:=Zh (BB.o.trans (b1.mono BB.o.size));have L1:=Zh (Qc H0.o b1 (Qb H0.o));clear x0 x1 b1;have x0:=(Qa L1.o).1 0;have x1:=(Qa L1.o).1 1;simp only[Zx,Zy,Zz] at x0 x1;go_wp2;go_ret;exact⟨rfl,B1.o⟩
 have HV:=Zh hv;have HE:=Zh (Qyk hv HOK.o);obtain⟨m,f1,f2,f3⟩:=Qka (QBa hv HOK.o);have hn4:n≤4:=by have:=HN.o;unfold Qj at f3;omega
 clear hv f1 f2 f3;go_enter Tryz.func94,Tryz.ntmps94;go_wp2_with fail;rw[show w.alloc (.cells #[.int .i64 s.width,.slice a n c] 52)=W from HW.o];refine(QT HV.o _ _ HR.o).mono ?_;rintro e w1 ⟨rfl,b1⟩;have B1:=Zh (BB.o.trans (b1.mono BB.o.size));have L1:=Zh (Qc H0.o b1 (Qb H0.o));clear x0 x1 b1;have x0:=(Qa L1.o).1 0;have x1:=(Qa L1.o).1 1;simp only[Zx,Zy,Zz] at x0 x1;go_wp2_with fail;go_loop [3,11] (fun z y=>∃i:Nat,i≤n∧y=.int .i64 i∧z=.int .i64 ((Qcd s.words i).length:Nat)) (fun _ y=>n-(intOf y).toNat)
 case atStart=>exact⟨0,Nat.zero_le _,rfl,rfl⟩
 case round=>
  obtain⟨i,hi,rfl,rfl⟩:=hrel;have ml:=QQf s.words i;by_cases hlt:i<n
  ·obtain⟨x,hx⟩:∃x,s.words[i]? = some x:=⟨_,List.getElem?_eq_getElem (show i<s.words.length by have:=HN.o;omega)⟩;obtain⟨xb,off,rfl,hxb,-,hcell⟩:=HK.o i x hx;have hxl:x<18446744073709551616:=HOK.o x (List.mem_of_getElem? hx);have gc:=(B1.o.cell (p:=⟨xb,off+i,none⟩) hxb).trans hcell;have HS:=Zh (show(Qcd s.words (i+1)).length=(Qcd s.words i).length+pop 64 x by rw[Qwj hx,List.length_append,List.length_map,QRk]);have hp:pop 64 x≤64:=by rw[←QRk];exact QUs x
   obtain⟨a0,ha0⟩:=Ze ((Qcd s.words i).length);obtain⟨p0,hp0⟩:=Ze (pop 64 x);have HP:=Zh hp0;have HA:=Zh ha0;rw[ha0] at ml ⊢;rw[hp0] at hp;clear hx hcell hp0 ha0;go_wp2_with (go_at_call 153;refine(QYr x hxl _).mono ?_;rw[HP.o];rintro e w' ⟨rfl,rfl⟩);go_round
   case rel=>exact⟨i+1,by omega,by go_num,by rw[HS.o,HA.o,HP.o];go_num⟩
   case measure=>simp[intOf];omega
  ·obtain rfl:i=n:=by omega
   have HF:=Zh (show((Qcd s.words i).length:Nat)=(memS s).length by rw[←HE.o,HN.o]);go_wp2;go_ret;exact⟨Qob (by rw[HF.o]),B1.o⟩
theorem Qpr (a:Option Addr)(n c:Nat)(h:n≤c)(hc:c≤9223372036854775807)(w:World):Calls Tryz.prog 183 #[.slice a n c] w fun e w'=>e=.returned (.slice a n n)∧w=w':=by
 have i1:(0:Int)≤(n:Int):=by omega
 have i2:(n:Int)≤(c:Int):=by omega
 have i3:(n:Int)≤(n:Int):=by omega
 go_enter Tryz.func183,Tryz.ntmps183;go_wp2;go_ret;exact⟨rfl,rfl⟩
theorem QJa.clip {w:World}{a:Option Addr}{n c:Nat}{l:List Int}(h:QJa w (.slice a n c) l):QJa w (.slice a n n) l:=by
 obtain⟨n',cap,h1,h2,h3,h4⟩:=h;rcases h4 with⟨⟨a',h4⟩,h0⟩|⟨b,off,c',fr,e4,e5,e6⟩
 ·injection h4 with _ h6 _
  subst h0 h6;exact⟨0,0,h1,Nat.le_refl _,Nat.zero_le _,.inl ⟨⟨a,rfl⟩,rfl⟩⟩
 ·injection e4 with e4 e7 e8
  subst e4 e7 e8;exact⟨n,n,h1,Nat.le_refl _,by omega,.inr ⟨b,off,c',fr,rfl,e5,e6⟩⟩
def QWk (l:List Int)(w:World)(e:Ending)(w':World):Prop:=∃v,e=.returned v∧QJa w' v l∧Below w.heap.size w w'
structure MIn (w0 wr:World)(v:Value)(l:List Nat):Prop where
 below:Below w0.heap.size w0 wr
 own:wr.ownsRow w0.heap.size 3 1 v l.length (miv l)
theorem MIn.push {w0 wr w2:World}{v v2:Value}{l:List Nat}{x:Nat}(h:MIn w0 wr v l)(ho:w2.ownsRow w0.heap.size 3 1 v2 (l.length+1) (miv l++[iv (x:Int)]))(hg:wr.grownBy w2 v.ownBlock):MIn w0 w2 v2 (l++[x]):=
 ⟨h.below.trans (Below.of_grown hg h.own h.below.size),by rw[List.length_append];simpa [miv] using ho⟩
theorem MIn.shape {w0 wr:World}{v:Value}{l:List Nat}(h:MIn w0 wr v l):∃a c,v=.slice a l.length c∧l.length≤c∧c≤maxLen:=QXa h.own
theorem MIn.ints {w0 wr:World}{v:Value}{l:List Nat}(h:MIn w0 wr v l):QJa wr v (l.map fun n:Nat=>(n:Int)):=by
 unfold QJa;rw[List.map_map];exact Qg.of_owns h.own
theorem Qxl {B:Nat}(s:QSet)(u:Value)(w:World)(h:Qi w u s.words)(hT:TabAt 1 Lib.deBruijn64tab w)(hg:1<w.heap.size):Calls Tryz.prog 141 #[setV s u] w (QWk ((memS s).map fun n:Nat=>(n:Int)) w):=by
 obtain⟨a,c,rfl,hm,hc,hcm,hk⟩:=h.cell;obtain⟨n,hn⟩:=Ze s.words.length;obtain⟨W,hW⟩:=Ze (w.alloc (.cells #[.int .i64 s.width,.slice a n c] 52));have B0:Below w.heap.size w W:=by rw[←hW];exact Zb
 have HB0:W.heap[w.heap.size]? = some (.cells #[.int .i64 s.width,.slice a n c] 52 (0,0)):=by rw[←hW];exact heap_alloc_new _ _
 have x0:=(Qa HB0).1 0;have x1:=(Qa HB0).1 1;simp at x0 x1;rw[hn] at hm hc ⊢;have H0:=Zh HB0;have HW:=Zh hW;have BB:=Zh B0;have HN:=Zh hn;have HR:=Zh (show Qi W (.slice a n c) s.words by rw[←hn] at *;exact h.below B0);have HK:=Zh hk;have HOK:=Zh h.2;unfold maxLen at hm;clear hW HB0 B0 hk hn h;have HT:=Zh (show ∀w9,Below w.heap.size w w9→TabAt 1 Lib.deBruijn64tab w9 from fun w9 hb j hj=>(hb.cell (p:=⟨1,j,none⟩) hg).trans (hT j hj));clear hT hg;rcases Bool.eq_false_or_eq_true (setB s) with hv|hv
 rotate_left
 ·have HV:=Zh hv;rw[QGp hv];clear hv;go_enter Tryz.func141,Tryz.ntmps141;go_wp2_with fail;rw[show w.alloc (.cells #[.int .i64 s.width,.slice a n c] 52)=W from HW.o];refine(QT HV.o _ _ HR.o).mono ?_;rintro e w1 ⟨rfl,b1⟩;have B1:=Zh (BB.o.trans (b1.mono BB.o.size));have L1:=Zh (Qc H0.o b1 (Qb H0.o));clear x0 x1 b1;have x0:=(Qa L1.o).1 0;have x1:=(Qa L1.o).1 1;simp only[Zx,Zy,Zz] at x0 x1;go_wp2;go_ret;exact⟨_,rfl,QJa.nil,B1.o⟩
 have HV:=Zh hv;have HE:=Zh (Qyk hv HOK.o);obtain⟨m,f1,f2,f3⟩:=Qka (QBa hv HOK.o);have hn4:n≤4:=by have:=HN.o;unfold Qj at f3;omega
 clear hv f1 f2 f3;go_enter Tryz.func141,Tryz.ntmps141;go_wp2_with fail;rw[show w.alloc (.cells #[.int .i64 s.width,.slice a n c] 52)=W from HW.o];refine(QT HV.o _ _ HR.o).mono ?_;rintro e w1 ⟨rfl,b1⟩;have B1:=Zh (BB.o.trans (b1.mono BB.o.size));have L1:=Zh (Qc H0.o b1 (Qb H0.o));clear x0 x1 b1;have x0:=(Qa L1.o).1 0;have x1:=(Qa L1.o).1 1;simp only[Zx,Zy,Zz] at x0 x1;go_wp2_with fail;have I0:=Zh (show MIn w w1 (.slice none 0 0) (Qcd s.words 0) from⟨B1.o,World.ownsRow_nil _ _ _ _⟩);go_loopw [3,12] (fun z y wr=>∃i:Nat,i≤n∧y=.int .i64 i∧Hid (MIn w wr z (Qcd s.words i))) (fun _ y _=>n-(intOf y).toNat)
 case atStart=>exact⟨0,Nat.zero_le _,rfl,I0⟩
 case round=>
  clear I0;obtain⟨i,hi,rfl,I⟩:=hrel;by_cases hlt:i<n
  ·obtain⟨x,hx⟩:∃x,s.words[i]? = some x:=⟨_,List.getElem?_eq_getElem (show i<s.words.length by have:=HN.o;omega)⟩;obtain⟨xb,off,rfl,hxb,-,hcell⟩:=HK.o i x hx;have hxl:x<18446744073709551616:=HOK.o x (List.mem_of_getElem? hx);have gc:=(I.o.below.cell (p:=⟨xb,off+i,none⟩) hxb).trans hcell;have HS:=Zh (Qwj hx);clear hx hcell;go_wp2_with fail;go_loopw [3,5] (fun z q wr=>∃(y:Nat) (acc:List Nat),q=uv y∧y<18446744073709551616∧acc.length≤64*(i+1)∧Hid (MIn w wr z acc∧acc++(Qjg y).map (64*i + ·)=Qcd s.words (i+1))) (fun _ q _=>(intOf q).toNat)
   case atStart=>exact⟨x,Qcd s.words i,rfl,hxl,by have:=QQf s.words i;omega,I.o,HS.o.symm⟩
   case round=>
    clear I gc;obtain⟨y,acc,rfl,hyl,hal,II⟩:=hrel;by_cases hy:y=0
    ·subst hy;have HI:Hid (MIn w wr u3 (Qcd s.words (i+1))):=Zh (by have h2:=II.o.2;rw[Qap,List.map_nil,List.append_nil] at h2;rw[←h2];exact II.o.1);go_wp2;go_roundw
     case rel=>exact⟨i+1,by omega,by go_num,HI⟩
     case measure=>simp[intOf];omega
    ·have hy1:((y:Int) != 0)=true:=by simpa using hy
     obtain⟨st1,st2⟩:=Qbp hy hyl;obtain⟨k,hk⟩:=Ze (Lib.ctz 64 y);rw[hk] at st1;have ST:=Zh st2;have HKK:=Zh hk;have hcl:=QNs hy;have hand:bits BinOp.and IntKind.u64 (y:Int) ((y:Int)-1)=((y &&& (y-1):Nat):Int):=by
      rw[show((y:Int)-1)=((y-1:Nat):Int) by omega];exact QBl y (y-1) hyl ZO
     obtain⟨q,hq⟩:=Ze (y &&& (y-1));rw[hq] at hand hcl;have HQ:=Zh hq;have OWN:=Zh II.o.1.own;have LE:=Zh II.o.1.below.size;have HTW:=Zh (HT.o _ II.o.1.below);clear st2 hk hq;go_wp2_with first|(go_at_call 182;refine(Qeu y hy hyl _ HTW.o).mono ?_;rw[HKK.o];rintro e w' ⟨rfl,rfl⟩)|(at_builtin;refine Qcb [iv ((i:Int)*64+(k:Int))] rfl _ _ 22 rfl w.heap.size 3 _ 1 8 Tryz.underlying22 QRa rfl ZD _ acc.length _ OWN.o rfl _ rfl rfl rfl rfl (by unfold maxLen;omega) ZO LE.o ?_;intro g cap w6 own2 gr2 q1 q2;have OW2:=Zh own2;have GR2:=Zh gr2;clear own2 gr2 q1 q2)
     have HCA:Hid ((acc++[64*i+k])++(Qjg q).map (64*i + ·)=Qcd s.words (i+1)):=Zh (by rw[←II.o.2,ST.o,HKK.o,HQ.o,List.map_cons,List.append_assoc];rfl);have HLA:(acc++[64*i+k]).length≤64*(i+1):=by
      have h1:=congrArg List.length HCA.o;rw[List.length_append] at h1;have:=QQf s.words (i+1);omega
     have HMI:=Zh (II.o.1.push (x:=64*i+k) (by rw[show iv ((64*i+k:Nat):Int)=iv ((i:Int)*64+(k:Int)) from by congr 1;omega];exact OW2.o) GR2.o);go_roundw
     case rel=>exact⟨q,_,rfl,by omega,HLA,HMI.o,HCA.o⟩
     case measure=>simp[intOf];omega
  ·obtain rfl:i=n:=by omega
   have HF:=Zh (show Qcd s.words i=memS s by rw[←HE.o,HN.o]);obtain⟨za,zc,rfl,zl,zm⟩:=I.o.shape;obtain⟨ln,hln⟩:=Ze ((Qcd s.words i).length);have HLN:=Zh hln;have hl4:=QQf s.words i;rw[hln] at zl hl4 I ⊢;clear hln;go_wp2_with (go_at_call 183;refine(Qpr za ln zc zl (by unfold maxLen at zm;omega) _).mono ?_;rintro e w' ⟨rfl,rfl⟩);go_ret;refine⟨_,rfl,?_,I.o.below⟩;have k:=I.o.ints;rw[HF.o] at k;exact k.clip
end
section
variable [Base]
open Go
section
variable {P:Program} {ops:Array Oper} {Q:Exit→Act→World→Prop} {md:Region.Mode} {S:World→Prop}
theorem Qhi {st:Nat}(i:Nat){oi:Oper}{fuel:Nat}{listed:Array Bool}{a:Act}{w:World}(hi:ops[i]? = some oi)(hr:Region.ready md ops listed=[i])(hwant:Region.wanted oi (yielded ops a.tmps)=true)(h:oi.wp P a w (fun a' w'=>(i≠st→S w')∧Qma P md ops Q S st fuel (listed.setIfInBounds i true) a' w') Q):Qma P md ops Q S st (fuel+1) listed a w:=by
 refine Qh hr ZS fun j hj=>?_
 obtain rfl:j=i:=by simpa using hj
 unfold wpOp;rw[hi];show if Region.wanted oi (yielded ops a.tmps) then _ else _
 rw[if_pos hwant];exact .inl h
theorem QRe {st:Nat}(i:Nat)(d:Option Tmp){oi:Oper}{fuel:Nat}{listed:Array Bool}{a:Act}{w:World}(hi:ops[i]? = some oi)(hr:Region.ready md ops listed=[i])(hwant:Region.wanted oi (yielded ops a.tmps)=true)(hd:oi.dst=d)(s x:Operand)(t:TypeId)(ho:oi.op=.call { callee:=.builtin .append,args:=#[s,x],argTypes:=#[t,t] })(base:Nat)(e:TypeId)(z:Value)(size bytes:Nat)(ht:P.underlying t=some (.slice e))(hin:(P.info? e).map (fun i=>(i.zero,i.size,i.bytes))=some (some z,size,bytes))(hzs:z.cells.size=size)(hsz:0<size)(v:Value)(n:Nat)(xs:List Value)(hown:w.ownsRow base e size v n xs)(hs:a.eval s=v)(u:Value)(m:Nat)(ys:List Value)(hx:a.eval x=u)(hsl:Qg w e size u ys)(hm:ys.length=m*size)(h1:ys.all Value.oneCell'=true)(h63:n+m≤maxLen)(hbytes:(n+m)*bytes≤140737488355328)(hbase:base≤w.heap.size)(h:∀g c w',w'.ownsRow base e size (.slice g (n+m) c) (n+m) (xs++ys)→w.grownBy w' v.ownBlock→(i≠st→S w')∧Qma P md ops Q S st fuel (listed.setIfInBounds i true) (a.put d (.slice g (n+m) c)) w'):
  Qma P md ops Q S st (fuel+1) listed a w:=by
 subst hd;exact Qhi i hi hr hwant (Qlf s x t ho base e z size bytes ht hin hzs hsz v n xs hown hs u m ys hx hsl hm h1 h63 hbytes hbase h)
end
end
section
open Go.RowKit
variable [Base]
abbrev IT:TypeId:=22
abbrev IN:TypeId:=3
abbrev BT:TypeId:=158
theorem QCo (l:List Int)(v:Value)(x:Int)(w:World)(h:QJa w v l):
  Calls Tryz.prog 194 #[v,iv x] w (fun e w'=>e=.returned (iv (idxI l x))∧w'=w):=by
 obtain⟨a,c,rfl,hn,-,-,hc⟩:=h.cell;have HC:=Zh hc;obtain⟨n,hl⟩:=Ze l.length;rw[hl] at hn ⊢;have HL:=Zh hl;clear hc h hl;unfold maxLen at hn;go_enter Tryz.func194,Tryz.ntmps194;go_wp2;go_loopw [8] (fun y wr=>∃k:Nat,k≤n∧y=.int .i64 k∧w=wr∧Hid (x∉l.take k)) (fun y _=>n-(intOf y).toNat)
 case atStart=>exact⟨0,Nat.zero_le _,rfl,rfl,by unfold Hid;simp⟩
 case round=>
  obtain⟨k,hk,rfl,rfl,HNI⟩:=hrel;by_cases hlt:k<n
  ·obtain⟨y,hy⟩:∃y,l[k]? = some y:=⟨_,List.getElem?_eq_getElem (by rw[HL.o];exact hlt)⟩;obtain⟨b1,o1,rfl,hb1,g1⟩:=HC.o k y hy;by_cases hxy:y=x
   ·subst hxy;have HK:=Zh (show idxI l y=(k:Int) from Qse hy HNI.o);clear hy;go_wp2;go_ret;exact⟨Qob HK.o.symm,rfl⟩
   ·have HN1:=Zh (show x∉l.take (k+1) by
     rw[List.take_add_one,hy];intro h;rcases List.mem_append.1 h with h|h
     ·exact HNI.o h
     ·simp at h;exact hxy h.symm)
    have he1:(x==y)=false:=by simpa using fun e=>hxy (Eq.symm e)
    clear hy hxy;go_wp2;go_roundw
    case rel=>exact⟨k+1,by omega,by go_num,(by first|rfl|trivial),HN1⟩
    case measure=>simp[intOf];omega
  ·have HK:=Zh (show idxI l x = -1 by
    unfold idxI;rw[if_neg (fun h=>HNI.o (by rwa [List.take_of_length_le (by rw[HL.o];omega)]))])
   go_wp2;go_ret;exact⟨Qob HK.o.symm,rfl⟩
theorem Qdk (l:List Int)(v:Value)(x:Int)(w:World)(h:QJa w v l):
  Calls Tryz.prog 161 #[v,iv x] w (fun e w'=>e=.returned (.bool (decide (x∈l)))∧w'=w):=by
 have K:=Zh (QCo l v x w h);have HD:=Zh (show decide (x∈l)=decide (0≤idxI l x) by
  unfold idxI;by_cases hm:x∈l
  ·rw[if_pos hm];simp[hm]
  ·rw[if_neg hm];simp[hm])
 obtain⟨a,c,rfl,-⟩:=h.cell;obtain⟨i,hi⟩:=Ze (idxI l x);rw[hi] at K HD;rw[HD.o];clear h hi HD;go_enter Tryz.func161,Tryz.ntmps161;go_wp2_with fail;refine K.o.mono ?_;rintro e w' ⟨rfl,rfl⟩;go_wp2;go_ret;exact⟨rfl,rfl⟩
structure QRd (z:Nat)(w:World)(vs:List Value)(R:List (List Int)):Prop where
 len:vs.length=R.length
 own:∀(i:Nat) (v:Value) (r:List Int),vs[i]? = some v→R[i]? = some r→w.ownsRow z IN 1 v r.length (r.map iv)
 apart:∀(i j:Nat) (v u:Value) (b:Nat),i≠j→vs[i]? = some v→vs[j]? = some u→v.ownBlock=some b→u.ownBlock≠some b
theorem Qnj {w w':World}{base:Nat}{e:TypeId}{size:Nat}{v:Value}{n:Nat}{xs:List Value}(h:w.ownsRow base e size v n xs)(hb:∀b c fr,v.ownBlock=some b→w.heap[b]? = some (.cells c e fr)→w'.heap[b]? = w.heap[b]?):w'.ownsRow base e size v n xs:=by
 obtain⟨h1,h2⟩:=h;refine⟨h1,?_⟩;rcases h2 with h2|⟨g,cap,cur,e1,e2,e3,e4⟩
 ·exact .inl h2
 ·exact .inr ⟨g,cap,cur,e1,e2,(hb g cur (0,0) (by rw[e1];rfl) e3).trans e3,e4⟩
theorem QRd.keep {z:Nat}{w w':World}{vs:List Value}{R:List (List Int)}(h:QRd z w vs R)(hb:∀(b:Nat) (c:Array Value) (fr:Nat×Nat),w.heap[b]? = some (Obj.cells c IN fr)→w'.heap[b]? = w.heap[b]?):QRd z w' vs R:=
 ⟨h.len,fun i v r hv hr=>Qnj (h.own i v r hv hr) fun b c fr _ hc=>hb b c fr hc,h.apart⟩
theorem QZn {w:World}{base:Nat}{e:TypeId}{size:Nat}{v:Value}{n b:Nat}{xs:List Value}(h:w.ownsRow base e size v n xs)(hb:v.ownBlock=some b):b<w.heap.size∧base≤b:=by
 rcases h.2 with⟨rfl,_⟩|⟨g,cap,cur,rfl,hg,hh,_⟩
 ·simp[Value.ownBlock] at hb
 ·simp[Value.ownBlock] at hb;subst hb;exact⟨Qb hh,hg⟩
theorem QRd.push {z g cap:Nat}{w w5:World}{vs:List Value}{R:List (List Int)}{i:Nat}{v:Value}{r:List Int}{x:Int}(h:QRd z w vs R)(hv:vs[i]? = some v)(hr:R[i]? = some r)(ho:w5.ownsRow z IN 1 (.slice (some ⟨g,0,none⟩) (r.length+1) cap) (r.length+1) (r.map iv++[iv x]))(hg:w.grownBy w5 v.ownBlock)(hn:v.ownBlock=some g∨w.heap.size≤g):
  QRd z w5 (vs.set i (.slice (some ⟨g,0,none⟩) (r.length+1) cap)) (R.set i (r++[x])):=by
 have hi:i<vs.length:=(List.getElem?_eq_some_iff.1 hv).1;refine⟨by simp[h.len],fun j u s hu hs=>?_,fun j k u y b hne hu hy hb=>?_⟩
 ·by_cases hij:i=j
  ·subst hij;rw[List.getElem?_set_self hi] at hu;rw[List.getElem?_set_self (by rw[←h.len];exact hi)] at hs;injection hu with hu
   injection hs with hs
   subst hu hs
   simpa using ho
  ·rw[List.getElem?_set_ne hij] at hu hs;refine Qnj (h.own j u s hu hs) fun b c fr hb _=>hg.block b (QZn (h.own j u s hu hs) hb).1 ?_
   intro e;exact h.apart i j v u b hij hv hu e.symm hb
 ·have key:∀q t,i≠q→vs[q]? = some t→t.ownBlock≠some g:=fun q t hq ht e=>by
   obtain⟨s,hs⟩:∃s,R[q]? = some s:=⟨_,List.getElem?_eq_getElem (by rw[←h.len];exact(List.getElem?_eq_some_iff.1 ht).1)⟩;rcases hn with hn|hn
   ·exact h.apart i q v t g hq hv ht hn e
   ·have:=(QZn (h.own q t s ht hs) e).1;omega
  by_cases hij:i=j
  ·subst hij;rw[List.getElem?_set_self hi] at hu;injection hu with hu
   subst hu;rw[List.getElem?_set_ne hne] at hy;simp[Value.ownBlock] at hb;subst hb;exact key k y hne hy
  ·rw[List.getElem?_set_ne hij] at hu;by_cases hik:i=k
   ·subst hik;rw[List.getElem?_set_self hi] at hy;injection hy with hy
    subst hy;intro e;simp[Value.ownBlock] at e;subst e;exact key j u hij hu hb
   ·rw[List.getElem?_set_ne hik] at hy;exact h.apart j k u y b hne hu hy hb
structure Qbb (z:Nat)(w w':World):Prop where
 below:Below z w w'
 same:∀T,T≠IT→T≠IN→Qf T w w'
theorem Qbb.refl (z:Nat)(w:World)(h:z≤w.heap.size):Qbb z w w:=⟨(Below.refl _ _).mono h,fun _ _ _=>Qf.refl⟩
theorem Qbb.trans {z:Nat}{a b c:World}(h:Qbb z a b)(k:Qbb z b c):Qbb z a c:=⟨h.below.trans k.below,fun T h1 h2=>(h.same T h1 h2).trans (k.same T h1 h2)⟩
theorem Qbb.of {z:Nat}{w w':World}(h:Below w.heap.size w w')(hz:z≤w.heap.size):Qbb z w w':=⟨h.mono hz,fun _ _ _=>Qf.below h⟩
structure Bld (z bt sb pb mb:Nat)(nv:Value)(N:List Qx)(S P:List (List Int))(w:World):Prop where
 zs:z≤bt∧z≤sb∧z≤pb∧z≤mb
 bl:w.heap[bt]? = some (.cells #[nv,.slice (some ⟨sb,0,none⟩) N.length N.length,.slice (some ⟨pb,0,none⟩) N.length N.length,.map (some mb)] BT (0,0))
 mp:NumM w mb N.length N
 ne:sb≠pb
 rows:∃vs us:List Value,w.heap[sb]? = some (.cells vs.toArray IT (0,0))∧w.heap[pb]? = some (.cells us.toArray IT (0,0))∧vs.length=N.length∧us.length=N.length∧S.length=N.length∧QRd z w (vs++us) (S++P)
theorem Bld.keep {z bt sb pb mb:Nat}{nv:Value}{N:List Qx}{S P:List (List Int)}{w w':World}(h:Bld z bt sb pb mb nv N S P w)(hb:∀k,k<w.heap.size→w'.heap[k]? = w.heap[k]?):Bld z bt sb pb mb nv N S P w':=by
 obtain⟨vs,us,h1,h2,h3,h4,h5,h6⟩:=h.rows;exact⟨h.zs,(hb _ (Qb h.bl)).trans h.bl,h.mp.block (hb _ h.mp.lt),h.ne,vs,us,(hb _ (Qb h1)).trans h1,(hb _ (Qb h2)).trans h2,h3,h4,h5,h6.keep fun b c fr hc=>hb b (Qb hc)⟩
theorem Bld.below {z bt sb pb mb:Nat}{nv:Value}{N:List Qx}{S P:List (List Int)}{w w':World}(h:Bld z bt sb pb mb nv N S P w)(b:Below w.heap.size w w'):Bld z bt sb pb mb nv N S P w':=h.keep b.block
theorem QSl {w:World}{b i:Nat}{vs:List Value}{t:TypeId}{fr:Nat×Nat}(h:w.heap[b]? = some (.cells vs.toArray t fr))(x:Value):(w.setCell ⟨b,i,none⟩ x).heap[b]? = some (.cells (vs.set i x).toArray t fr):=by
 simp[World.setCell,Array.getElem?_modify,h]
theorem Qnf {w:World}{b k o:Nat}(h:b≠k)(x:Value):(w.setCell ⟨b,o,none⟩ x).heap[k]? = w.heap[k]?:=by
 simp[World.setCell,Array.getElem?_modify,h]
theorem QPf {c:Array Value}{t:TypeId}{f:Nat×Nat}(h:t≠IN):∀c' fr,Obj.cells c t f≠.cells c' IN fr:=by
 intro c' fr e;injection e with _ e
 exact h e
theorem Bld.grow {z bt sb pb mb g cap i:Nat}{nv v:Value}{N:List Qx}{S P:List (List Int)}{w w5:World}{vs us:List Value}{r:List Int}{x:Int}(hbs:Base.b≤z)(h:Bld z bt sb pb mb nv N S P w)(h1:w.heap[sb]? = some (.cells vs.toArray IT (0,0)))(h2:w.heap[pb]? = some (.cells us.toArray IT (0,0)))(h3:vs.length=N.length)(h4:us.length=N.length)(h6:QRd z w (vs++us) (S++P))(hv:(vs++us)[i]? = some v)(hr:(S++P)[i]? = some r)(ho:w5.ownsRow z IN 1 (.slice (some ⟨g,0,none⟩) (r.length+1) cap) (r.length+1) (r.map iv++[iv x]))(hg:w.grownBy w5 v.ownBlock)(hn:v.ownBlock=some g∨w.heap.size≤g)(hz:z≤w.heap.size):
  w5.heap[bt]? = w.heap[bt]?∧w5.heap[sb]? = w.heap[sb]?∧w5.heap[pb]? = w.heap[pb]?∧NumM w5 mb N.length N∧QRd z w5 ((vs++us).set i (.slice (some ⟨g,0,none⟩) (r.length+1) cap)) ((S++P).set i (r++[x]))∧Qbb z w w5:=by
 have own:=h6.own i v r hv hr;obtain⟨es,c0,hm⟩:=h.mp.isMap;refine⟨hg.block _ (Qb h.bl) (Qdb own h.bl (QPf ZD)),hg.block _ (Qb h1) (Qdb own h1 (QPf ZD)),hg.block _ (Qb h2) (Qdb own h2 (QPf ZD)),h.mp.block (hg.block _ (Qb hm) (Qdb own hm (by intro c fr e;cases e))),h6.push hv hr ho hg hn,?_⟩;exact⟨Below.of_grown hg own hz,fun T _ hT=>Qf.grown hg own hT hbs⟩
theorem QXg {z b o:Nat}{w:World}{vs:List Value}{R:List (List Int)}{c:Array Value}{fr:Nat×Nat}(h:QRd z w vs R)(hb:w.heap[b]? = some (.cells c IT fr))(x:Value):QRd z (w.setCell ⟨b,o,none⟩ x) vs R:=
 h.keep fun k c' fr' hc=>Qnf (by rintro rfl;rw[hb] at hc;injection hc with hc;injection hc with _ hc;exact absurd hc ZD) x
theorem Qnh {z b o:Nat}{w w':World}{c:Array Value}(h:Qbb z w w')(hb:w'.heap[b]? = some (.cells c IT (0,0)))(hz:z≤b)(hbs:Base.b≤z)(x:Value):Qbb z w (w'.setCell ⟨b,o,none⟩ x):=
 ⟨h.below.setCell (p:=⟨b,o,none⟩) hz _,fun T h1 h2=>(h.same T h1 h2).trans (Qf.setCell (U:=IT) (Qv hb (Nat.le_trans hbs hz)) h1)⟩
theorem Bld.rowS {z bt sb pb mb:Nat}{nv:Value}{N:List Qx}{S P:List (List Int)}{w:World}(hbs:Base.b≤z)(h:Bld z bt sb pb mb nv N S P w)(hz:z≤w.heap.size){a:Nat}(ha:a<N.length):
  ∃v r,S[a]? = some r∧w.cell? ⟨sb,a,none⟩=some v∧w.ownsRow z IN 1 v r.length (r.map iv)∧∀g cap w5 x,w5.ownsRow z IN 1 (.slice (some ⟨g,0,none⟩) (r.length+1) cap) (r.length+1) (r.map iv++[iv x])→w.grownBy w5 v.ownBlock→(v.ownBlock=some g∨w.heap.size≤g) →
   (w5.heap[bt]? = w.heap[bt]?∧w5.heap[sb]? = w.heap[sb]?)∧Bld z bt sb pb mb nv N (S.set a (r++[x])) P (w5.setCell ⟨sb,a,none⟩ (.slice (some ⟨g,0,none⟩) (r.length+1) cap))∧Qbb z w (w5.setCell ⟨sb,a,none⟩ (.slice (some ⟨g,0,none⟩) (r.length+1) cap)):=by
 obtain⟨vs,us,h1,h2,h3,h4,h5,h6⟩:=h.rows;obtain⟨v,hv⟩:∃v,vs[a]? = some v:=⟨_,List.getElem?_eq_getElem (by rw[h3];exact ha)⟩;obtain⟨r,hr⟩:∃r,S[a]? = some r:=⟨_,List.getElem?_eq_getElem (by rw[h5];exact ha)⟩;have hv2:(vs++us)[a]? = some v:=by rw[List.getElem?_append_left (by rw[h3];exact ha)];exact hv
 have hr2:(S++P)[a]? = some r:=by rw[List.getElem?_append_left (by rw[h5];exact ha)];exact hr
 refine⟨v,r,hr,?_,h6.own a v r hv2 hr2,fun g cap w5 x ho hg hn=>?_⟩
 ·have:=(Qd h1).1 a;rw[this]
  simpa using hv
 ·obtain⟨k1,k2,k3,k4,k5,k6⟩:=h.grow hbs h1 h2 h3 h4 h6 hv2 hr2 ho hg hn hz;have s5:=k2.trans h1;have p5:=k3.trans h2;obtain⟨es,c0,hm⟩:=k4.isMap;have hms:sb≠mb:=by rintro rfl;rw[s5] at hm;cases hm
  have hbs2:sb≠bt:=by
   rintro rfl;rw[k1.trans h.bl] at s5;injection s5 with s5
   injection s5 with _ s5
   exact absurd s5 ZD
  refine⟨⟨k1,k2⟩,⟨h.zs,(Qnf hbs2 _).trans (k1.trans h.bl),k4.block (Qnf hms _),h.ne,vs.set a (.slice (some ⟨g,0,none⟩) (r.length+1) cap),us,QSl s5 _,(Qnf h.ne _).trans p5,by simpa using h3,h4,by simpa using h5,?_⟩,Qnh k6 s5 h.zs.2.1 hbs _⟩;have:=QXg (o:=a) k5 s5 (.slice (some ⟨g,0,none⟩) (r.length+1) cap);rw[List.set_append_left _ _ (by rw[h3];exact ha),List.set_append_left _ _ (by rw[h5];exact ha)] at this;exact this
theorem Bld.rowP {z bt sb pb mb:Nat}{nv:Value}{N:List Qx}{S P:List (List Int)}{w:World}(hbs:Base.b≤z)(h:Bld z bt sb pb mb nv N S P w)(hz:z≤w.heap.size){a:Nat}(ha:a<N.length):
  ∃v r,P[a]? = some r∧w.cell? ⟨pb,a,none⟩=some v∧w.ownsRow z IN 1 v r.length (r.map iv)∧∀g cap w5 x,w5.ownsRow z IN 1 (.slice (some ⟨g,0,none⟩) (r.length+1) cap) (r.length+1) (r.map iv++[iv x])→w.grownBy w5 v.ownBlock→(v.ownBlock=some g∨w.heap.size≤g) →
   (w5.heap[bt]? = w.heap[bt]?∧w5.heap[pb]? = w.heap[pb]?)∧Bld z bt sb pb mb nv N S (P.set a (r++[x])) (w5.setCell ⟨pb,a,none⟩ (.slice (some ⟨g,0,none⟩) (r.length+1) cap))∧Qbb z w (w5.setCell ⟨pb,a,none⟩ (.slice (some ⟨g,0,none⟩) (r.length+1) cap)):=by
 obtain⟨vs,us,h1,h2,h3,h4,h5,h6⟩:=h.rows;have h7:P.length=N.length:=by have:=h6.len;simp at this;omega
 obtain⟨v,hv⟩:∃v,us[a]? = some v:=⟨_,List.getElem?_eq_getElem (by rw[h4];exact ha)⟩;obtain⟨r,hr⟩:∃r,P[a]? = some r:=⟨_,List.getElem?_eq_getElem (by rw[h7];exact ha)⟩;have hv2:(vs++us)[N.length+a]? = some v:=by rw[List.getElem?_append_right ZO,h3,Nat.add_sub_cancel_left];exact hv
 have hr2:(S++P)[N.length+a]? = some r:=by rw[List.getElem?_append_right ZO,h5,Nat.add_sub_cancel_left];exact hr
 refine⟨v,r,hr,?_,h6.own _ v r hv2 hr2,fun g cap w5 x ho hg hn=>?_⟩
 ·have:=(Qd h2).1 a;rw[this]
  simpa using hv
 ·obtain⟨k1,k2,k3,k4,k5,k6⟩:=h.grow hbs h1 h2 h3 h4 h6 hv2 hr2 ho hg hn hz;have s5:=k2.trans h1;have p5:=k3.trans h2;obtain⟨es,c0,hm⟩:=k4.isMap;have hms:pb≠mb:=by rintro rfl;rw[p5] at hm;cases hm
  have hbs2:pb≠bt:=by
   rintro rfl;rw[k1.trans h.bl] at p5;injection p5 with p5
   injection p5 with _ p5
   exact absurd p5 ZD
  refine⟨⟨k1,k3⟩,⟨h.zs,(Qnf hbs2 _).trans (k1.trans h.bl),k4.block (Qnf hms _),h.ne,vs,us.set a (.slice (some ⟨g,0,none⟩) (r.length+1) cap),(Qnf h.ne.symm _).trans s5,QSl p5 _,h3,by simpa using h4,h5,?_⟩,Qnh k6 p5 h.zs.2.2.1 hbs _⟩;have:=QXg (o:=a) k5 p5 (.slice (some ⟨g,0,none⟩) (r.length+1) cap);rw[List.set_append_right _ _ ZO,List.set_append_right _ _ ZO,h3,h5,Nat.add_sub_cancel_left] at this;exact this
section
variable {P:Program} {ops:Array Oper} {Q:Exit→Act→World→Prop} {md:Region.Mode} {S:World→Prop}
theorem Qgi {st:Nat}(i:Nat)(d:Option Tmp){oi:Oper}{fuel:Nat}{listed:Array Bool}{a:Act}{w E:World}(news:List Value)(e:TypeId)(hE:w.alloc (.cells news.toArray e)=E)(hi:ops[i]? = some oi)(hr:Region.ready md ops listed=[i])(hwant:Region.wanted oi (yielded ops a.tmps)=true)(hd:oi.dst=d)(s x:Operand)(t:TypeId)(ho:oi.op=.call { callee:=.builtin .append,args:=#[s,x],argTypes:=#[t,t] })(base:Nat)(z:Value)(size bytes:Nat)(ht:P.underlying t=some (.slice e))(hin:(P.info? e).map (fun i=>(i.zero,i.size,i.bytes))=some (some z,size,bytes))(hzs:z.cells.size=size)(hsz:0<size)(v:Value)(n:Nat)(xs:List Value)(hown:w.ownsRow base e size v n xs)(hs:a.eval s=v)(hx:a.eval x=.slice (some ⟨w.heap.size,0,none⟩) 1 1)(hl:news.length=size)(h1:news.all Value.oneCell'=true)(h63:n+1≤maxLen)(hbytes:(n+1)*bytes≤140737488355328)(hbase:base≤w.heap.size)(h:∀g cap w',w'.ownsRow base e size (.slice (some ⟨g,0,none⟩) (n+1) cap) (n+1) (xs++news)→w.grownBy w' v.ownBlock→(v.ownBlock=some g∨w.heap.size≤g) →
   (i≠st→S w')∧Qma P md ops Q S st fuel (listed.setIfInBounds i true) (a.put d (.slice (some ⟨g,0,none⟩) (n+1) cap)) w'):
  Qma P md ops Q S st (fuel+1) listed a E:=by
 subst hd hE;obtain⟨ii,hi',hz,hs1,hs2⟩:=info_parts hin;refine Qhi i hi hr hwant ?_;refine wp_append_lies _ s x t ho base e ii z size bytes ht hi' hz hs1 hs2 hzs hsz v n xs hs (hown.alloc _) ⟨w.heap.size,0,none⟩ 1 1 news hx ZO
  QPk (fun u hu=>List.all_eq_true.1 h1 u hu) ZO h63 hbytes (by simp;omega) _ rfl ?_
 intro g cap w' h2 h3 h4 h5;have ha:=World.grownBy_alloc w (.cells news.toArray e) v.ownBlock;refine h g cap w' h2 ⟨h3.os.trans ha.os,h3.tape.trans ha.tape,h3.output.trans ha.output,Nat.le_trans ha.size h3.size,fun k hk hn=>(h3.block k (Nat.lt_of_lt_of_le hk ha.size) hn).trans (ha.block k hk hn)⟩ ?_;rcases h4 with h4|h4
 ·exact .inl h4
 ·exact .inr (by rw[h4];simp)
end
end
section
open Go.RowKit
variable [Base]
def BldE (z bt sb pb mb:Nat)(nv:Value)(N:List Qx)(E:List (Nat×Nat))(w:World):Prop:=∃S P,Bld z bt sb pb mb nv N S P w∧GrE N.length E S P
theorem BldE.below {z bt sb pb mb:Nat}{nv:Value}{N:List Qx}{E:List (Nat×Nat)}{w w':World}(h:BldE z bt sb pb mb nv N E w)(b:Below w.heap.size w w'):BldE z bt sb pb mb nv N E w':=by
 obtain⟨S,P,h1,h2⟩:=h;exact⟨S,P,h1.below b,h2⟩
def EdgeQ (z bt sb pb mb:Nat)(nv:Value)(N:List Qx)(E:List (Nat×Nat))(w:World)(e:Ending)(w':World):Prop:=e=.returned (.tuple #[])∧BldE z bt sb pb mb nv N E w'∧Qbb z w w'
theorem QWm {z bt sb pb mb:Nat}{nv:Value}{N:List Qx}{E:List (Nat×Nat)}{w:World}(hbs:Base.b≤z)(hN:N.length≤256)(h:BldE z bt sb pb mb nv N E w)(a b:Nat)(ha:a<N.length)(hb:b<N.length):
  Calls Tryz.prog 99 #[.pointer (some ⟨bt,0,none⟩),iv a,iv b] w (EdgeQ z bt sb pb mb nv N (E++[(a,b)]) w):=by
 obtain⟨S,P,hB,hE⟩:=h;have hz:z≤w.heap.size:=by have:=Qb hB.bl;have:=hB.zs;omega
 obtain⟨v,r,hr,c1,own,grow⟩:=hB.rowS hbs hz ha;have hrl:=hE.slen hr;have hlt:bt<w.heap.size:=Qb hB.bl;have hls:sb<w.heap.size:=by obtain⟨vs,us,h1,_⟩:=hB.rows;exact Qb h1
 have hlp:pb<w.heap.size:=by obtain⟨vs,us,_,h1,_⟩:=hB.rows;exact Qb h1
 obtain⟨SC,hSC⟩:∃c,w.heap[sb]? = some (.cells c IT (0,0)):=by obtain⟨vs,us,h1,_⟩:=hB.rows;exact⟨_,h1⟩
 have HF1:=Zh hSC;have KC:=Zh (Qdk r v b w (show QJa w v r from Qg.of_owns own));have OWN:=Zh own;have GROW:=Zh grow;have HB:=Zh hB;have HE:=Zh hE;have HR:=Zh hr;have KZ:=Zh (Qbb.refl z w hz);obtain⟨x0,x1,x2,x3⟩:=Qt hB.bl;obtain⟨n,hn⟩:=Ze N.length;obtain⟨rl,hrl2⟩:=Ze r.length;rw[hn] at x1 x2 ha hb hN hrl;rw[hrl2] at hrl OWN GROW;have HN:=Zh hn;have hia:(a:Int)<(n:Int):=by omega
 have hib:(b:Int)<(n:Int):=by omega
 clear hB hE hr own grow hn hSC hrl2;go_enter Tryz.func99,Tryz.ntmps99;go_wp2_with fail;refine KC.o.mono ?_;rintro e w' ⟨rfl,rfl⟩;by_cases hm:(b:Int)∈r
 ·have hd:decide ((b:Int)∈r)=true:=by simpa using hm
  have HQ:=Zh (show BldE z bt sb pb mb nv N (E++[(a,b)]) w' from⟨S,P,HB.o,HE.o.same HR.o hm⟩);clear hm;rw[hd];go_wp2;exact bodyPost_ret (v:=.tuple #[]) (by simp[results,Tryz.results99,go_sem]) rfl ⟨rfl,HQ.o,KZ.o⟩
 ·have hd:decide ((b:Int)∈r)=false:=by simpa using hm
  have HM:=Zh hm;rw[hd];clear hm hd KC;go_upto_region 1 with(fail)
  refine Zr (fun w'=>w'.cell? ⟨bt,1,none⟩=some (.slice (some ⟨sb,0,none⟩) n n)∧w'.cell? ⟨sb,a,none⟩=some v) 18 (⟨x1,c1⟩) fun hS0=>?_
  refine Yd 0 16 ?_;refine Yd 1 17 ?_;refine Yd 2 18 ?_;refine Yd 3 19 ?_;refine Yd 4 20 ?_;refine Yd 5 21 ?_;refine Yd 6 22 ?_;refine Yd 7 23 ?_;refine Yd 8 24 ?_;refine Yd 9 25 ?_;refine Yd 10 26 ?_;refine Yd 11 27 ?_;refine Yd 12 28 ?_;refine Yd 13 29 ?_;refine Yd 14 30 ?_;refine QW 15 (some 31) (.slice (some ⟨w'.heap.size,0,none⟩) 1 1) ((w'.drewN 1).alloc (.cells #[iv (b:Int)] IN)) rfl ZK ZK ?rva1 rfl (fun _=>?sa1) ?_
  case rva1=>go_simp
  case sa1=>exact⟨(World.cell?_of_block (Below.heap_alloc _ _ _ (by show bt<w'.heap.size;omega))).trans hS0.1,(World.cell?_of_block (Below.heap_alloc _ _ _ (by show sb<w'.heap.size;omega))).trans hS0.2⟩
  clear hS0;refine Qgi 16 (some 32) (w:=w'.drewN 1) [iv (b:Int)] IN rfl rfl ZK ZK rfl _ _ IT rfl z _ 1 8 Tryz.underlying22 QRa rfl ZD v _ _ OWN.o ZK ZK rfl rfl (by unfold maxLen;omega) ZO hz ?_;intro g cap v5 ho hg hn;have G1:=Zh (GROW.o g cap v5 (b:Int) ho ⟨hg.os,hg.tape,hg.output,hg.size,hg.block⟩ hn);clear ho hg hn;have y1:=(World.cell?_of_block (a:=⟨bt,1,none⟩) G1.o.1.1).trans x1;have z1:=(World.cell?_of_block (a:=⟨sb,a,none⟩) G1.o.1.2).trans c1;have f1:=G1.o.1.2.trans HF1.o;refine Zi ⟨y1,z1⟩ fun hS0=>?_
  refine Yd 17 33 ?_;have fz:=(Qa f1).2 a;refine Qeb 18 none (v5.setCell ⟨sb,a,none⟩ (.slice (some ⟨g,0,none⟩) (rl+1) cap)) rfl ZK ZK ?rs1 rfl (fun h=>absurd rfl h) ?_
  case rs1=>go_simp
  refine Qu ZK ?_ _;generalize hA:Act.put _ _ _=A0;simp only[Qba,Qaa,Zu,Zv,Zw] at hA;subst hA;have HB2:=Zh G1.o.2.1;have KE2:=Zh G1.o.2.2;obtain⟨w2,hw2⟩:=Ze (v5.setCell ⟨sb,a,none⟩ (.slice (some ⟨g,0,none⟩) (rl+1) cap));rw[hw2] at HB2 KE2 ⊢;clear hw2 G1 y1 z1 f1 fz hS0 x0 x1 x2 x3 c1 HF1;have hz2:z≤w2.heap.size:=by have:=KE2.o.below.size;omega
  obtain⟨u,q,hq,c2,own2,grow2⟩:=HB2.o.rowP hbs hz2 (a:=b) (by have:=HN.o;omega);have hql:=HE.o.plen hq;obtain⟨ql,hql2⟩:=Ze q.length;have hlt2:bt<w2.heap.size:=Qb HB2.o.bl;have hlp2:pb<w2.heap.size:=by obtain⟨vs,us,_,h1,_⟩:=HB2.o.rows;exact Qb h1
  obtain⟨PC,hPC⟩:∃c,w2.heap[pb]? = some (.cells c IT (0,0)):=by obtain⟨vs,us,_,h1,_⟩:=HB2.o.rows;exact⟨_,h1⟩
  have HF2:=Zh hPC;have HQ2:=Zh hq;have OWN2:=Zh own2;have GROW2:=Zh grow2;obtain⟨x0,x1,x2,x3⟩:=Qt HB2.o.bl;rw[HN.o] at x1 x2 hql;rw[hql2] at hql OWN2 GROW2;clear hq own2 grow2 hPC hql2;obtain⟨g1,hg1⟩:∃g1:Nat,g=g1:=⟨_,rfl⟩;obtain⟨cap1,hc1⟩:∃c1:Nat,cap=c1:=⟨_,rfl⟩;subst hg1 hc1;clear OWN GROW;go_upto_region 2 with(fail)
  refine Zr (fun w'=>w'.cell? ⟨bt,2,none⟩=some (.slice (some ⟨pb,0,none⟩) n n)∧w'.cell? ⟨pb,b,none⟩=some u) 18 (⟨x2,c2⟩) fun hS0=>?_
  refine Yd 0 34 ?_;refine Yd 1 35 ?_;refine Yd 2 36 ?_;refine Yd 3 37 ?_;refine Yd 4 38 ?_;refine Yd 5 39 ?_;refine Yd 6 40 ?_;refine Yd 7 41 ?_;refine Yd 8 42 ?_;refine Yd 9 43 ?_;refine Yd 10 44 ?_;refine Yd 11 45 ?_;refine Yd 12 46 ?_;refine Yd 13 47 ?_;refine Yd 14 48 ?_;refine QW 15 (some 49) (.slice (some ⟨w2.heap.size,0,none⟩) 1 1) ((w2.drewN 1).alloc (.cells #[iv (a:Int)] IN)) rfl ZK ZK ?rva2 rfl (fun _=>?sa2) ?_
  case rva2=>go_simp
  case sa2=>exact⟨(World.cell?_of_block (Below.heap_alloc _ _ _ (by show bt<w2.heap.size;omega))).trans hS0.1,(World.cell?_of_block (Below.heap_alloc _ _ _ (by show pb<w2.heap.size;omega))).trans hS0.2⟩
  clear hS0;refine Qgi 16 (some 50) (w:=w2.drewN 1) [iv (a:Int)] IN rfl rfl ZK ZK rfl _ _ IT rfl z _ 1 8 Tryz.underlying22 QRa rfl ZD u _ _ OWN2.o ZK ZK rfl rfl (by unfold maxLen;omega) ZO hz2 ?_;intro g cap v5 ho hg hn;have G2:=Zh (GROW2.o g cap v5 (a:Int) ho ⟨hg.os,hg.tape,hg.output,hg.size,hg.block⟩ hn);clear ho hg hn;have y2:=(World.cell?_of_block (a:=⟨bt,2,none⟩) G2.o.1.1).trans x2;have z2:=(World.cell?_of_block (a:=⟨pb,b,none⟩) G2.o.1.2).trans c2;have f2:=G2.o.1.2.trans HF2.o;refine Zi ⟨y2,z2⟩ fun hS0=>?_
  refine Yd 17 51 ?_;have fz:=(Qa f2).2 b;refine Qeb 18 none (v5.setCell ⟨pb,b,none⟩ (.slice (some ⟨g,0,none⟩) (ql+1) cap)) rfl ZK ZK ?rs2 rfl (fun h=>absurd rfl h) ?_
  case rs2=>go_simp
  refine Qu ZK ?_ _;generalize hA:Act.put _ _ _=A0;simp only[Qba,Qaa,Zu,Zv,Zw] at hA;subst hA;have HFIN:=Zh (show BldE z bt sb pb mb nv N (E++[(a,b)]) (v5.setCell ⟨pb,b,none⟩ (.slice (some ⟨g,0,none⟩) (ql+1) cap)) from⟨_,_,G2.o.2.1,HE.o.add (by have:=HN.o;omega) (by have:=HN.o;omega) HR.o HQ2.o HM.o⟩);have KFIN:=Zh (KE2.o.trans G2.o.2.2);clear y2 z2 f2 fz hS0 x0 x1 x2 x3 c2;go_wp2;exact bodyPost_end (v:=.tuple #[]) (by simp[results,Tryz.results99,go_sem]) rfl ⟨rfl,HFIN.o,KFIN.o⟩
end
section
open Go.RowKit
variable [Base]
theorem QOo (y x:Str)(v:Value)(nb:Nat)(w:World)(hx:w.heap[nb]? = some (.cells #[sv x] TS (0,0))):
  Calls Tryz.prog 196 #[.agg #[sv y,v],.pointer (some ⟨nb,0,none⟩)] w (Qia (decide (y=x)) w):=by
 have hlt:=Qb hx;have c0:=((Below.refl w.heap.size w).alloc (Nat.le_refl _) (.cells #[sv y,v] 92)).cell (p:=⟨nb,0,none⟩) hlt;have x0:=(Qd hx).1 0;simp at x0;rw[x0] at c0;by_cases hyx:y=x
 ·subst hyx;have hd:decide (y=y)=true:=by simp
  rw[hd];clear hd;go_enter Tryz.func196,Tryz.ntmps196;go_wp2;go_ret;exact⟨by simp,Zb⟩
 ·have hd:decide (y=x)=false:=by simpa using hyx
  have he:(y==x)=false:=by simpa using hyx
  have HNE:=Zh hyx;rw[hd];clear hd hyx;go_enter Tryz.func196,Tryz.ntmps196;go_wp2;go_ret;exact⟨by(first|(simp[he];done)|(simp;exact HNE.o)),Zb⟩
theorem Qpl (l:List QI)(v:Value)(x:Str)(nb:Nat)(w:World)(h:QOc w v l)(hx:w.heap[nb]? = some (.cells #[sv x] TS (0,0))):
  Calls Tryz.prog 195 #[v,.func (.func 196) #[] #[.pointer (some ⟨nb,0,none⟩)]] w (IntQ (idxI (l.map QI.name) x) w):=by
 obtain⟨a,c,rfl,hn,hc⟩:=h.cell;have HC:=Zh hc;obtain⟨n,hl⟩:=Ze l.length;rw[hl] at hn ⊢;have HL:=Zh hl;obtain⟨L,hL⟩:=Ze (l.map QI.name);rw[hL];have HLL:=Zh hL;have HLN:=Zh (show L.length=n by rw[←hL,List.length_map,hl]);have HX:=Zh hx;clear hc h hl hL hx;unfold maxLen at hn;go_enter Tryz.func195,Tryz.ntmps195;go_wp2;go_loopw [8] (fun y wr=>∃k:Nat,k≤n∧y=.int .i64 k∧Hid (Below w.heap.size w wr)∧Hid (x∉L.take k)) (fun y _=>n-(intOf y).toNat)
 case atStart=>exact⟨0,Nat.zero_le _,rfl,Below.refl _ _,by unfold Hid;simp⟩
 case round=>
  obtain⟨k,hk,rfl,HB,HNI⟩:=hrel;by_cases hlt:k<n
  ·obtain⟨f,hf⟩:∃f,l[k]? = some f:=⟨_,List.getElem?_eq_getElem (by rw[HL.o];exact hlt)⟩;obtain⟨fb,off,bv,rfl,hfb,g0,g1,hbl⟩:=HC.o k f hf;have g0:=(HB.o.cell (p:=⟨fb,off+k*2,none⟩) hfb).trans g0;have g1:=(HB.o.cell (p:=⟨fb,off+k*2+1,none⟩) hfb).trans g1;obtain⟨ba,bc,rfl,-,-⟩:=hbl.cell;obtain⟨bn,hbn⟩:=Ze (List.length f.stmts);rw[hbn] at g1;have HY:=Zh (show L[k]? = some f.name by rw[←HLL.o,List.getElem?_map,hf];rfl);obtain⟨y,hy⟩:=Ze f.name;rw[hy] at g0 HY;have K:=Zh (QOo y x (.slice ba bn bc) nb wr ((HB.o.block nb (Qb HX.o)).trans HX.o));clear hf hbl hbn hy;go_wp2_with fail;refine K.o.mono ?_;rintro e w2 ⟨rfl,b2⟩;have HB2:=Zh (HB.o.trans (b2.mono HB.o.size));clear b2 g0 g1 K HB;by_cases hxy:y=x
   ·subst hxy;have HK:=Zh (show idxI L y=(k:Int) from Qse HY.o HNI.o);have hd:decide (y=y)=true:=by simp
    rw[hd];clear hd;go_wp2;go_ret;exact⟨Qob HK.o.symm,HB2.o⟩
   ·have HN1:=Zh (show x∉L.take (k+1) by
     rw[List.take_add_one,HY.o];intro h;rcases List.mem_append.1 h with h|h
     ·exact HNI.o h
     ·simp at h;exact hxy h.symm)
    have hd:decide (y=x)=false:=by simpa using hxy
    rw[hd];clear hd hxy;go_wp2;go_roundw
    case rel=>exact⟨k+1,by omega,by go_num,HB2,HN1⟩
    case measure=>simp[intOf];omega
  ·have HK:=Zh (show idxI L x = -1 by
    unfold idxI;rw[if_neg (fun h=>HNI.o (by rwa [List.take_of_length_le (by rw[HLN.o];omega)]))])
   go_wp2;go_ret;exact⟨Qob HK.o.symm,HB.o⟩
theorem Qkq (y x:Str)(v:Value)(nb:Nat)(w:World)(op:Int)(dn:Str)(u t:Value)(hx:w.heap[nb]? = some (.cells #[iv op,sv dn,u,t] 94 (0,0)))(tl:List Str)(ht:Qea w t (x::tl)):
  Calls Tryz.prog 164 #[.agg #[sv y,v],.pointer (some ⟨nb,0,none⟩)] w (Qia (decide (y=x)) w):=by
 have hlt:=Qb hx;obtain⟨ta,tc,rfl,-,htc⟩:=ht.cell;obtain⟨tb,toff,rfl,htb,g1⟩:=htc 0 x rfl;obtain⟨tn,htn⟩:∃n,(x::tl).length=n+1:=⟨tl.length,rfl⟩;rw[htn] at hx;have AL:=(Below.refl w.heap.size w).alloc (Nat.le_refl _) (.cells #[sv y,v] 89);have hx2:=(AL.block nb hlt).trans hx;have c0:=(AL.cell (p:=⟨tb,toff,none⟩) htb).trans (by simpa using g1);have n0:=heap_alloc_new w (.cells #[sv y,v] 89);obtain⟨W,hW⟩:=Ze (w.alloc (.cells #[sv y,v] 89));have HW:=Zh hW;rw[hW] at hx2 c0 n0;have BW:=Zh (hW▸AL);obtain⟨s0,s1,s2,s3⟩:=Qt hx2;obtain⟨m0,m1⟩:=Qq n0;obtain⟨q,hq⟩:=Ze w.heap.size;have HQ:=Zh hq;rw[hq] at m0 m1;clear hW AL hx hx2 n0 htn g1 htc ht htb;go_enter Tryz.func164,Tryz.ntmps164;go_upto_region 1 with(fail)
 rw[show w.alloc (.cells #[sv y,v] 89)=W from HW.o]
 try rw[hq]
 clear hq;by_cases hyx:y=x
 ·subst hyx;have hd:decide (y=y)=true:=by simp
  rw[hd];clear hd;go_region;go_wp2;go_ret;exact⟨by simp,Qp BW.o 1⟩
 ·have hd:decide (y=x)=false:=by simpa using hyx
  have he:(y==x)=false:=by simpa using hyx
  have HNE:=Zh hyx;rw[hd];clear hd hyx;go_region;go_wp2;go_ret;exact⟨by(first|(simp[he];done)|(simp;exact HNE.o)),Qp BW.o 1⟩
theorem QHm (l:List Qo)(v:Value)(x:Str)(nb:Nat)(w:World)(h:QAa w v l)(op:Int)(dn:Str)(u t:Value)(hx:w.heap[nb]? = some (.cells #[iv op,sv dn,u,t] 94 (0,0)))(tl:List Str)(ht:Qea w t (x::tl)):
  Calls Tryz.prog 163 #[v,.func (.func 164) #[] #[.pointer (some ⟨nb,0,none⟩)]] w (IntQ (idxI (l.map Qo.name) x) w):=by
 obtain⟨a,c,rfl,hn,hc⟩:=h.cell;have HC:=Zh hc;obtain⟨n,hl⟩:=Ze l.length;rw[hl] at hn ⊢;have HL:=Zh hl;obtain⟨L,hL⟩:=Ze (l.map Qo.name);rw[hL];have HLL:=Zh hL;have HLN:=Zh (show L.length=n by rw[←hL,List.length_map,hl]);have HX:=Zh hx;have HT:=Zh ht;clear hc h hl hL hx ht;unfold maxLen at hn;go_enter Tryz.func163,Tryz.ntmps163;go_wp2;go_loopw [8] (fun y wr=>∃k:Nat,k≤n∧y=.int .i64 k∧Hid (Below w.heap.size w wr)∧Hid (x∉L.take k)) (fun y _=>n-(intOf y).toNat)
 case atStart=>exact⟨0,Nat.zero_le _,rfl,Below.refl _ _,by unfold Hid;simp⟩
 case round=>
  obtain⟨k,hk,rfl,HB,HNI⟩:=hrel;by_cases hlt:k<n
  ·obtain⟨f,hf⟩:∃f,l[k]? = some f:=⟨_,List.getElem?_eq_getElem (by rw[HL.o];exact hlt)⟩;obtain⟨fb,off,bv,rfl,hfb,g0,g1,hbl⟩:=HC.o k f hf;have g0:=(HB.o.cell (p:=⟨fb,off+k*2,none⟩) hfb).trans g0;have g1:=(HB.o.cell (p:=⟨fb,off+k*2+1,none⟩) hfb).trans g1;obtain⟨ba,bc,rfl,-,-⟩:=hbl.cell;obtain⟨bn,hbn⟩:=Ze (List.length f.blocks);rw[hbn] at g1;have HY:=Zh (show L[k]? = some f.name by rw[←HLL.o,List.getElem?_map,hf];rfl);obtain⟨y,hy⟩:=Ze f.name;rw[hy] at g0 HY;have K:=Zh (Qkq y x (.slice ba bn bc) nb wr op dn u t ((HB.o.block nb (Qb HX.o)).trans HX.o) tl (HT.o.same (Qf.below HB.o)));clear hf hbl hbn hy;go_wp2_with fail;refine K.o.mono ?_;rintro e w2 ⟨rfl,b2⟩;have HB2:=Zh (HB.o.trans (b2.mono HB.o.size));clear b2 g0 g1 K HB;by_cases hxy:y=x
   ·subst hxy;have HK:=Zh (show idxI L y=(k:Int) from Qse HY.o HNI.o);have hd:decide (y=y)=true:=by simp
    rw[hd];clear hd;go_wp2;go_ret;exact⟨Qob HK.o.symm,HB2.o⟩
   ·have HN1:=Zh (show x∉L.take (k+1) by
     rw[List.take_add_one,HY.o];intro h;rcases List.mem_append.1 h with h|h
     ·exact HNI.o h
     ·simp at h;exact hxy h.symm)
    have hd:decide (y=x)=false:=by simpa using hxy
    rw[hd];clear hd hxy;go_wp2;go_roundw
    case rel=>exact⟨k+1,by omega,by go_num,HB2,HN1⟩
    case measure=>simp[intOf];omega
  ·have HK:=Zh (show idxI L x = -1 by
    unfold idxI;rw[if_neg (fun h=>HNI.o (by rwa [List.take_of_length_le (by rw[HLN.o];omega)]))])
   go_wp2;go_ret;exact⟨Qob HK.o.symm,HB.o⟩
theorem Qfp {z bt sb pb mb:Nat}{nv:Value}{N:List Qx}{E:List (Nat×Nat)}{w:World}(h:BldE z bt sb pb mb nv N E w)(a b c d:Int)(hf:fitN ⟨a,b,c,d⟩):
  Calls Tryz.prog 100 #[.pointer (some ⟨bt,0,none⟩),iv a,iv b,iv c,iv d] w (fun e w'=>e=.returned (iv (numN N ⟨a,b,c,d⟩))∧w'=w):=by
 obtain⟨S,P,hB,-⟩:=h;obtain⟨x0,x1,x2,x3⟩:=Qt hB.bl;have hlk:=hB.mp.look hf;simp only at hlk;obtain⟨r,hr⟩:=Ze (numN N ⟨a,b,c,d⟩);rw[hr] at hlk ⊢;obtain⟨n,hn⟩:=Ze N.length;rw[hn] at x1 x2;clear hB hf hr hn;go_enter Tryz.func100,Tryz.ntmps100;go_wp2;go_ret;exact⟨rfl,rfl⟩
end
section
open Go.RowKit
variable [Base]
def numT (N:List Qx)(n:Qx):Nat:=(numN N n).toNat
theorem QLc (N:List Qx)(n:Qx):numN N n=((numT N n:Nat):Int):=by
 unfold numT numN
 split
 ·rename_i h;obtain⟨k,hk,-⟩:=Qgc h;rw[hk];simp
 ·rfl
theorem QEc {N:List Qx}{n:Qx}(h:n∈N):numT N n<N.length∧N[numT N n]? = some n:=by
 obtain⟨k,hk,hn⟩:=Qgc h;have e:numT N n=k:=by unfold numT numN;rw[if_pos h,hk];simp
 rw[e];exact⟨(List.getElem?_eq_some_iff.1 hn).1,hn⟩
theorem QIj {p:List Qo}(hc:Ckd p){n x y:Qx}(hn:n∈QB p 0)(h:(x,y)∈QU p n):x∈QB p 0∧y∈QB p 0:=by
 have h1:(x,y)∈Qva p (QB p 0):=List.mem_flatten.2 ⟨_,List.mem_map.2 ⟨n,hn,rfl⟩,h⟩;obtain⟨h2,h3⟩:=(Qsh hc x y).1 h1;exact⟨h2,Qum hc h2 h3⟩
theorem Qir {z bt sb pb mb:Nat}{nv:Value}{N:List Qx}{E:List (Nat×Nat)}{w0 w:World}(hz:w0.heap.size=z)(b0:Below z w0 w)(h:BldE z bt sb pb mb nv N E w)(p:List Qo)(v:Value)(hp:QAa w0 v p)(i:Nat)(f:Qo)(hf:p[i]? = some f)(hbl:f.blocks.length≤1000)(hpl:p.length≤1000)(x:Str):
  Calls Tryz.prog 162 #[.pointer (some ⟨bt,0,none⟩),.agg #[v],iv i,sv x] w (IntQ (numN N ⟨3,i,idxI (QPb f) x,0⟩) w):=by
 obtain⟨a,c,rfl,hn,hc⟩:=hp.cell;obtain⟨fb,off,bv,rfl,hfb,-,g1,hb⟩:=hc i f hf;obtain⟨n,hl⟩:=Ze p.length;have hin:(i:Int)<(n:Int):=by have:=(List.getElem?_eq_some_iff.1 hf).1;omega
 rw[hl] at hn hpl ⊢;obtain⟨q,hq⟩:=Ze w.heap.size;have zq:z≤q:=by have:=b0.size;omega
 obtain⟨W,hW⟩:=Ze ((w.alloc (.cells #[.slice (some ⟨fb,off,none⟩) n c] 25)).alloc (.cells #[sv x] TS));have BW:=Zh (show Below q w W by rw[←hW,←hq];exact(Zb).alloc ZS _);have HP:=show W.heap[q]? = some (.cells #[.slice (some ⟨fb,off,none⟩) n c] 25 (0,0)) by rw[←hW,←hq];exact Qfa _ (heap_alloc_new _ _)
 have HX:=Zh (show W.heap[q+1]? = some (.cells #[sv x] TS (0,0)) by rw[←hW,←hq];have:=heap_alloc_new (w.alloc (.cells #[.slice (some ⟨fb,off,none⟩) n c] 25)) (.cells #[sv x] TS);rwa [World.size_alloc] at this);have BZ:=Zh (b0.trans (BW.o.mono zq));have g1:=(BZ.o.cell (p:=⟨fb,off+i*2+1,none⟩) (by show fb<z;omega)).trans g1;have HBL:=Zh (hb.keep (Qf.below (hz▸BZ.o)) (Qf.below (hz▸BZ.o)) (Qf.below (hz▸BZ.o)));obtain⟨ba,bc,rfl,-,-⟩:=hb.cell;obtain⟨bn,hbn⟩:=Ze (List.length f.blocks);rw[hbn] at g1 HBL hbl;have K:=Zh (Qpl f.blocks (.slice ba bn bc) x (q+1) W HBL.o HX.o);have hidx:-1≤idxI (QPb f) x∧idxI (QPb f) x≤1000:=by
  by_cases hm:x∈QPb f
  ·obtain⟨k,hk,hkx⟩:=Qgc hm;have h1:=(List.getElem?_eq_some_iff.1 hkx).1;unfold QPb at h1;rw[List.length_map] at h1;omega
  ·rw[QLp hm];omega
 obtain⟨ix,hix⟩:=Ze (idxI (QPb f) x);rw[show idxI (f.blocks.map QI.name) x=ix from hix] at K;rw[hix] at hidx ⊢;have x0:=(Qd HP).1 0;simp at x0;have HWW:=Zh hW;have HQ:=Zh hq;have HH:=Zh (h.below (hq.symm▸BW.o));have hil:(i:Int)≤1000:=by omega
 clear h hp hc hf hb hW hbn hix HP hl;go_enter Tryz.func162,Tryz.ntmps162;go_upto_region 1 with(fail)
 rw[show(w.alloc (.cells #[.slice (some ⟨fb,off,none⟩) n c] 25)).alloc (.cells #[sv x] TS)=W from HWW.o]
 try rw[hq]
 clear hq;go_wp2_with fail;refine K.o.mono ?_;rintro e w2 ⟨rfl,b2⟩;have HH2:=Zh (HH.o.below b2);have B2:=Zh (BW.o.trans (b2.mono (by have:=BW.o.size;have:=HQ.o;omega)));have KA:=Zh (Qfp HH2.o 3 i ix 0 ⟨by unfold fitI;dsimp only;omega,by unfold fitI;dsimp only;omega,by unfold fitI;dsimp only;omega,by unfold fitI;dsimp only;omega⟩);clear b2 x0 g1 K;go_wp2_with fail;refine KA.o.mono ?_;rintro e w3 ⟨rfl,rfl⟩;go_wp2;go_ret;exact⟨rfl,by rw[HQ.o];exact B2.o⟩
end
section
open Go.RowKit
variable [Base]
def numE (N:List Qx)(e:Qx×Qx):Nat×Nat:=(numT N e.1,numT N e.2)
def StmtG (z bt sb pb mb:Nat)(nv:Value)(N:List Qx)(E:List (Nat×Nat))(w:World)(e:Ending)(w':World):Prop:=e=.returned (.tuple #[])∧BldE z bt sb pb mb nv N E w'∧Qbb z w w'
theorem Qbr {z bt sb pb mb:Nat}{nv:Value}{E:List (Nat×Nat)}{w0 w:World}(hbs:Base.b≤z)(hz:w0.heap.size=z)(b0:Below z w0 w)(p:List Qo)(v:Value)(hp:QAa w0 v p)(hck:QFa p=0)(h:BldE z bt sb pb mb nv (QB p 0) E w){i k j:Nat}{f:Qo}{b:QI}{s:QD}(hat:At p i k j f b s)(u t:Value)(hu:∃a n c,u=.slice a n c)(ht:Qea w0 t s.targets):
  Calls Tryz.prog 101 #[.pointer (some ⟨bt,0,none⟩),.agg #[v],.agg #[iv 3,iv i,iv k,iv j],.agg #[iv s.op,sv s.dfn,u,t]] w
   (StmtG z bt sb pb mb nv (QB p 0) (E++(QU p ⟨3,i,k,j⟩).map (numE (QB p 0))) w):=by
 have hc:=Qzb hck;have hN256:(QB p 0).length≤256:=by rw[←Qne hck];exact Qme
 have hfew:=QUc hc.valid;have hi8:i<p.length:=(List.getElem?_eq_some_iff.1 hat.hf).1;have hk16:k<f.blocks.length:=(List.getElem?_eq_some_iff.1 hat.hb).1;have hj32:j<b.stmts.length:=(List.getElem?_eq_some_iff.1 hat.hs).1;have hf16:=hfew.2 f hat.fm;have hb32:=hf16.2 b hat.bm;have n3:=hat.node3;obtain⟨N,hN⟩:=Ze (QB p 0);have HNN:=Zh hN;have HED:=Zh (fun (x y:Qx) (he:(x,y)∈QU p ⟨3,i,k,j⟩)=>QIj hc n3 he);rw[hN] at h hN256 n3 HED ⊢;have HD:=Zh (hat.d 3);have HAT:=Zh hat;have HCK:=Zh hc;have hfi:∀x:Int,-1≤x→x≤1000→fitI x:=fun x h1 h2=>by unfold fitI;omega
 have HFIT:=Zh hfi;have KFI:=Zh (fun (x:World) (bx:Below z w0 x) (hB:BldE z bt sb pb mb nv N (E) x)=>True.intro);obtain⟨ua,un,uc,rfl⟩:=hu;obtain⟨ta,tc,rfl,h63,htc⟩:=ht.cell;obtain⟨tn,htn⟩:=Ze s.targets.length;have HTT:=Zh ht;rw[htn] at HTT h63 ⊢;unfold maxLen at h63;have HTC:=Zh htc;have HTN:=Zh htn;obtain⟨a,c,rfl,hn,-⟩:=hp.cell;obtain⟨n,hl⟩:=Ze p.length;have HPP:=Zh hp;have HFI:=Zh (fun (E':List (Nat×Nat)) (x:World) (bx:Below z w0 x) (hB:BldE z bt sb pb mb nv N E' x) (y:Str)=>Qir hz bx hB p _ hp i f hat.hf ZO ZO y);rw[hl] at HPP HFI hn hi8 hfew ⊢;obtain⟨q,hq⟩:=Ze w.heap.size;have zq:z≤q:=by have:=b0.size;omega
 obtain⟨op,hop⟩:=Ze s.op;obtain⟨dn,hdn⟩:=Ze s.dfn;rw[hop,hdn];have HOP:=Zh hop;obtain⟨W,hW⟩:=Ze (((w.alloc (.cells #[.slice a n c] 25)).alloc (.cells #[iv 3,iv i,iv k,iv j] NT)).alloc (.cells #[iv op,sv dn,.slice ua un uc,.slice ta tn tc] 94));have BW:=Zh (show Below q w W by rw[←hW,←hq];exact((Zb).alloc ZS _).alloc (by simp;omega) _);have HP:=Zh (show W.heap[q]? = some (.cells #[.slice a n c] 25 (0,0)) by rw[←hW,←hq];exact Qfa _ (Qfa _ (heap_alloc_new _ _)));have HNB:=Zh (show W.heap[q+1]? = some (.cells #[iv 3,iv i,iv k,iv j] NT (0,0)) by
  rw[←hW,←hq];have:=heap_alloc_new (w.alloc (.cells #[.slice a n c] 25)) (.cells #[iv 3,iv i,iv k,iv j] NT);rw[World.size_alloc] at this;exact Qfa _ this)
 have HSB:=Zh (show W.heap[q+1+1]? = some (.cells #[iv op,sv dn,.slice ua un uc,.slice ta tn tc] 94 (0,0)) by
  rw[←hW,←hq];have:=heap_alloc_new ((w.alloc (.cells #[.slice a n c] 25)).alloc (.cells #[iv 3,iv i,iv k,iv j] NT)) (.cells #[iv op,sv dn,.slice ua un uc,.slice ta tn tc] 94)
  rwa [World.size_alloc,World.size_alloc] at this)
 have HB:=Zh (h.below (hq.symm▸BW.o));have KE:=Zh (show Qbb z w W from Qbb.of (hq.symm▸BW.o) ZO);have BZ:=Zh b0;have HWW:=Zh hW;have HQ:=Zh hq;have hlk:=Zh (show ∀m,(Instr.lookup 156 (.map (some mb)) (.agg #[iv 3,iv i,iv k,iv j]) false).run Tryz.prog (W.drewN m)=.ok (.int .i64 (numN N ⟨3,i,k,j⟩)) (W.drewN m) from fun m=>by
  obtain⟨S,P,hB,-⟩:=HB.o;exact(hB.keep (w':=W.drewN m) fun _ _=>rfl).mp.look (x:=⟨3,i,k,j⟩) ⟨hfi 3 ZO ZO,hfi (i:Int) ZO ZO,hfi (k:Int) ZO ZO,hfi (j:Int) ZO ZO⟩)
 obtain⟨x3,hlt⟩:W.cell? ⟨bt,3,none⟩=some (.map (some mb))∧bt<W.heap.size:=by
  obtain⟨S,P,hB,-⟩:=HB.o;exact⟨(Qt hB.bl).2.2.2,Qb hB.bl⟩
 obtain⟨hh,hhh⟩:∃m:Nat,numT N ⟨3,i,k,j⟩=m:=⟨_,rfl⟩;have HH:=Zh hhh;have hhl:hh<N.length:=hhh▸(QEc n3).1;rw[show numN N ⟨3,i,k,j⟩=(hh:Int) by rw[QLc,hhh]] at hlk;have KAT:=Zh (fun (E':List (Nat×Nat)) (x:World) (hB:BldE z bt sb pb mb nv N E' x) a b c d hf=>Qfp hB a b c d hf);have KED:=Zh (fun (E':List (Nat×Nat)) (x:World) (hB:BldE z bt sb pb mb nv N E' x) a b ha hb=>QWm hbs hN256 hB a b ha hb);have HFW:=Zh hfew;have HF16:=Zh hf16;have HN3:=Zh n3;obtain⟨nx,hnx⟩:∃m:Nat,numT N ⟨3,i,k,j+1⟩=m:=⟨_,rfl⟩;have HNX:=Zh hnx;have hk17:k≤16:=by omega
 have hj33:j≤32:=by omega
 have hi9:i≤8:=by omega
 have HST:=Zh (hc.stmt hat.fm hat.bm);obtain⟨nd,hnd⟩:∃x:Qx,(⟨3,i,k,j⟩:Qx)=x:=⟨_,rfl⟩;have HE7:=Zh (show op=7∨op=8→QU p nd=s.targets.map fun t=>(nd,⟨3,i,blkI f t,0⟩) from fun h=>by
  have h7:(Qec p nd).op=7∨(Qec p nd).op=8:=by rw[←hnd,HD.o,hop];exact h
  unfold QU;rw[if_neg (by rw[←hnd];show ¬((3:Int)=1);omega),if_pos (by rw[←hnd]),if_pos h7,←hnd,HD.o];dsimp only;rw[hat.fn])
 have HE9:=Zh (show op=9→QU p nd=[(nd,⟨2,i,-1,-1⟩)] from fun h=>by
  unfold QU;rw[if_neg (by rw[←hnd];show ¬((3:Int)=1);omega),if_pos (by rw[←hnd]),if_neg (by rw[←hnd,HD.o,hop];omega),if_pos (by rw[←hnd,HD.o,hop];exact h),←hnd])
 have HE3:=Zh (show op=3→QU p nd=[(nd,⟨1,fnI p (tgt s),-1,-1⟩),(⟨2,fnI p (tgt s),-1,-1⟩,⟨4,i,k,j⟩),(⟨4,i,k,j⟩,⟨3,i,k,j+1⟩)] from fun h=>by
  unfold QU;rw[if_neg (by rw[←hnd];show ¬((3:Int)=1);omega),if_pos (by rw[←hnd]),if_neg (by rw[←hnd,HD.o,hop];omega),if_neg (by rw[←hnd,HD.o,hop];omega),if_pos (by rw[←hnd,HD.o,hop];exact h),←hnd,HD.o])
 have HE0:=Zh (show op≠7→op≠8→op≠9→op≠3→QU p nd=[(nd,⟨3,i,k,j+1⟩)] from fun h1 h2 h3 h4=>by
  unfold QU;rw[if_neg (by rw[←hnd];show ¬((3:Int)=1);omega),if_pos (by rw[←hnd]),if_neg (by rw[←hnd,HD.o,hop];omega),if_neg (by rw[←hnd,HD.o,hop];omega),if_neg (by rw[←hnd,HD.o,hop];omega),←hnd])
 have HCAL:=Zh (show op=3→∃g:Nat,fnI p (tgt s)=g∧g<n∧∃tl,s.targets=tgt s::tl from fun h=>by
  obtain⟨g,f',h1,h2,-⟩:=hc.callee hat (by rw[hop];exact h);obtain⟨t0,h3⟩:=QZi ((hc.stmt hat.fm hat.bm).2 s hat.sm) (by rw[hop];exact h);exact⟨g,h1,by have:=(List.getElem?_eq_some_iff.1 h2).1;omega,[],by unfold tgt;rw[h3];rfl⟩)
 rw[hnd] at HED HH HN3 ⊢;have HND:=Zh hnd;have HSB2:=Zh (HST.o.2 s hat.sm);clear b0 h hp ht htc htn hc hfew hW hhh hl hat hf16 hb32 n3 hfi hN hnx HST hop hdn hnd;obtain⟨d0,d1,d2,d3⟩:=Qt HNB.o;go_enter Tryz.func101,Tryz.ntmps101;go_upto_region 1 with(fail)
 rw[show((w.alloc (.cells #[.slice a n c] 25)).alloc (.cells #[iv 3,iv i,iv k,iv j] NT)).alloc (.cells #[iv op,sv dn,.slice ua un uc,.slice ta tn tc] 94)=W from HWW.o]
 try rw[hq]
 have hl1:(Instr.lookup 156 (.map (some mb)) (.agg #[iv 3,iv i,iv k,iv j]) false).run Tryz.prog W.drew=.ok (.int .i64 (hh:Int)) W.drew:=hlk.o 1;go_region;obtain⟨W1,hW1⟩:=Ze W.drew;have HB1:=Zh (show BldE z bt sb pb mb nv N E W1 by
  obtain⟨S,P,h1,h2⟩:=HB.o;exact⟨S,P,h1.keep fun k _=>by rw[←hW1];rfl,h2⟩)
 have HP1:=Zh (show W1.heap[q]? = some (.cells #[.slice a n c] 25 (0,0)) from hW1▸HP.o);have HNB1:=Zh (show W1.heap[q+1]? = some (.cells #[iv 3,iv i,iv k,iv j] NT (0,0)) from hW1▸HNB.o);have HSB1:=Zh (show W1.heap[q+1+1]? = some (.cells #[iv op,sv dn,.slice ua un uc,.slice ta tn tc] 94 (0,0)) from hW1▸HSB.o);have KE1:=Zh (show Qbb z w W1 by rw[←hW1];exact KE.o.trans ⟨Qp ((Below.refl _ _).mono (by have:=BW.o.size;have:=HQ.o;omega)) 1,fun _ _ _=>Qf.drewN⟩);rw[hW1];clear hW1 hl1 d0 d1 d2 d3 x3 hlt;obtain⟨d0,d1,d2,d3⟩:=Qt HNB1.o;have KA1:=Zh (KAT.o E W1 HB1.o 3 i k (j+1) ⟨HFIT.o 3 ZO ZO,HFIT.o (i:Int) ZO ZO,HFIT.o (k:Int) ZO ZO,HFIT.o ((j:Int)+1) ZO ZO⟩);rw[show numN N ⟨3,i,k,(j:Int)+1⟩=(nx:Int) by rw[QLc,←HNX.o]] at KA1;go_wp2_with fail;refine KA1.o.mono ?_;rintro e w2 ⟨rfl,rfl⟩;obtain⟨s0,s1,s2,s3⟩:=Qt HSB1.o;have x0:=(Qd HP1.o).1 0;simp at x0;clear KA1;have BZ1:=Zh (BZ.o.trans KE1.o.below);have BZ1zw:z≤w2.heap.size:=by have:=BZ1.o.size;omega
 by_cases h7:op=7
 ·have HEE:=Zh (HE7.o ZO);obtain⟨Ta,hTa⟩:=Ze s.targets;rw[hTa] at HEE HTC HTN;subst h7;clear hTa;go_wp2;clear s0 s1 s2 s3 d0 d1 d2 d3 x0;go_loopw [41] (fun y wr=>∃m:Nat,m≤tn∧y=.int .i64 m∧Hid (BldE z bt sb pb mb nv N (E++(Ta.take m).map (fun t=>numE N (nd,⟨3,i,blkI f t,0⟩))) wr)∧Hid (Qbb z w2 wr)) (fun y _=>tn-(intOf y).toNat)
  case atStart=>exact⟨0,Nat.zero_le _,rfl,by unfold Hid;simpa using HB1.o,Qbb.refl z w2 BZ1zw⟩
  case round=>
   obtain⟨m,hm,rfl,HBm,HKm⟩:=hrel;by_cases hlt:m<tn
   ·obtain⟨t,ht⟩:∃t,Ta[m]? = some t:=⟨_,List.getElem?_eq_getElem (by rw[HTN.o];exact hlt)⟩;obtain⟨b1,o1,rfl,hb1,g1⟩:=HTC.o m t ht;have BZm:=Zh (BZ1.o.trans HKm.o.below);have g1:=(BZm.o.cell (p:=⟨b1,o1+m,none⟩) (by show b1<z;omega)).trans g1;have HPm:=Zh ((HKm.o.same _ ZD ZD).own HP1.o);have HNm:=Zh ((HKm.o.same _ ZD ZD).own HNB1.o);obtain⟨d0,d1,d2,d3⟩:=Qt HNm.o;have x0:=(Qd HPm.o).1 0;simp at x0;have KF:=Zh (HFI.o _ wr BZm.o HBm.o t);obtain⟨x,hx⟩:∃m:Nat,numT N ⟨3,i,blkI f t,0⟩=m:=⟨_,rfl⟩;have hxl:x<N.length:=hx▸(QEc (HED.o nd ⟨3,i,blkI f t,0⟩ (by rw[HEE.o];exact List.mem_map.2 ⟨t,List.mem_of_getElem? ht,rfl⟩)).2).1;rw[show numN N ⟨3,i,idxI (QPb f) t,0⟩=(x:Int) by rw[QLc];show((numT N ⟨3,i,blkI f t,0⟩:Nat):Int)=_;rw[hx]] at KF;have HSN:=Zh (show(Ta.take (m+1)).map (fun t=>numE N (nd,⟨3,i,blkI f t,0⟩))=(Ta.take m).map (fun t=>numE N (nd,⟨3,i,blkI f t,0⟩))++[(hh,x)] by rw[List.take_add_one,ht,List.map_append];simp[numE,HH.o,hx]);have zm:z≤wr.heap.size:=by have:=BZm.o.size;omega
    clear ht hx;go_wp2_with fail;refine KF.o.mono ?_;rintro e w3 ⟨rfl,b3⟩;have KE:=Zh (KED.o _ w3 (HBm.o.below b3) hh x hhl hxl);have K3:=Zh (HKm.o.trans (Qbb.of b3 zm));clear b3 d0 d1 d2 d3 x0 g1 KF;go_wp2_with fail;refine KE.o.mono ?_;rintro e w4 ⟨rfl,hb4,k4⟩;have HB4:=Zh (show BldE z bt sb pb mb nv N (E++(Ta.take (m+1)).map (fun t=>numE N (nd,⟨3,i,blkI f t,0⟩))) w4 by rw[HSN.o,←List.append_assoc];exact hb4);have K4:=Zh (K3.o.trans k4);clear hb4 k4 KE;go_wp2;go_roundw
    case rel=>exact⟨m+1,by omega,by go_num,HB4,K4⟩
    case measure=>simp[intOf];omega
   ·have HFIN:=Zh (show BldE z bt sb pb mb nv N (E++(QU p nd).map (numE N)) wr by
     rw[HEE.o,List.map_map,←show Ta.take m=Ta from List.take_of_length_le (by rw[HTN.o];omega)];exact HBm.o)
    have KFIN:=Zh (KE1.o.trans HKm.o);go_wp2;exact bodyPost_end (v:=.tuple #[]) (by simp[results,Tryz.results101,go_sem]) rfl ⟨rfl,HFIN.o,KFIN.o⟩
 by_cases h8:op=8
 ·have HEE:=Zh (HE7.o ZO);obtain⟨Ta,hTa⟩:=Ze s.targets;rw[hTa] at HEE HTC HTN;subst h8;clear hTa;go_wp2;clear s0 s1 s2 s3 d0 d1 d2 d3 x0;go_loopw [41] (fun y wr=>∃m:Nat,m≤tn∧y=.int .i64 m∧Hid (BldE z bt sb pb mb nv N (E++(Ta.take m).map (fun t=>numE N (nd,⟨3,i,blkI f t,0⟩))) wr)∧Hid (Qbb z w2 wr)) (fun y _=>tn-(intOf y).toNat)
  case atStart=>exact⟨0,Nat.zero_le _,rfl,by unfold Hid;simpa using HB1.o,Qbb.refl z w2 BZ1zw⟩
  case round=>
   obtain⟨m,hm,rfl,HBm,HKm⟩:=hrel;by_cases hlt:m<tn
   ·obtain⟨t,ht⟩:∃t,Ta[m]? = some t:=⟨_,List.getElem?_eq_getElem (by rw[HTN.o];exact hlt)⟩;obtain⟨b1,o1,rfl,hb1,g1⟩:=HTC.o m t ht;have BZm:=Zh (BZ1.o.trans HKm.o.below);have g1:=(BZm.o.cell (p:=⟨b1,o1+m,none⟩) (by show b1<z;omega)).trans g1;have HPm:=Zh ((HKm.o.same _ ZD ZD).own HP1.o);have HNm:=Zh ((HKm.o.same _ ZD ZD).own HNB1.o);obtain⟨d0,d1,d2,d3⟩:=Qt HNm.o;have x0:=(Qd HPm.o).1 0;simp at x0;have KF:=Zh (HFI.o _ wr BZm.o HBm.o t);obtain⟨x,hx⟩:∃m:Nat,numT N ⟨3,i,blkI f t,0⟩=m:=⟨_,rfl⟩;have hxl:x<N.length:=hx▸(QEc (HED.o nd ⟨3,i,blkI f t,0⟩ (by rw[HEE.o];exact List.mem_map.2 ⟨t,List.mem_of_getElem? ht,rfl⟩)).2).1;rw[show numN N ⟨3,i,idxI (QPb f) t,0⟩=(x:Int) by rw[QLc];show((numT N ⟨3,i,blkI f t,0⟩:Nat):Int)=_;rw[hx]] at KF;have HSN:=Zh (show(Ta.take (m+1)).map (fun t=>numE N (nd,⟨3,i,blkI f t,0⟩))=(Ta.take m).map (fun t=>numE N (nd,⟨3,i,blkI f t,0⟩))++[(hh,x)] by rw[List.take_add_one,ht,List.map_append];simp[numE,HH.o,hx]);have zm:z≤wr.heap.size:=by have:=BZm.o.size;omega
    clear ht hx;go_wp2_with fail;refine KF.o.mono ?_;rintro e w3 ⟨rfl,b3⟩;have KE:=Zh (KED.o _ w3 (HBm.o.below b3) hh x hhl hxl);have K3:=Zh (HKm.o.trans (Qbb.of b3 zm));clear b3 d0 d1 d2 d3 x0 g1 KF;go_wp2_with fail;refine KE.o.mono ?_;rintro e w4 ⟨rfl,hb4,k4⟩;have HB4:=Zh (show BldE z bt sb pb mb nv N (E++(Ta.take (m+1)).map (fun t=>numE N (nd,⟨3,i,blkI f t,0⟩))) w4 by rw[HSN.o,←List.append_assoc];exact hb4);have K4:=Zh (K3.o.trans k4);clear hb4 k4 KE;go_wp2;go_roundw
    case rel=>exact⟨m+1,by omega,by go_num,HB4,K4⟩
    case measure=>simp[intOf];omega
   ·have HFIN:=Zh (show BldE z bt sb pb mb nv N (E++(QU p nd).map (numE N)) wr by
     rw[HEE.o,List.map_map,←show Ta.take m=Ta from List.take_of_length_le (by rw[HTN.o];omega)];exact HBm.o)
    have KFIN:=Zh (KE1.o.trans HKm.o);go_wp2;exact bodyPost_end (v:=.tuple #[]) (by simp[results,Tryz.results101,go_sem]) rfl ⟨rfl,HFIN.o,KFIN.o⟩
 by_cases h9:op=9
 ·have HEE:=Zh (HE9.o h9);obtain⟨ex,hex⟩:∃m:Nat,numT N ⟨2,i,-1,-1⟩=m:=⟨_,rfl⟩;have hel:ex<N.length:=hex▸(QEc (HED.o nd ⟨2,i,-1,-1⟩ (by rw[HEE.o];simp)).2).1;have KA:=Zh (KAT.o E w2 HB1.o 2 i (-1) (-1) ⟨HFIT.o 2 ZO ZO,HFIT.o (i:Int) ZO ZO,HFIT.o (-1) ZO ZO,HFIT.o (-1) ZO ZO⟩);rw[show numN N ⟨2,i,-1,-1⟩=(ex:Int) by rw[QLc,hex]] at KA;have HEL:=Zh (show(QU p nd).map (numE N)=[(hh,ex)] by rw[HEE.o];simp[numE,HH.o,hex]);have KE:=Zh (KED.o E w2 HB1.o hh ex hhl hel);clear hex;subst h9;go_wp2_with fail;refine KA.o.mono ?_;rintro e w3 ⟨rfl,rfl⟩;go_wp2_with fail;refine KE.o.mono ?_;rintro e w4 ⟨rfl,hb4,k4⟩;have HFIN:=Zh (show BldE z bt sb pb mb nv N (E++(QU p nd).map (numE N)) w4 by rw[HEL.o];exact hb4);have KFIN:=Zh (KE1.o.trans k4);clear hb4 k4;go_wp2;exact bodyPost_end (v:=.tuple #[]) (by simp[results,Tryz.results101,go_sem]) rfl ⟨rfl,HFIN.o,KFIN.o⟩
 by_cases h3:op=3
 ·have HEE:=Zh (HE3.o h3);obtain⟨g,hg,hgn,tl,htl⟩:=HCAL.o h3;rw[hg] at HEE;have KI:=Zh (QHm p (.slice a n c) (tgt s) (q+1+1) w2 (HPP.o.keep (Qf.below (hz▸BZ1.o)) (Qf.below (hz▸BZ1.o)) (Qf.below (hz▸BZ1.o)) (Qf.below (hz▸BZ1.o))) op dn (.slice ua un uc) (.slice ta tn tc) HSB1.o tl (htl▸HTT.o.same (Qf.below (hz▸BZ1.o))));rw[show idxI (p.map Qo.name) (tgt s)=(g:Int) from hg] at KI;have hg8:g≤8:=by have:=HFW.o.1;omega
  obtain⟨e1,he1⟩:∃m:Nat,numT N ⟨1,g,-1,-1⟩=m:=⟨_,rfl⟩;obtain⟨e2,he2⟩:∃m:Nat,numT N ⟨2,g,-1,-1⟩=m:=⟨_,rfl⟩;obtain⟨rt,hrt⟩:∃m:Nat,numT N ⟨4,i,k,j⟩=m:=⟨_,rfl⟩;have l1:e1<N.length:=he1▸(QEc (HED.o nd ⟨1,g,-1,-1⟩ (by rw[HEE.o];simp)).2).1;have l2:e2<N.length:=he2▸(QEc (HED.o ⟨2,g,-1,-1⟩ ⟨4,i,k,j⟩ (by rw[HEE.o];simp)).1).1;have lr:rt<N.length:=hrt▸(QEc (HED.o ⟨2,g,-1,-1⟩ ⟨4,i,k,j⟩ (by rw[HEE.o];simp)).2).1;have ln:nx<N.length:=HNX.o▸(QEc (HED.o ⟨4,i,k,j⟩ ⟨3,i,k,j+1⟩ (by rw[HEE.o];simp)).2).1;have HEL:=Zh (show(QU p nd).map (numE N)=[(hh,e1),(e2,rt),(rt,nx)] by rw[HEE.o];simp[numE,HH.o,he1,he2,hrt,HNX.o]);have HN1:=Zh (show numN N ⟨1,g,-1,-1⟩=(e1:Int) by rw[QLc,he1]);have HN2:=Zh (show numN N ⟨2,g,-1,-1⟩=(e2:Int) by rw[QLc,he2]);have HN4:=Zh (show numN N ⟨4,i,k,j⟩=(rt:Int) by rw[QLc,hrt]);clear he1 he2 hrt hg htl;subst h3;go_wp2_with fail;refine KI.o.mono ?_;rintro e w3 ⟨rfl,b3⟩;have HB3:=Zh (HB1.o.below b3);have HNB3:=Zh (Qc HNB1.o b3 (Qb HNB1.o));have K3:=Zh (Qbb.of (z:=z) b3 BZ1zw);have KA:=Zh (KAT.o E w3 HB3.o 4 i k j ⟨HFIT.o 4 ZO ZO,HFIT.o (i:Int) ZO ZO,HFIT.o (k:Int) ZO ZO,HFIT.o (j:Int) ZO ZO⟩);rw[HN4.o] at KA;clear b3 d0 d1 d2 d3 s0 s1 s2 s3 x0 KI;obtain⟨d0,d1,d2,d3⟩:=Qt HNB3.o;go_wp2_with fail;refine KA.o.mono ?_;rintro e w4 ⟨rfl,rfl⟩;have KA2:=Zh (KAT.o E w4 HB3.o 1 g (-1) (-1) ⟨HFIT.o 1 ZO ZO,HFIT.o (g:Int) ZO ZO,HFIT.o (-1) ZO ZO,HFIT.o (-1) ZO ZO⟩);rw[HN1.o] at KA2;clear KA d0 d1 d2 d3;go_wp2_with fail;refine KA2.o.mono ?_;rintro e w5 ⟨rfl,rfl⟩;have KE:=Zh (KED.o E w5 HB3.o hh e1 hhl l1);clear KA2;go_wp2_with fail;refine KE.o.mono ?_;rintro e w6 ⟨rfl,hb6,k6⟩;have HB6:=Zh hb6;have K6:=Zh (K3.o.trans k6);clear hb6 k6 KE;have KA2:=Zh (KAT.o _ w6 HB6.o 2 g (-1) (-1) ⟨HFIT.o 2 ZO ZO,HFIT.o (g:Int) ZO ZO,HFIT.o (-1) ZO ZO,HFIT.o (-1) ZO ZO⟩);rw[HN2.o] at KA2;go_wp2_with fail;refine KA2.o.mono ?_;rintro e w7 ⟨rfl,rfl⟩;have KE:=Zh (KED.o _ w7 HB6.o e2 rt l2 lr);clear KA2;go_wp2_with fail;refine KE.o.mono ?_;rintro e w8 ⟨rfl,hb8,k8⟩;have HB8:=Zh hb8;have K8:=Zh (K6.o.trans k8);clear hb8 k8 KE;have KE:=Zh (KED.o _ w8 HB8.o rt nx lr ln);go_wp2_with fail;refine KE.o.mono ?_;rintro e w9 ⟨rfl,hb9,k9⟩;have HFIN:=Zh (show BldE z bt sb pb mb nv N (E++(QU p nd).map (numE N)) w9 by rw[HEL.o];simpa using hb9);have KFIN:=Zh (KE1.o.trans (K8.o.trans k9));clear hb9 k9 KE;go_wp2;exact bodyPost_end (v:=.tuple #[]) (by simp[results,Tryz.results101,go_sem]) rfl ⟨rfl,HFIN.o,KFIN.o⟩
 ·have HEE:=Zh (HE0.o h7 h8 h9 h3);have ln:nx<N.length:=HNX.o▸(QEc (HED.o nd ⟨3,i,k,j+1⟩ (by rw[HEE.o];simp)).2).1;have HEL:=Zh (show(QU p nd).map (numE N)=[(hh,nx)] by rw[HEE.o];simp[numE,HH.o,HNX.o]);have KE:=Zh (KED.o E w2 HB1.o hh nx hhl ln);have t7:(op==7)=false:=by simpa using h7
  have t8:(op==8)=false:=by simpa using h8
  have t9:(op==9)=false:=by simpa using h9
  have t3:(op==3)=false:=by simpa using h3
  clear h7 h8 h9 h3;go_wp2_with fail;refine KE.o.mono ?_;rintro e w4 ⟨rfl,hb4,k4⟩;have HFIN:=Zh (show BldE z bt sb pb mb nv N (E++(QU p nd).map (numE N)) w4 by rw[HEL.o];exact hb4);have KFIN:=Zh (KE1.o.trans k4);clear hb4 k4;go_wp2;exact bodyPost_end (v:=.tuple #[]) (by simp[results,Tryz.results101,go_sem]) rfl ⟨rfl,HFIN.o,KFIN.o⟩
end
section
open Go.RowKit
variable [Base]
def QQd (l:List Int):List Int:=l.mergeSort fun x y=>decide (x≤y)
theorem Qqg (l:List Int):(QQd l).Perm l:=List.mergeSort_perm _ _
theorem QJh (l:List Int):(QQd l).length=l.length:=(Qqg l).length_eq
theorem Qmk {l:List Int}{x:Int}:x∈QQd l↔x∈l:=(Qqg l).mem_iff
theorem Qnk {l:List Int}(h:l.Nodup):Asc (QQd l):=by
 have h1:(QQd l).Pairwise (fun x y:Int=>decide (x≤y)=true):=List.pairwise_mergeSort (by intro a b c h1 h2;simp at *;omega) (by intro a b;simp;omega) l;have h2:(QQd l).Nodup:=(Qqg l).nodup_iff.2 h;unfold Asc;unfold List.Nodup at h2;exact(h1.and h2).imp fun {a b} h=>by
  have:=h.1;simp at this;have h3:=h.2;omega
def Qyu:Prop:=∀(z:Nat) (l:List Int) (v:Value) (w:World),z≤w.heap.size→l.length≤1000→w.ownsRow z IN 1 v l.length (l.map iv) →
 Calls Tryz.prog 102 #[v] w (fun e w'=>e=.returned (.tuple #[])∧w'.ownsRow z IN 1 v (QQd l).length ((QQd l).map iv)∧w.grownBy w' v.ownBlock)
theorem QQl {p:List Qo}(hck:QFa p=0){S P:List (List Int)}(hg:GrE (QB p 0).length ((Qva p (QB p 0)).map (numE (QB p 0))) S P):S.map QQd=Qkc p∧P.map QQd=Qmc p:=by
 have hN:=Qne hck;have hnd:(QB p 0).Nodup:=QIe p 0;have hc:=Qzb hck;have key:∀i j:Nat,i<(QB p 0).length→j<(QB p 0).length→((i,j)∈(Qva p (QB p 0)).map (numE (QB p 0))↔Qve p (QB p 0) i j=true):=by
  intro i j hi hj;have ni:(QB p 0)[i]? = some ((QB p 0)[i]):=List.getElem?_eq_getElem hi;have nj:(QB p 0)[j]? = some ((QB p 0)[j]):=List.getElem?_eq_getElem hj;have num:∀{k:Nat} {x:Qx},(QB p 0)[k]? = some x→numT (QB p 0) x=k:=fun {k x} hx=>by
   have hm:=List.mem_of_getElem? hx;unfold numT numN;rw[if_pos hm,QBg hnd hx];simp
  constructor
  ·intro h;obtain⟨⟨x,y⟩,hxy,e⟩:=List.mem_map.1 h;obtain⟨h1,h2⟩:=(Qsh hc x y).1 hxy;have h3:=Qum hc h1 h2;unfold numE at e;injection e with e1 e2
   have f1:=(QEc h1).2;have f2:=(QEc h3).2;simp only at e1 e2;rw[e1] at f1;rw[e2] at f2;unfold Qve;rw[f1,f2]
   simpa using h2
  ·intro h;unfold Qve at h;rw[ni,nj] at h;have h2:(QB p 0)[j]∈Qmd p (QB p 0) ((QB p 0)[i]):=by simpa using h
   exact List.mem_map.2 ⟨((QB p 0)[i],(QB p 0)[j]),(Qsh hc _ _).2 ⟨List.mem_of_getElem? ni,h2⟩,by unfold numE;rw[num ni,num nj]⟩
 refine⟨List.ext_getElem? fun i=>?_,List.ext_getElem? fun j=>?_⟩
 ·unfold Qkc;rw[List.getElem?_map,List.getElem?_map,hN];rcases Nat.lt_or_ge i (QB p 0).length with hi|hi
  ·obtain⟨r,hr⟩:∃r,S[i]? = some r:=⟨_,List.getElem?_eq_getElem (by rw[hg.sl];exact hi)⟩;rw[hr,List.getElem?_range hi];simp only[Option.map_some]
   congr 1
   obtain⟨h1,h2⟩:=hg.sn i r hr;refine QIi (Qnk h1) (by unfold QLl;exact Qzh _ _) fun x=>?_
   rw[Qmk,h2 x];unfold QLl;rw[hN,Qih];constructor
   ·rintro⟨j,e,m⟩;have hj:=(hg.rng _ m).2;exact⟨j,e,hj,(key i j hi hj).1 m⟩
   ·rintro⟨j,e,hj,m⟩;exact⟨j,e,(key i j hi hj).2 m⟩
  ·rw[List.getElem?_eq_none (by rw[hg.sl];exact hi),List.getElem?_eq_none (by simpa using hi)];rfl
 ·unfold Qmc;rw[List.getElem?_map,List.getElem?_map,hN];rcases Nat.lt_or_ge j (QB p 0).length with hj|hj
  ·obtain⟨r,hr⟩:∃r,P[j]? = some r:=⟨_,List.getElem?_eq_getElem (by rw[hg.pl];exact hj)⟩;rw[hr,List.getElem?_range hj];simp only[Option.map_some]
   congr 1
   obtain⟨h1,h2⟩:=hg.pn j r hr;refine QIi (Qnk h1) (by unfold Qgm;exact Qzh _ _) fun x=>?_
   rw[Qmk,h2 x];unfold Qgm;rw[hN,Qih];constructor
   ·rintro⟨i,e,m⟩;have hi:=(hg.rng _ m).1;exact⟨i,e,hi,(key i j hi hj).1 m⟩
   ·rintro⟨i,e,hi,m⟩;exact⟨i,e,(key i j hi hj).2 m⟩
  ·rw[List.getElem?_eq_none (by rw[hg.pl];exact hj),List.getElem?_eq_none (by simpa using hj)];rfl
def QAe (k:Nat)(S T:List (List Int)):Prop:=T.length=S.length∧∀i,T[i]? = if i<k then (S[i]?).map QQd else S[i]?
theorem QAe.zero (S:List (List Int)):QAe 0 S S:=⟨rfl,fun i=>by simp⟩
theorem QAe.step {k:Nat}{S T:List (List Int)}{r:List Int}(h:QAe k S T)(hr:T[k]? = some r):S[k]? = some r∧QAe (k+1) S (T.set k (QQd r)):=by
 have h0:S[k]? = some r:=by have:=h.2 k;rw[if_neg ZO] at this;rw[←this];exact hr
 refine⟨h0,by simpa using h.1,fun i=>?_⟩;by_cases e:k=i
 ·subst e;rw[List.getElem?_set_self (List.getElem?_eq_some_iff.1 hr).1,if_pos ZO,h0];rfl
 ·rw[List.getElem?_set_ne e,h.2 i];by_cases e2:i<k
  ·rw[if_pos e2,if_pos ZO]
  ·rw[if_neg e2,if_neg ZO]
theorem QAe.all {k:Nat}{S T:List (List Int)}(h:QAe k S T)(hk:S.length≤k):T=S.map QQd:=by
 refine List.ext_getElem? fun i=>?_
 rw[h.2 i,List.getElem?_map];by_cases e:i<k
 ·rw[if_pos e]
 ·rw[if_neg e,List.getElem?_eq_none ZO];rfl
theorem QRd.put {z:Nat}{w w5:World}{vs:List Value}{R:List (List Int)}{i:Nat}{v:Value}{r r':List Int}(h:QRd z w vs R)(hv:vs[i]? = some v)(hr:R[i]? = some r)(ho:w5.ownsRow z IN 1 v r'.length (r'.map iv))(hg:w.grownBy w5 v.ownBlock):QRd z w5 vs (R.set i r'):=by
 have hi:i<vs.length:=(List.getElem?_eq_some_iff.1 hv).1;refine⟨by simp[h.len],fun j u s hu hs=>?_,h.apart⟩;by_cases hij:i=j
 ·subst hij;rw[List.getElem?_set_self (by rw[←h.len];exact hi)] at hs;rw[hv] at hu;injection hu with hu
  injection hs with hs
  subst hu hs;exact ho
 ·rw[List.getElem?_set_ne hij] at hs;refine Qnj (h.own j u s hu hs) fun b c fr hb _=>hg.block b (QZn (h.own j u s hu hs) hb).1 ?_
  intro e;exact h.apart i j v u b hij hv hu e.symm hb
theorem Bld.put {z bt sb pb mb:Nat}{nv:Value}{N:List Qx}{S P:List (List Int)}{w:World}(hbs:Base.b≤z)(h:Bld z bt sb pb mb nv N S P w)(hz:z≤w.heap.size){a:Nat}(ha:a<N.length):
  (∃v r,S[a]? = some r∧w.cell? ⟨sb,a,none⟩=some v∧w.ownsRow z IN 1 v r.length (r.map iv)∧∀r' w5,w5.ownsRow z IN 1 v r'.length (r'.map iv)→w.grownBy w5 v.ownBlock→Bld z bt sb pb mb nv N (S.set a r') P w5∧Qbb z w w5) ∧
  (∃v r,P[a]? = some r∧w.cell? ⟨pb,a,none⟩=some v∧w.ownsRow z IN 1 v r.length (r.map iv)∧∀r' w5,w5.ownsRow z IN 1 v r'.length (r'.map iv)→w.grownBy w5 v.ownBlock→Bld z bt sb pb mb nv N S (P.set a r') w5∧Qbb z w w5):=by
 obtain⟨vs,us,h1,h2,h3,h4,h5,h6⟩:=h.rows;have h7:P.length=N.length:=by have:=h6.len;simp at this;omega
 have go:∀(i:Nat) (v:Value) (r r':List Int) (w5:World),(vs++us)[i]? = some v→(S++P)[i]? = some r→w5.ownsRow z IN 1 v r'.length (r'.map iv)→w.grownBy w5 v.ownBlock →
   w5.heap[bt]? = w.heap[bt]?∧w5.heap[sb]? = w.heap[sb]?∧w5.heap[pb]? = w.heap[pb]?∧NumM w5 mb N.length N∧QRd z w5 (vs++us) ((S++P).set i r')∧Qbb z w w5:=fun i v r r' w5 hv hr ho hg=>by
  have own:=h6.own i v r hv hr;obtain⟨es,c0,hm⟩:=h.mp.isMap;exact⟨hg.block _ (Qb h.bl) (Qdb own h.bl (QPf ZD)),hg.block _ (Qb h1) (Qdb own h1 (QPf ZD)),hg.block _ (Qb h2) (Qdb own h2 (QPf ZD)),h.mp.block (hg.block _ (Qb hm) (Qdb own hm (by intro c fr e;cases e))),h6.put hv hr ho hg,Below.of_grown hg own hz,fun T _ hT=>Qf.grown hg own hT hbs⟩
 constructor
 ·obtain⟨v,hv⟩:∃v,vs[a]? = some v:=⟨_,List.getElem?_eq_getElem (by rw[h3];exact ha)⟩;obtain⟨r,hr⟩:∃r,S[a]? = some r:=⟨_,List.getElem?_eq_getElem (by rw[h5];exact ha)⟩;have hv2:(vs++us)[a]? = some v:=by rw[List.getElem?_append_left (by rw[h3];exact ha)];exact hv
  have hr2:(S++P)[a]? = some r:=by rw[List.getElem?_append_left (by rw[h5];exact ha)];exact hr
  refine⟨v,r,hr,?_,h6.own a v r hv2 hr2,fun r' w5 ho hg=>?_⟩
  ·have:=(Qd h1).1 a;rw[this]
   simpa using hv
  ·obtain⟨k1,k2,k3,k4,k5,k6⟩:=go a v r r' w5 hv2 hr2 ho hg;rw[List.set_append_left _ _ (by rw[h5];exact ha)] at k5;exact⟨⟨h.zs,k1.trans h.bl,k4,h.ne,vs,us,k2.trans h1,k3.trans h2,h3,h4,by simpa using h5,k5⟩,k6⟩
 ·obtain⟨v,hv⟩:∃v,us[a]? = some v:=⟨_,List.getElem?_eq_getElem (by rw[h4];exact ha)⟩;obtain⟨r,hr⟩:∃r,P[a]? = some r:=⟨_,List.getElem?_eq_getElem (by rw[h7];exact ha)⟩;have hv2:(vs++us)[N.length+a]? = some v:=by rw[List.getElem?_append_right ZO,h3,Nat.add_sub_cancel_left];exact hv
  have hr2:(S++P)[N.length+a]? = some r:=by rw[List.getElem?_append_right ZO,h5,Nat.add_sub_cancel_left];exact hr
  refine⟨v,r,hr,?_,h6.own _ v r hv2 hr2,fun r' w5 ho hg=>?_⟩
  ·have:=(Qd h2).1 a;rw[this]
   simpa using hv
  ·obtain⟨k1,k2,k3,k4,k5,k6⟩:=go _ v r r' w5 hv2 hr2 ho hg;rw[List.set_append_right _ _ ZO,h5,Nat.add_sub_cancel_left] at k5;exact⟨⟨h.zs,k1.trans h.bl,k4,h.ne,vs,us,k2.trans h1,k3.trans h2,h3,h4,h5,k5⟩,k6⟩
def Qqc:Qlg (List Int) where
 T:=IT
 sz:=1
 pos:=by omega
 C:=fun w cs l=>∃u,cs=[u]∧QJa w u l
 inner:=[IN]
 len:=fun {w cs x} h=>by obtain⟨u,rfl,-⟩:=h;rfl
 keep:=fun {w w' cs x} hs h=>by
  obtain⟨u,rfl,h⟩:=h
  exact⟨u,rfl,h.same (hs IN ZS)⟩
theorem Qmf:∀vs:List Value,(vs.map fun v=>[v]).flatten=vs
|[]=>rfl
|x::r=>by
  have:=Qmf r
  simp only[List.map_cons,List.flatten_cons,this]
  rfl
theorem Qsp {z b n:Nat}{w:World}{vs:List Value}{R:List (List Int)}(hb:w.heap[b]? = some (.cells vs.toArray IT (0,0)))(hn:vs.length=n)(hm:n≤maxLen)(h:∀(i:Nat) (v:Value) (r:List Int),vs[i]? = some v→R[i]? = some r→w.ownsRow z IN 1 v r.length (r.map iv))(hl:vs.length=R.length):Qoa Qqc w (.slice (some ⟨b,0,none⟩) n n) R:=by
 refine⟨vs.map fun v=>[v],⟨n,n,by rw[Qmf];simp[hn,Qqc],Nat.le_refl _,hm,.inr ⟨b,0,vs.toArray,(0,0),rfl,.of hb,fun i hi=>?_⟩⟩,?_⟩
 ·rw[Qmf];simp
 ·clear hb hn hm
  induction vs generalizing R with
 |nil=>cases R with|nil=>trivial|cons x r=>simp at hl
 |cons x r ih=>
   cases R with
  |nil=>simp at hl
  |cons q R=>
    refine⟨⟨x,rfl,Qg.of_owns (h 0 x q rfl rfl)⟩,ih (fun i v s hv hs=>h (i+1) v s (by simpa using hv) (by simpa using hs)) (by simpa using hl)⟩
end
end Go.Proofs.YtijekimobahgpaaGreatDoor
namespace Go.Proofs
open Go.Shelf
def Tryz.lays189_ren:Go.Shelf.Ren:=⟨fun|189=>102|125=>166|257=>165|128=>206|129=>207|294=>197|295=>198|296=>199|297=>200|298=>201|299=>202|216=>203|300=>204|301=>205|328=>236|329=>237|330=>238|331=>239|332=>240|215=>226|343=>252|n=>n,fun|28=>22|3=>3|46=>140|0=>0|51=>253|53=>139|4=>4|183=>246|182=>245|131=>250|5=>5|9=>9|218=>269|222=>273|228=>281|229=>188|n=>n,fun|n=>n⟩
theorem Tryz.lays189:Go.Proofs.Lays.n189 Tryz.prog Tryz.lays189_ren:={
 mixed:=by kernel_rfl
 f125:=Tryz.func166.trans (congrArg some (by kernel_rfl))
 f128:=Tryz.func206.trans (congrArg some (by kernel_rfl))
 f129:=Tryz.func207.trans (congrArg some (by kernel_rfl))
 f189:=Tryz.func102.trans (congrArg some (by kernel_rfl))
 f215:=Tryz.func226.trans (congrArg some (by kernel_rfl))
 f216:=Tryz.func203.trans (congrArg some (by kernel_rfl))
 f257:=Tryz.func165.trans (congrArg some (by kernel_rfl))
 f294:=Tryz.func197.trans (congrArg some (by kernel_rfl))
 f295:=Tryz.func198.trans (congrArg some (by kernel_rfl))
 f296:=Tryz.func199.trans (congrArg some (by kernel_rfl))
 f297:=Tryz.func200.trans (congrArg some (by kernel_rfl))
 f298:=Tryz.func201.trans (congrArg some (by kernel_rfl))
 f299:=Tryz.func202.trans (congrArg some (by kernel_rfl))
 f300:=Tryz.func204.trans (congrArg some (by kernel_rfl))
 f301:=Tryz.func205.trans (congrArg some (by kernel_rfl))
 f328:=Tryz.func236.trans (congrArg some (by kernel_rfl))
 f329:=Tryz.func237.trans (congrArg some (by kernel_rfl))
 f330:=Tryz.func238.trans (congrArg some (by kernel_rfl))
 f331:=Tryz.func239.trans (congrArg some (by kernel_rfl))
 f332:=Tryz.func240.trans (congrArg some (by kernel_rfl))
 f343:=Tryz.func252.trans (congrArg some (by kernel_rfl))
 t0:=Tryz.underlying0
 a0:=Tryz.isAgg0
 z0:=Tryz.sizeOf0
 v0:=Tryz.zeroValue0
 t3:=Tryz.underlying3
 a3:=Tryz.isAgg3
 z3:=Tryz.sizeOf3
 v3:=Tryz.zeroValue3
 t4:=Tryz.underlying4
 a4:=Tryz.isAgg4
 z4:=Tryz.sizeOf4
 v4:=Tryz.zeroValue4
 t5:=Tryz.underlying5
 a5:=Tryz.isAgg5
 z5:=Tryz.sizeOf5
 v5:=Tryz.zeroValue5
 t9:=Tryz.underlying9
 a9:=Tryz.isAgg9
 z9:=Tryz.sizeOf9
 v9:=Tryz.zeroValue9
 t28:=Tryz.underlying22
 a28:=Tryz.isAgg22
 z28:=Tryz.sizeOf22
 v28:=Tryz.zeroValue22
 t46:=Tryz.underlying140
 a46:=Tryz.isAgg140
 z46:=Tryz.sizeOf140
 v46:=Tryz.zeroValue140
 t51:=Tryz.underlying253
 a51:=Tryz.isAgg253
 z51:=Tryz.sizeOf253
 v51:=Tryz.zeroValue253
 t53:=Tryz.underlying139
 a53:=Tryz.isAgg139
 z53:=Tryz.sizeOf139
 v53:=Tryz.zeroValue139
 t131:=Tryz.underlying250
 a131:=Tryz.isAgg250
 z131:=Tryz.sizeOf250
 v131:=Tryz.zeroValue250
 t182:=Tryz.underlying245
 a182:=Tryz.isAgg245
 z182:=Tryz.sizeOf245
 v182:=Tryz.zeroValue245
 t183:=Tryz.underlying246
 a183:=Tryz.isAgg246
 z183:=Tryz.sizeOf246
 v183:=Tryz.zeroValue246
 t218:=Tryz.underlying269
 a218:=Tryz.isAgg269
 z218:=Tryz.sizeOf269
 v218:=Tryz.zeroValue269
 t222:=Tryz.underlying273
 a222:=Tryz.isAgg273
 z222:=Tryz.sizeOf273
 v222:=Tryz.zeroValue273
 t228:=Tryz.underlying281
 a228:=Tryz.isAgg281
 z228:=Tryz.sizeOf281
 v228:=Tryz.zeroValue281
 t229:=Tryz.underlying188
 a229:=Tryz.isAgg188
 z229:=Tryz.sizeOf188
 v229:=Tryz.zeroValue188 }
open Go.Sort Go.RowKit in
theorem Tryz.slices_Sort_int (blk off cap:Nat)(zs:List Int)(w:World)(hH:Holds (Value.int .i64) w blk off zs.toArray)(hblk:blk<w.heap.size)(hsz:zs.length<4611686018427387904):
  Calls Tryz.prog 102 #[.slice (some ⟨blk,off,none⟩) zs.length cap] w fun e w'=>
   e=.returned (.tuple #[])∧∃n os,w'=grow (putRow (Value.int .i64) (Sort.ahead w n) blk off (zs.mergeSort fun x y=>decide (x≤y)).toArray) os:=Any.slices_Sort_int Tryz.lays189 blk off cap zs w hH hblk hsz
open Go.RowKit Go.Sort in
theorem Tryz.slices_Sort_int_none (p:Option Addr)(cap:Nat)(w:World):
  Calls Tryz.prog 102 #[.slice p 0 cap] w fun e w'=>e=.returned (.tuple #[])∧w'=w:=Any.slices_Sort_int_none Tryz.lays189 p cap w
end Go.Proofs
namespace Go.Proofs.YtijekimobahgpaaGreatDoor
section
open Go.RowKit
variable [Base]
theorem Qcr {w:World}{enc:Int→Value}{n g:Nat}{d:Array Int}{os:Array Obj}{cur:Array Value}{t:TypeId}{fr:Nat×Nat}(hg:w.heap[g]? = some (.cells cur t fr)):
  (Sort.grow (Sort.putRow enc (Sort.ahead w n) g 0 d) os).heap[g]? = some (.cells (Sort.putCells enc 0 d cur) t fr):=by
 have hlt:=Qb hg;rw[Sort.heap_grow_old _ _ (by simpa using hlt)];unfold Sort.putRow Sort.mapBlock;simp[Array.getElem?_modify,Sort.ahead,hg,Sort.onCells]
theorem QIo {w:World}{enc:Int→Value}{n g k:Nat}{d:Array Int}{os:Array Obj}(hk:k<w.heap.size)(hne:k≠g):
  (Sort.grow (Sort.putRow enc (Sort.ahead w n) g 0 d) os).heap[k]? = w.heap[k]?:=by
 rw[Sort.heap_grow_old _ _ (by simpa using hk)];unfold Sort.putRow Sort.mapBlock;simp[Array.getElem?_modify,Sort.ahead,Ne.symm hne]
theorem Qqt:Qyu:=by
 intro z l v w hz hl ho;obtain⟨h1,h2⟩:=ho;rcases h2 with⟨rfl,h0⟩|⟨g,cap,cur,rfl,hg,hh,hn,hc,hs,ht⟩
 ·have hl0:l=[]:=List.length_eq_zero_iff.1 h0;subst hl0;refine(Tryz.slices_Sort_int_none none 0 w).mono ?_;rintro e w' ⟨rfl,rfl⟩;exact⟨rfl,by simp[World.ownsRow,QQd],⟨rfl,rfl,rfl,Nat.le_refl _,fun _ _ _=>rfl⟩⟩
 ·rw[Nat.mul_one] at ht hs;have hlt:=Qb hh;have hcur:∀j (hj:j<l.length),cur[j]? = some (iv (l[j])):=fun j hj=>by
   have e:(cur.toList.take l.length)[j]? =(l.map iv)[j]?:=by rw[ht]
   rw[List.getElem?_take_of_lt hj] at e
   simpa [hj] using e
  have hH:Sort.Holds (Value.int .i64) w g 0 l.toArray:=fun j hj=>by
   have hj':j<l.length:=by simpa using hj
   refine⟨?_,by simp[World.frozen?,hh]⟩;simp only[Nat.zero_add,World.cell?,hh];simp[hcur j hj',hj']
  refine(Tryz.slices_Sort_int g 0 cap l w hH hlt ZO).mono ?_;rintro e w' ⟨rfl,n,os,rfl⟩;refine⟨rfl,⟨by simp,.inr ⟨g,cap,Sort.putCells (Value.int .i64) 0 (QQd l).toArray cur,by rw[QJh],hg,Qcr hh,by rw[QJh];exact hn,hc,by simp[Sort.putCells,hs],?_⟩⟩,?_⟩
  ·rw[Nat.mul_one];apply List.ext_getElem?;intro j;rw[List.getElem?_map];rcases Nat.lt_or_ge j (QQd l).length with hj|hj
   ·rw[List.getElem?_take_of_lt hj];have hjl:j<l.length:=by rw[←QJh l];exact hj
    have hjc:j<cur.size:=by omega
    simp[Sort.putCells,hjc,hj]
   ·rw[List.getElem?_eq_none (by rw[List.length_take];omega),List.getElem?_eq_none hj];rfl
  ·refine⟨rfl,rfl,rfl,by simp,fun k hk hne=>QIo hk fun e=>hne (by rw[e];rfl)⟩
end
end Go.Proofs.YtijekimobahgpaaGreatDoor
