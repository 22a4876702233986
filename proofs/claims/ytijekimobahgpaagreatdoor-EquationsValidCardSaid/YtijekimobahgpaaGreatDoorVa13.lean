/- A part of the proof. -/
import Derived.Test.YtijekimobahgpaaGreatDoorVa11
set_option linter.unusedVariables false
set_option linter.unusedSimpArgs false
set_option linter.unusedSectionVars false
set_option maxRecDepth 100000
set_option maxHeartbeats 16000000
namespace Go.Proofs.YtijekimobahgpaaGreatDoor
section
open Go.RowKit
variable [Base]
theorem int0 (n:Nat):(((n:Nat):Int)==0)=decide (n=0):=by
 rw[Bool.eq_iff_iff];simp
theorem Qfm {P:Program}{f:FuncId}{args:Array Value}{w:World}{a n:Nat}{v:Value}(h:Calls P f args (w.drewN (a+n)) fun e w'=>e=.returned v∧w'=w.drewN (a+n)):Calls P f args (w.drewN (a+n)) fun e w'=>e=.returned v∧∃m,w'=w.drewN (a+m):=
 h.mono fun _ _ hh=>⟨hh.1,n,hh.2⟩
theorem QYd {n:Int}{b:Bool}(h:QEa n=b)(w:World):Calls Tryz.prog 116 #[.int .i64 n] w fun e w'=>e=.returned (.bool b)∧w'=w:=h▸QYn n w
theorem QOj (s:QSet)(u:Value)(w:World)(h:Qi w u s.words):Calls Tryz.prog 90 #[setV s u] w (Qia (setB s) w):=by
 obtain⟨a,c,rfl,hm,hc,hcm,hk⟩:=h.cell;obtain⟨n,hn⟩:=Ze s.words.length;obtain⟨W,hW⟩:=Ze (w.alloc (.cells #[.int .i64 s.width,.slice a n c] 52));have B0:Below w.heap.size w W:=by rw[←hW];exact Zb
 have HB0:W.heap[w.heap.size]? = some (.cells #[.int .i64 s.width,.slice a n c] 52 (0,0)):=by rw[←hW];exact heap_alloc_new _ _
 have x0:=(Qa HB0).1 0;have x1:=(Qa HB0).1 1;simp at x0 x1;rw[hn] at hm hc ⊢;by_cases h1:QEa s.width=true
 ·have hr:0≤s.width∧s.width≤256:=by simpa [QEa] using h1
  obtain⟨hr0,hr1⟩:=hr;by_cases h2:QId s=true
  ·by_cases h3:s.width % 64=0
   ·have d2:((n:Int) !=(s.width+63) / 64)=false:=by simpa [QId,hn] using h2
    have hv:setB s=true:=by unfold setB Qli;rw[h1,h2];simp[h3]
    rw[hv];have HW:=Zh hW;have BB:=Zh B0;have ht:s.width.tmod 64=0:=by rw[Int.tmod_eq_emod_of_nonneg hr0];exact h3
    clear hW HB0 hk B0 h;go_enter Tryz.func90,Tryz.ntmps90;go_wp2_with fail;rw[show w.alloc (.cells #[.int .i64 s.width,.slice a n c] 52)=W from HW.o];go_quiet (first|(go_at_call 116;exact Calls.quiet_of_same (QYd h1 _))|(go_at_call 117;exact Calls.quiet_of_same (QLf s.width hr0 hr1 _)));go_wp2;go_quiet (fail);go_wp2;go_ret;exact⟨rfl,BB.o.trans (Qp (Qp (Below.refl _ _) _) _)⟩
   ·have d2:((n:Int) !=(s.width+63) / 64)=false:=by simpa [QId,hn] using h2
    have he:(n:Int)=(s.width+63) / 64:=by simpa [QId,hn] using h2
    have hpos:0<n:=by omega
    obtain⟨x,hx⟩:∃x,s.words[n-1]? = some x:=⟨s.words[n-1],List.getElem?_eq_getElem ZO⟩;obtain⟨b,off,rfl,hb,-,hcell⟩:=hk (n-1) x hx;have hxl:x<18446744073709551616:=h.2 x (List.mem_of_getElem? hx);have hlast:s.words.getLastD 0=x:=by
     rw[List.getLastD_eq_getLast?,List.getLast?_eq_getElem?,hn,hx];rfl
    have hr:(s.width % 64).toNat<64:=by omega
    have hand:bits .and .u64 (x:Int) ((18446744073709551616-2 ^ (s.width % 64).toNat:Nat):Int)=((x &&& (18446744073709551616-2 ^ (s.width % 64).toNat):Nat):Int):=QBl _ _ hxl (by have:=Nat.two_pow_pos (s.width % 64).toNat;omega);obtain⟨V,hV⟩:∃V:Nat,18446744073709551616-2 ^ (s.width % 64).toNat=V:=⟨_,rfl⟩;have hv:setB s=decide ((x &&& V:Nat)=0):=by
     unfold setB Qli;rw[h1,h2,hlast,←hV];simp only[h3,decide_false,Bool.true_and,Bool.false_or]
     congr 1
     exact propext (Qxr x _ hxl ZO).symm
    have SP:=fun w=>Qoq s.width hr0 hr1 w
    rw[hV] at hand SP;rw[hv];have HW:=Zh hW;have BB:=Zh B0;have SPH:=Zh SP;have ht:s.width.tmod 64=s.width % 64:=Int.tmod_eq_emod_of_nonneg hr0;have ht2:(s.width % 64==0)=false:=by simpa using h3
    have e1:IntKind.i64.wrap ((n:Int)-1)=(n:Int)-1:=IntWalk.i64_in _ (by unfold maxLen at hm;omega);have e2:0≤(n:Int)-1:=by omega
    have e4:(n:Int)-1<n:=by omega
    have e3:((n:Int)-1).toNat=n-1:=by omega
    have hcW:W.cell? ⟨b,off+(n-1),none⟩=some (uv x):=by rw[←hcell];exact B0.cell (p:=⟨b,off+(n-1),none⟩) hb
    have bt:bits .and .u64 (x:Int) (V:Int)=((x &&& V:Nat):Int):=hand;clear hW HB0 hk B0 h SP hand hV hlast hx hxl hcell hv hr he;go_enter Tryz.func90,Tryz.ntmps90;go_wp2_with fail;rw[show w.alloc (.cells #[.int .i64 s.width,.slice (some ⟨b,off,none⟩) n c] 52)=W from HW.o];go_quiet (first|(go_at_call 116;exact Calls.quiet_of_same (QYd h1 _))|(go_at_call 117;exact Calls.quiet_of_same (QLf s.width hr0 hr1 _)));go_wp2;go_quiet ((go_at_call 150;first|exact Qfm (SPH.o _)|exact Calls.quiet_of_same (SPH.o _)));go_wp2;go_ret;exact⟨Qyb (int0 _),BB.o.trans (Qp (Qp (Below.refl _ _) _) _)⟩
  ·have d2:((n:Int) !=(s.width+63) / 64)=true:=by simpa [QId,hn] using h2
   have hv:setB s=false:=by unfold setB;rw[h1];simp[h2]
   rw[hv];have HW:=Zh hW;have BB:=Zh B0;clear hW HB0 hk B0 h;go_enter Tryz.func90,Tryz.ntmps90;go_wp2_with fail;rw[show w.alloc (.cells #[.int .i64 s.width,.slice a n c] 52)=W from HW.o];go_quiet (first|(go_at_call 116;exact Calls.quiet_of_same (QYd h1 _))|(go_at_call 117;exact Calls.quiet_of_same (QLf s.width hr0 hr1 _)));go_wp2;go_ret;exact⟨rfl,BB.o.trans (Qp (Below.refl _ _) _)⟩
 ·have h1':QEa s.width=false:=by simpa using h1
  have hv:setB s=false:=by unfold setB;rw[h1'];rfl
  rw[hv];have HW:=Zh hW;have BB:=Zh B0;clear hW HB0 hk B0 h;go_enter Tryz.func90,Tryz.ntmps90;go_wp2_with fail;rw[show w.alloc (.cells #[.int .i64 s.width,.slice a n c] 52)=W from HW.o];go_quiet ((go_at_call 116;exact Calls.quiet_of_same (QYd h1' _)));go_wp2;go_ret;exact⟨rfl,BB.o.trans (Qp (Below.refl _ _) _)⟩
end
section
open Go.RowKit
variable [Base]
def OwnE (s:QSet)(w:World)(e:Ending)(w':World):Prop:=∃u,e=.returned (.tuple #[setV s u,.int .i64 0])∧OwnS w.heap.size w' u s∧Below w.heap.size w w'
def NewS (B:Nat)(w:World)(u:Value)(s:QSet):Prop:=(u=.slice none 0 0∧s.words=[])∨OwnS B w u s
theorem NewS.words {B:Nat}{w:World}{u:Value}{s:QSet}(h:NewS B w u s):Qi w u s.words:=by
 rcases h with⟨rfl,h⟩|h
 ·rw[h];exact Qi.nil
 ·exact h.words
theorem NewS.shape {B:Nat}{w:World}{u:Value}{s:QSet}(h:NewS B w u s):∃a n c,u=.slice a n c:=by
 rcases h with⟨rfl,h⟩|⟨g,e,_⟩
 ·exact⟨_,_,_,rfl⟩
 ·exact⟨_,_,_,e⟩
theorem NewS.setCell {B r o:Nat}{x:Value}{w:World}{u:Value}{s:QSet}(h:NewS B w u s)(hr:r<B):NewS B (w.setCell ⟨r,o,none⟩ x) u s:=by
 rcases h with h|⟨g,e,h1,h2,h3⟩
 ·exact .inl h
 ·exact .inr ⟨g,e,h1,by rw[Below.heap_setCell _ _ _ _ (by show g≠r;omega)];exact h2,h3⟩
theorem NewS.mono {B C:Nat}{w:World}{u:Value}{s:QSet}(h:NewS B w u s)(hb:C≤B):NewS C w u s:=h.imp_right fun k=>k.mono hb
def SetE (r:QSet×Int)(w:World)(e:Ending)(w':World):Prop:=∃u,e=.returned (.tuple #[setV r.1 u,.int .i64 r.2])∧NewS w.heap.size w' u r.1∧Below w.heap.size w w'
def Qrd:QSet:=⟨0,[]⟩
abbrev QPd:Value:=.agg #[.int .i64 0,.slice none 0 0]
def QJd (n:Int)(w:World)(e:Ending)(w':World):Prop:=e=.returned (.tuple #[QPd,.int .i64 n])∧Below w.heap.size w w'
theorem QJd.set {n:Int}{w w':World}{e:Ending}(h:QJd n w e w'):SetE (Qrd,n) w e w':=⟨.slice none 0 0,h.1,.inl ⟨rfl,rfl⟩,h.2⟩
theorem Qxe (m:Nat)(hm:m≤256)(w:World):Calls Tryz.prog 49 #[.int .i64 m] w (OwnE (Qy m) w):=by
 have hmk:=QTd (Qj m) (by unfold Qj;omega) (((m:Int)+63) / 64) (by unfold Qj;omega);have HF:=Zh (QZb hm);have HZ:=Zh (QUt m);have hr:QEa (m:Int)=true:=by unfold QEa;simp;omega
 have HR:=Zh hr;clear hr;go_enter Tryz.func49,Tryz.ntmps49;go_wp2_with first|(go_at_call 116;refine(QYd HR.o _).mono ?_;rintro e w' ⟨rfl,rfl⟩)|(go_at_call 117;refine(QLf _ ZO ZO _).mono ?_;rintro e w' ⟨rfl,rfl⟩)
 refine bodyPost_ret (v:=.tuple #[setV (Qy m) (.slice (some ⟨w.heap.size+1,0,none⟩) (Qy m).words.length (Qy m).words.length),.int .i64 0]) (by simp[results,Tryz.results49,go_sem,Qy]) rfl ⟨_,rfl,⟨w.heap.size+1,rfl,by omega,?_,HF.o⟩,(Zb).alloc ZS _⟩;rw[←HZ.o];exact Qda _ _
theorem QSk (n:Int)(hn:QEa n=false)(w:World):Calls Tryz.prog 49 #[.int .i64 n] w (QJd 3 w):=by
 have HR:=Zh hn;clear hn;go_enter Tryz.func49,Tryz.ntmps49;go_wp2_with (go_at_call 116;refine(QYd HR.o _).mono ?_;rintro e w' ⟨rfl,rfl⟩);exact bodyPost_ret (v:=.tuple #[QPd,.int .i64 3]) (by simp[results,Tryz.results49,go_sem]) rfl ⟨rfl,Zb⟩
theorem ButB.refl (g:Nat)(w:World):ButB g w w:=⟨rfl,rfl,rfl,Nat.le_refl _,fun _ _ _=>rfl⟩
theorem ButB.trans {g:Nat}{a b c:World}(h:ButB g a b)(k:ButB g b c):ButB g a c:=⟨k.os.trans h.os,k.tape.trans h.tape,k.output.trans h.output,Nat.le_trans h.size k.size,fun i hi hn=>(k.block i (Nat.lt_of_lt_of_le hi h.size) hn).trans (h.block i hi hn)⟩
theorem ButB.alloc {g:Nat}{a w:World}(h:ButB g a w)(o:Obj):ButB g a (w.alloc o):=h.trans ⟨rfl,rfl,rfl,by simp,fun k hk _=>Below.heap_alloc _ _ _ hk⟩
theorem ButB.setCell {g:Nat}{a w:World}(h:ButB g a w)(o:Nat)(u:Value):ButB g a (w.setCell ⟨g,o,none⟩ u):=
 ⟨h.os,h.tape,h.output,by simpa using h.size,fun k hk hn=>by rw[Below.heap_setCell _ _ _ _ (by exact hn)];exact h.block k hk hn⟩
theorem ButB.below {g:Nat}{a w w':World}(h:ButB g a w)(k:Below w.heap.size w w'):ButB g a w':=h.trans ⟨k.os,k.tape,k.output,k.size,fun i hi _=>k.block i hi⟩
def PutQ (g:Nat)(s:QSet)(w:World)(e:Ending)(w':World):Prop:=
 e=.returned (.tuple #[])∧w'.heap[g]? = some (.cells (s.words.map uv).toArray 139 (0,0))∧ButB g w w'
theorem QRs (s:QSet)(b g:Nat)(w:World)(hf:QUb s)(hb:(b:Int)<s.width)(hg:w.heap[g]? = some (.cells (s.words.map uv).toArray 139 (0,0))):
  Calls Tryz.prog 118 #[setV s (.slice (some ⟨g,0,none⟩) s.words.length s.words.length),.int .i64 b] w (PutQ g (putS s b) w):=by
 obtain⟨m,hm,hm2,hk⟩:=Qka hf;obtain⟨k,hk2⟩:=Ze s.words.length;have hbk:b / 64<k:=by rw[←hk2,hk];unfold Qj;omega
 have hk5:k≤4:=by rw[←hk2,hk];unfold Qj;omega
 obtain⟨x,hx⟩:∃x,s.words[b / 64]? = some x:=⟨_,List.getElem?_eq_getElem (show b / 64<s.words.length by omega)⟩;have hxl:x<18446744073709551616:=hf.2.2 x (List.mem_of_getElem? hx);have hlt:=Qb hg;have g0:=(Qa hg).1 (b / 64);have g1:=(Qa hg).2 (b / 64);rw[List.getElem?_toArray,List.getElem?_map,hx] at g0;simp only[Option.map_some] at g0;have q1:0≤(b:Int) / 64:=by omega
 have q2:(b:Int) / 64<k:=by omega
 have q3:((b:Int) / 64).toNat=b / 64:=by omega
 have q4:0≤(b:Int) % 64:=by omega
 have q5:IntKind.u64.wrap (b:Int)=(b:Int):=by rw[IntKind.wrap_u64];omega
 have q6:((b:Int) % 64).toNat=b % 64:=by omega
 obtain⟨y,hy⟩:=Ze (x ||| 2 ^ (b % 64));have q7:bits .or .u64 (x:Int) (IntKind.u64.wrap (2 ^ (b % 64)))=(y:Int):=by
  have h1:IntKind.u64.wrap (2 ^ (b % 64))=((2 ^ (b % 64):Nat):Int):=by
   have:=Qjd b;rw[show((2:Int) ^ (b % 64))=((2 ^ (b % 64):Nat):Int) by simp,IntKind.wrap_u64];generalize 2 ^ (b % 64)=p at *;omega
  rw[h1,Qhl x _ hxl (Qjd b),hy]
 have HY:=Zh hy;have HX:=Zh hx;have HG:=Zh hg;have hne:w.heap.size≠g:=by omega
 rw[hk2];clear hy hx hg hf hm hk hk2;go_enter Tryz.func118,Tryz.ntmps118;go_wp2_with fail;have HP:=Zh (show(putS s b).words=s.words.set (b / 64) y by
  unfold putS;rw[List.getD_eq_getElem?_getD,HX.o];simp[←HY.o])
 go_end0;refine⟨rfl,?_,?_⟩
 ·rw[HP.o,List.map_set];have hgg:=HG.o;rw[Below.heap_alloc _ _ _ (by rw[World.size_setCell];exact Qb hgg)];simp[World.setCell,Array.getElem?_modify,hgg]
 ·exact((ButB.refl g w).setCell _ _).alloc _
end
section
open Go.RowKit
variable [Base]
structure QJc (w wr:World)(r c g m:Nat)(s:QSet):Prop where
 below:Below w.heap.size w wr
 res:wr.heap[r]? = some (.cells #[.int .i64 0,.slice none 0 0] 52 (0,0))
 cur:wr.heap[c]? = some (.cells #[.int .i64 (m:Int),.slice (some ⟨g,0,none⟩) (Qj m) (Qj m)] 52 (0,0))
 own:wr.heap[g]? = some (.cells (s.words.map uv).toArray 139 (0,0))
 form:QUb s
 width:s.width=(m:Int)
 old:w.heap.size≤r∧w.heap.size≤c∧w.heap.size≤g∧r≠c∧r≠g∧c≠g
theorem QJc.len {w wr:World}{r c g m:Nat}{s:QSet}(h:QJc w wr r c g m s):s.words.length=Qj m:=by
 obtain⟨k,e,_,h2⟩:=Qka h.form;have:=h.width;rw[h2,show k=m by omega]
theorem QJc.put {w wr w2:World}{r c g m b:Nat}{s:QSet}(h:QJc w wr r c g m s)(hg:w2.heap[g]? = some (.cells ((putS s b).words.map uv).toArray 139 (0,0)))(hb:ButB g wr w2):QJc w w2 r c g m (putS s b):=by
 obtain⟨o1,o2,o3,o4,o5,o6⟩:=h.old;exact⟨h.below.trans (hb.toBelow o3 h.below.size),(hb.block r (Qb h.res) o5).trans h.res,(hb.block c (Qb h.cur) o6).trans h.cur,hg,Qnd h.form b,h.width,h.old⟩
theorem QJc.fin {w wr:World}{r c g m:Nat}{s:QSet}(h:QJc w wr r c g m s)(x y:Value):NewS w.heap.size ((wr.setCell ⟨r,0,none⟩ x).setCell ⟨r,1,none⟩ y) (.slice (some ⟨g,0,none⟩) (Qj m) (Qj m)) s∧Below w.heap.size w ((wr.setCell ⟨r,0,none⟩ x).setCell ⟨r,1,none⟩ y):=by
 obtain⟨o1,o2,o3,o4,o5,o6⟩:=h.old;refine⟨?_,(h.below.setCell (p:=⟨r,0,none⟩) o1 _).setCell (p:=⟨r,1,none⟩) o1 _⟩;have hg:((wr.setCell ⟨r,0,none⟩ x).setCell ⟨r,1,none⟩ y).heap[g]? = some (.cells (s.words.map uv).toArray 139 (0,0)):=by
  rw[Below.heap_setCell _ _ _ _ (by show g≠r;omega),Below.heap_setCell _ _ _ _ (by show g≠r;omega)];exact h.own
 exact .inr ⟨g,by rw[h.len],o3,hg,h.form⟩
theorem QWp {w wr:World}{r c g m b:Nat}{s:QSet}(h:QJc w wr r c g m s)(hb:b<m):
  Calls Tryz.prog 118 #[.agg #[.int .i64 (m:Int),.slice (some ⟨g,0,none⟩) (Qj m) (Qj m)],.int .i64 b] wr (PutQ g (putS s b) wr):=by
 have k:=QRs s b g wr h.form (by rw[h.width];omega) h.own;rw[h.len,show setV s (.slice (some ⟨g,0,none⟩) (Qj m) (Qj m))=.agg #[.int .i64 (m:Int),.slice (some ⟨g,0,none⟩) (Qj m) (Qj m)] from by unfold setV;rw[h.width]] at k;exact k
theorem QHj (m:Nat):(Qy m).words.length=Qj m:=by unfold Qy;simp
theorem Qur (m:Nat)(hm:m≤256)(w:World):Calls Tryz.prog 50 #[.int .i64 m] w (SetE (QMb m m,0) w):=by
 have HM:=Zh hm;go_enter Tryz.func50,Tryz.ntmps50;go_wp2_with fail;refine(Qxe m hm _).mono ?_;rintro e v ⟨u,rfl,⟨g,rfl,o1,o2,o3⟩,b1⟩;simp only[World.size_alloc] at o1 b1;have hz:w.heap.size<v.heap.size:=by have:=b1.size;simp only[World.size_alloc] at this;omega
 rw[show setV (Qy m) (.slice (some ⟨g,0,none⟩) (Qy m).words.length (Qy m).words.length)=.agg #[.int .i64 (m:Int),.slice (some ⟨g,0,none⟩) (Qj m) (Qj m)] from by rw[QHj];rfl];have hgv:=Qb o2;have I0:=Zh (show QJc w (v.alloc (.cells #[.int .i64 (m:Int),.slice (some ⟨g,0,none⟩) (Qj m) (Qj m)] 52)) w.heap.size v.heap.size g m (QMb m 0) from
  ⟨((Zb).trans (b1.mono ZO)).alloc ZO _,Qz _ ((b1.block w.heap.size ZO).trans (heap_alloc_new w _)),heap_alloc_new _ _,Qz _ o2,QZb hm,rfl,by omega,by omega,by omega,by omega,by omega,by omega⟩)
 obtain⟨V,hV⟩:=Ze (v.alloc (.cells #[.int .i64 (m:Int),.slice (some ⟨g,0,none⟩) (Qj m) (Qj m)] 52));rw[hV] at I0;have HV:=Zh hV;have hne:w.heap.size≠v.heap.size:=by omega
 clear hV o1 o2 o3 b1;go_wp2_with fail;rw[show v.alloc (.cells #[.int .i64 (m:Int),.slice (some ⟨g,0,none⟩) (Qj m) (Qj m)] 52)=V from HV.o];have J0:=Zh (Qa I0.o.cur);have x0:=J0.o.1 0;have x1:=J0.o.1 1;simp only[Zx,Zy,Zz] at x0 x1;go_loopw [14] (fun y wr=>∃i:Nat,i≤m∧y=.int .i64 i∧Hid (QJc w wr w.heap.size v.heap.size g m (QMb m i))) (fun y _=>m-(intOf y).toNat)
 case atStart=>exact⟨0,Nat.zero_le _,rfl,I0⟩
 case round=>
  clear x0 x1 J0 I0;obtain⟨i,hi,rfl,I⟩:=hrel;have J0:=Zh (Qa I.o.cur);have x0:=J0.o.1 0;have x1:=J0.o.1 1;have J1:=Zh (Qa I.o.res);have y0:=J1.o.1 0;have y1:=J1.o.1 1;have f0:=J1.o.2 0;have f1:=J1.o.2 1;simp only[Zx,Zy,Zz] at x0 x1 y0 y1;by_cases hlt:i<m
  ·go_wp2_with fail;refine(QWp I.o hlt).mono ?_;rintro e w2 ⟨rfl,p1,p2⟩;have I2:=Zh (show QJc w w2 w.heap.size v.heap.size g m (QMb m (i+1)) by rw[QFf];exact I.o.put p1 p2);clear p1 p2 x0 x1 y0 y1 f0 f1;go_wp2;go_roundw
   case rel=>exact⟨i+1,by omega,by go_num,I2⟩
   case measure=>simp[intOf];omega
  ·obtain rfl:i=m:=by omega
   have HF:=Zh (I.o.fin (.int .i64 (i:Int)) (.slice (some ⟨g,0,none⟩) (Qj i) (Qj i)));go_wp2;refine bodyPost_ret (v:=.tuple #[setV (QMb i i) (.slice (some ⟨g,0,none⟩) (Qj i) (Qj i)),.int .i64 0]) (by rw[show setV (QMb i i) (.slice (some ⟨g,0,none⟩) (Qj i) (Qj i))=.agg #[.int .i64 (i:Int),.slice (some ⟨g,0,none⟩) (Qj i) (Qj i)] from by unfold setV;rw[I.o.width]];simp[results,Tryz.results50,go_sem,y0,y1]) rfl ⟨_,rfl,HF.o.1,HF.o.2⟩
end
section
open Go.RowKit
variable [Base]
def QJa (w:World)(v:Value)(l:List Int):Prop:=Qg w 3 1 v (l.map iv)
theorem QJa.nil {w:World}:QJa w (.slice none 0 0) []:=Qg.nil
theorem QJa.cell {w:World}{v:Value}{l:List Int}(h:QJa w v l):∃a c,v=.slice a l.length c∧l.length≤maxLen∧l.length≤c∧c≤maxLen∧∀k x,l[k]? = some x→∃b off,a=some ⟨b,off,none⟩∧b<w.heap.size∧w.cell? ⟨b,off+k,none⟩=some (iv x):=by
 obtain⟨a,n,c,rfl,h1,h2,h3,h4,h5⟩:=Qg.form h;simp at h1;subst h1;refine⟨a,c,rfl,h2,h3,h4,fun k x hk=>?_⟩;obtain⟨hk2,rfl⟩:=List.getElem?_eq_some_iff.1 hk;obtain⟨b,off,rfl,hb,_,hc⟩:=h5 ZO;refine⟨b,off,rfl,hb,?_⟩;rw[hc _ (by simpa using hk2)];simp[hk2]
theorem Qcs (m:Nat)(s:QSet):ofGo m [] s=(s,0):=rfl
theorem QOh (m:Nat)(b:Int)(l:List Int)(s:QSet):ofGo m (b::l) s=if b<0∨(m:Int)≤b then (⟨0,[]⟩,3) else ofGo m l (putS s b.toNat):=rfl
theorem Qru {n:Int}(h:QEa n=false)(l:List Int):ofS n l=(Qrd,3):=by
 unfold ofS Qrd;rw[if_neg];intro h2;unfold QEa at h;simp only[Bool.and_eq_false_iff,decide_eq_false_iff_not] at h;omega
theorem QAt {m:Nat}(h:m≤256)(l:List Int):ofS m l=ofGo m l (Qy m):=by
 unfold ofS;rw[if_pos ZO];simp
theorem QJc.stop {w wr:World}{r c g m:Nat}{s:QSet}(h:QJc w wr r c g m s)(x y:Value):Below w.heap.size w ((wr.setCell ⟨r,0,none⟩ x).setCell ⟨r,1,none⟩ y):=(h.fin x y).2
theorem QLt (m:Nat)(hm:m≤256)(l:List Int)(v0:Value)(w:World)(hl:QJa w v0 l):Calls Tryz.prog 115 #[.int .i64 m,v0] w (SetE (ofS m l) w):=by
 rw[QAt hm];have HM:=Zh hm;obtain⟨la,lc,rfl,hlm,-,-,hcell⟩:=hl.cell;obtain⟨n,hn⟩:=Ze l.length;rw[hn] at hlm ⊢;have HN:=Zh hn;have HC:=Zh hcell;unfold maxLen at hlm;clear hl hcell hn;go_enter Tryz.func115,Tryz.ntmps115;go_wp2_with fail;refine(Qxe m hm _).mono ?_;rintro e v ⟨u,rfl,⟨g,rfl,o1,o2,o3⟩,b1⟩;simp only[World.size_alloc] at o1 b1;have hz:w.heap.size<v.heap.size:=by have:=b1.size;simp only[World.size_alloc] at this;omega
 rw[show setV (Qy m) (.slice (some ⟨g,0,none⟩) (Qy m).words.length (Qy m).words.length)=.agg #[.int .i64 (m:Int),.slice (some ⟨g,0,none⟩) (Qj m) (Qj m)] from by rw[QHj];rfl];have hgv:=Qb o2;have I0:=Zh (show QJc w (v.alloc (.cells #[.int .i64 (m:Int),.slice (some ⟨g,0,none⟩) (Qj m) (Qj m)] 52)) w.heap.size v.heap.size g m (Qy m) from
  ⟨((Zb).trans (b1.mono ZO)).alloc ZO _,Qz _ ((b1.block w.heap.size ZO).trans (heap_alloc_new w _)),heap_alloc_new _ _,Qz _ o2,QZb hm,rfl,by omega,by omega,by omega,by omega,by omega,by omega⟩)
 obtain⟨V,hV⟩:=Ze (v.alloc (.cells #[.int .i64 (m:Int),.slice (some ⟨g,0,none⟩) (Qj m) (Qj m)] 52));rw[hV] at I0;have HV:=Zh hV;have hne:w.heap.size≠v.heap.size:=by omega
 clear hV o1 o2 o3 b1;go_wp2_with fail;rw[show v.alloc (.cells #[.int .i64 (m:Int),.slice (some ⟨g,0,none⟩) (Qj m) (Qj m)] 52)=V from HV.o];go_loopw [17] (fun y wr=>∃i:Nat,i≤n∧y=.int .i64 i∧Hid (∃s,QJc w wr w.heap.size v.heap.size g m s∧ofGo m (l.drop i) s=ofGo m l (Qy m))) (fun y _=>n-(intOf y).toNat)
 case atStart=>exact⟨0,Nat.zero_le _,rfl,⟨_,I0.o,rfl⟩⟩
 case round=>
  clear I0;obtain⟨i,hi,rfl,II⟩:=hrel;obtain⟨s,I,hR⟩:=II.o;have I:=Zh I;have HR:=Zh hR;clear II hR;have J0:=Zh (Qa I.o.cur);have x0:=J0.o.1 0;have x1:=J0.o.1 1;have J1:=Zh (Qa I.o.res);have y0:=J1.o.1 0;have y1:=J1.o.1 1;have f0:=J1.o.2 0;have f1:=J1.o.2 1;simp only[Zx,Zy,Zz] at x0 x1 y0 y1;by_cases hlt:i<n
  ·obtain⟨b,hb⟩:∃b,l[i]? = some b:=⟨_,List.getElem?_eq_getElem (show i<l.length by have:=HN.o;omega)⟩;obtain⟨lb,lo,rfl,hlb,hlc⟩:=HC.o i b hb;have g0:=(I.o.below.cell (p:=⟨lb,lo+i,none⟩) hlb).trans hlc;have HD:=Zh (show l.drop i=b::l.drop (i+1) by rw[List.drop_eq_getElem_cons (show i<l.length by have:=HN.o;omega)];congr 1;exact(List.getElem?_eq_some_iff.1 hb).2);clear hb hlc;by_cases hb0:b<0
   ·have d1:decide (b<0)=true:=by simpa using hb0
    have HE:=Zh (show ofGo m l (Qy m)=(Qrd,3) by rw[←HR.o,HD.o,QOh,if_pos (Or.inl hb0)];rfl);have HS:=Zh (I.o.stop (.int .i64 0) (.slice none 0 0));go_wp2;refine bodyPost_ret (v:=.tuple #[QPd,.int .i64 3]) (by simp[results,Tryz.results115,go_sem,y0,y1]) rfl ?_;rw[HE.o];exact QJd.set ⟨rfl,HS.o⟩
   ·have d1:decide (b<0)=false:=by simpa using hb0
    by_cases hbm:(m:Int)≤b
    ·have d2:decide ((m:Int)≤b)=true:=by simpa using hbm
     have HE:=Zh (show ofGo m l (Qy m)=(Qrd,3) by rw[←HR.o,HD.o,QOh,if_pos (Or.inr hbm)];rfl);have HS:=Zh (I.o.stop (.int .i64 0) (.slice none 0 0));go_wp2;refine bodyPost_ret (v:=.tuple #[QPd,.int .i64 3]) (by simp[results,Tryz.results115,go_sem,y0,y1]) rfl ?_;rw[HE.o];exact QJd.set ⟨rfl,HS.o⟩
    ·have d2:decide ((m:Int)≤b)=false:=by simpa using hbm
     obtain⟨q,rfl⟩:=Int.eq_ofNat_of_zero_le (show 0≤b by omega);go_wp2_with fail;refine(QWp I.o (show q<m by omega)).mono ?_;rintro e w2 ⟨rfl,p1,p2⟩;have I2:Hid (∃s,QJc w w2 w.heap.size v.heap.size g m s∧ofGo m (l.drop (i+1)) s=ofGo m l (Qy m)):=⟨putS s q,I.o.put p1 p2,by rw[←HR.o,HD.o,QOh,if_neg ZO];rfl⟩;clear p1 p2 x0 x1 y0 y1 f0 f1 g0;go_wp2;go_roundw
     case rel=>exact⟨i+1,by omega,by go_num,I2⟩
     case measure=>simp[intOf];omega
  ·have HE:=Zh (show ofGo m l (Qy m)=(s,0) by rw[←HR.o,List.drop_eq_nil_of_le (by have:=HN.o;omega),Qcs]);have HF:=Zh (I.o.fin (.int .i64 (m:Int)) (.slice (some ⟨g,0,none⟩) (Qj m) (Qj m)));go_wp2;refine bodyPost_ret (v:=.tuple #[setV s (.slice (some ⟨g,0,none⟩) (Qj m) (Qj m)),.int .i64 0]) (by rw[show setV s (.slice (some ⟨g,0,none⟩) (Qj m) (Qj m))=.agg #[.int .i64 (m:Int),.slice (some ⟨g,0,none⟩) (Qj m) (Qj m)] from by unfold setV;rw[I.o.width]];simp[results,Tryz.results115,go_sem,y0,y1]) rfl ?_;rw[HE.o];exact⟨_,rfl,HF.o.1,HF.o.2⟩
end
section
open Go.RowKit
variable [Base]
theorem bfull_no (k:Int)(hk:QEa k=false)(w:World):Calls Tryz.prog 50 #[.int .i64 k] w (QJd 3 w):=by
 have HR:=Zh hk;clear hk;go_enter Tryz.func50,Tryz.ntmps50;go_wp2_with fail;refine(QSk k HR.o _).mono ?_;rintro e v ⟨rfl,b1⟩;have hz:w.heap.size<v.heap.size:=by have:=b1.size;simp only[World.size_alloc] at this;omega
 have L1:=Zh ((b1.block w.heap.size ZS).trans (heap_alloc_new w _));have B1:=Zh (((Below.refl _ _).alloc (Nat.le_refl _) (.cells #[.int .i64 0,.slice none 0 0] 52)).trans (b1.mono ZS));obtain⟨V,hV⟩:=Ze (v.alloc (.cells #[.int .i64 0,.slice none 0 0] 52));have hc:V.heap[v.heap.size]? = some (.cells #[.int .i64 0,.slice none 0 0] 52 (0,0)):=by rw[←hV];exact heap_alloc_new _ _
 have hr:V.heap[w.heap.size]? = some (.cells #[.int .i64 0,.slice none 0 0] 52 (0,0)):=by rw[←hV];exact Qz _ L1.o
 have BV:=Zh (show Below w.heap.size w V by rw[←hV];exact B1.o.alloc ZO _);have BF:=Zh ((BV.o.setCell (p:=⟨w.heap.size,0,none⟩) (Nat.le_refl _) (.int .i64 0)).setCell (p:=⟨w.heap.size,1,none⟩) (Nat.le_refl _) (.slice none 0 0));have x0:=(Qa hc).1 0;have x1:=(Qa hc).1 1;have y0:=(Qa hr).1 0;have y1:=(Qa hr).1 1;have f0:=(Qa hr).2 0;have f1:=(Qa hr).2 1;simp only[Zx,Zy,Zz] at x0 x1 y0 y1;have HV:=Zh hV;have hne:w.heap.size≠v.heap.size:=by omega
 clear hV hc hr b1;go_wp2_with fail;rw[show v.alloc (.cells #[.int .i64 0,.slice none 0 0] 52)=V from HV.o];refine wp_loop_rounds 1 ?_;rw[rounds_succ];go_wp2;refine bodyPost_ret (v:=.tuple #[QPd,.int .i64 3]) (by simp[results,Tryz.results50,go_sem,y0,y1]) rfl ⟨rfl,BF.o⟩
theorem Qwu (k:Int)(hk:QEa k=false)(l:List Int)(v0:Value)(w:World)(hl:QJa w v0 l):Calls Tryz.prog 115 #[.int .i64 k,v0] w (QJd 3 w):=by
 have HR:=Zh hk;obtain⟨la,lc,rfl,hlm,-,-,hcell⟩:=hl.cell;obtain⟨n,hn⟩:=Ze l.length;rw[hn] at hlm ⊢;have HN:=Zh hn;have HC:=Zh hcell;unfold maxLen at hlm;clear hl hcell hn hk;go_enter Tryz.func115,Tryz.ntmps115;go_wp2_with fail;refine(QSk k HR.o _).mono ?_;rintro e v ⟨rfl,b1⟩;have hz:w.heap.size<v.heap.size:=by have:=b1.size;simp only[World.size_alloc] at this;omega
 have L1:=Zh ((b1.block w.heap.size ZS).trans (heap_alloc_new w _));have B1:=Zh (((Below.refl _ _).alloc (Nat.le_refl _) (.cells #[.int .i64 0,.slice none 0 0] 52)).trans (b1.mono ZS));obtain⟨V,hV⟩:=Ze (v.alloc (.cells #[.int .i64 0,.slice none 0 0] 52));have hc:V.heap[v.heap.size]? = some (.cells #[.int .i64 0,.slice none 0 0] 52 (0,0)):=by rw[←hV];exact heap_alloc_new _ _
 have hr:V.heap[w.heap.size]? = some (.cells #[.int .i64 0,.slice none 0 0] 52 (0,0)):=by rw[←hV];exact Qz _ L1.o
 have BV:=Zh (show Below w.heap.size w V by rw[←hV];exact B1.o.alloc ZO _);have BF:=Zh ((BV.o.setCell (p:=⟨w.heap.size,0,none⟩) (Nat.le_refl _) (.int .i64 0)).setCell (p:=⟨w.heap.size,1,none⟩) (Nat.le_refl _) (.slice none 0 0));have x0:=(Qa hc).1 0;have x1:=(Qa hc).1 1;have y0:=(Qa hr).1 0;have y1:=(Qa hr).1 1;have f0:=(Qa hr).2 0;have f1:=(Qa hr).2 1;simp only[Zx,Zy,Zz] at x0 x1 y0 y1;have HV:=Zh hV;have hne:w.heap.size≠v.heap.size:=by omega
 clear hV hc hr b1;go_wp2_with fail;rw[show v.alloc (.cells #[.int .i64 0,.slice none 0 0] 52)=V from HV.o];refine wp_loop_rounds 1 ?_;rw[rounds_succ];rcases Nat.eq_zero_or_pos n with h0|h0
 ·subst h0;go_wp2;refine bodyPost_ret (v:=.tuple #[QPd,.int .i64 3]) (by simp[results,Tryz.results115,go_sem,y0,y1]) rfl ⟨rfl,BF.o⟩
 ·obtain⟨b,hb⟩:∃b,l[0]? = some b:=⟨_,List.getElem?_eq_getElem (show 0<l.length by have:=HN.o;omega)⟩;obtain⟨lb,lo,rfl,hlb,hlc⟩:=HC.o 0 b hb;have g0:=(BV.o.cell (p:=⟨lb,lo+0,none⟩) hlb).trans hlc;simp only[Nat.add_zero] at g0;clear hb hlc;by_cases hb0:b<0
  ·have d1:decide (b<0)=true:=by simpa using hb0
   go_wp2;refine bodyPost_ret (v:=.tuple #[QPd,.int .i64 3]) (by simp[results,Tryz.results115,go_sem,y0,y1]) rfl ⟨rfl,BF.o⟩
  ·have d1:decide (b<0)=false:=by simpa using hb0
   have d2:decide (0≤b)=true:=by simp;omega
   go_wp2;refine bodyPost_ret (v:=.tuple #[QPd,.int .i64 3]) (by simp[results,Tryz.results115,go_sem,y0,y1]) rfl ⟨rfl,BF.o⟩
theorem QXp (k:Int)(l:List Int)(v0:Value)(w:World)(hl:QJa w v0 l):Calls Tryz.prog 115 #[.int .i64 k,v0] w (SetE (ofS k l) w):=by
 by_cases h:QEa k=true
 ·have h2:=h;unfold QEa at h2;simp only[Bool.and_eq_true,decide_eq_true_eq] at h2;obtain⟨m,rfl⟩:=Int.eq_ofNat_of_zero_le h2.1;exact QLt m ZO l v0 w hl
 ·have h2:QEa k=false:=by simpa using h
  rw[Qru h2];exact(Qwu k h2 l v0 w hl).mono fun _ _ h=>h.set
end
section
open Go.RowKit
variable [Base]
theorem Qem (s:QSet)(u:Value)(w:World)(h:Qi w u s.words):Calls Tryz.prog 80 #[setV s u] w (Qia (setB s) w):=by
 obtain⟨a,c,rfl,hm,hc,hcm,hk⟩:=h.cell;obtain⟨n,hn⟩:=Ze s.words.length;obtain⟨W,hW⟩:=Ze (w.alloc (.cells #[.int .i64 s.width,.slice a n c] 52));have B0:Below w.heap.size w W:=by rw[←hW];exact Zb
 have HB0:W.heap[w.heap.size]? = some (.cells #[.int .i64 s.width,.slice a n c] 52 (0,0)):=by rw[←hW];exact heap_alloc_new _ _
 have x0:=(Qa HB0).1 0;have x1:=(Qa HB0).1 1;simp at x0 x1;rw[hn] at hm hc ⊢;have HW:=Zh hW;have BB:=Zh B0;have HN:=Zh hn;unfold maxLen at hm;by_cases h1:0≤s.width;rotate_left
 ·have hv:setB s=false:=by unfold setB QEa;simp[h1]
  rw[hv];clear hW HB0 hk B0 h hn hv;go_enter Tryz.func80,Tryz.ntmps80;go_wp2_with fail;rw[show w.alloc (.cells #[.int .i64 s.width,.slice a n c] 52)=W from HW.o];go_wp2;go_ret;exact⟨rfl,BB.o⟩
 by_cases h2:s.width≤256;rotate_left
 ·have hv:setB s=false:=by unfold setB QEa;simp[h2]
  rw[hv];clear hW HB0 hk B0 h hn hv;go_enter Tryz.func80,Tryz.ntmps80;go_wp2_with fail;rw[show w.alloc (.cells #[.int .i64 s.width,.slice a n c] 52)=W from HW.o];go_wp2;go_ret;exact⟨rfl,BB.o⟩
 by_cases h3:(n:Int)=(s.width+63) / 64;rotate_left
 ·have hv:setB s=false:=by unfold setB QId;rw[hn];simp[h3]
  have d2:((n:Int) !=(s.width+63) / 64)=true:=by simpa using h3
  rw[hv];clear hW HB0 hk B0 h hn hv h3;go_enter Tryz.func80,Tryz.ntmps80;go_wp2_with fail;rw[show w.alloc (.cells #[.int .i64 s.width,.slice a n c] 52)=W from HW.o];go_wp2;go_ret;exact⟨rfl,BB.o⟩
 have d2:((n:Int) !=(s.width+63) / 64)=false:=by simpa using h3
 have hlens:QId s=true:=by unfold QId;rw[hn];simpa using h3
 have HT:=Zh (QFh h.2 h1 hlens);have hv:setB s=Qli s:=by unfold setB QEa;rw[hlens];simp[h1,h2]
 rw[hv];have HK:=Zh hk;have HOK:=Zh h.2;obtain⟨sw,ws⟩:=s;dsimp only at *;obtain⟨m,rfl⟩:=Int.eq_ofNat_of_zero_le h1;have hle:m≤64*n:=by omega
 have hn5:n≤5:=by omega
 clear hW HB0 hk B0 h hn hv h3 hlens h1;go_enter Tryz.func80,Tryz.ntmps80;go_wp2_with fail;rw[show w.alloc (.cells #[.int .i64 (m:Int),.slice a n c] 52)=W from HW.o];go_wp2;go_loop [3] (fun y=>∃b:Nat,m≤b∧b≤64*n∧y=.int .i64 b∧Hid (∀k:Nat,m≤k→k<b→QE ws k=false)) (fun y=>64*n-(intOf y).toNat)
 case atStart=>exact⟨m,Nat.le_refl _,hle,rfl,fun k h1 h2=>by omega⟩
 case round=>
  obtain⟨b,hb1,hb2,rfl,HF⟩:=hrel;by_cases hlt:b<64*n
  ·obtain⟨x,hx⟩:∃x,ws[b / 64]? = some x:=⟨_,List.getElem?_eq_getElem (show b / 64<ws.length by have:=HN.o;omega)⟩;obtain⟨xb,off,rfl,hxb,-,hcell⟩:=HK.o (b / 64) x hx;have hxl:x<18446744073709551616:=HOK.o x (List.mem_of_getElem? hx);have gc:=(BB.o.cell (p:=⟨xb,off+b / 64,none⟩) hxb).trans hcell;have hbit:QE ws b=x.testBit (b % 64):=by unfold QE;rw[List.getD_eq_getElem?_getD,hx];rfl
   have sh:=Qbj x (b % 64) hxl;have e1:0≤(b:Int) / 64:=by omega
   have e2:(b:Int) / 64<n:=by omega
   have e3:((b:Int) / 64).toNat=b / 64:=by omega
   have e4:0≤(b:Int) % 64:=by omega
   have e5:IntKind.u64.wrap ((b:Int) % 64)=(b:Int) % 64:=by rw[IntKind.wrap_u64];omega
   have e6:((b:Int) % 64).toNat=b % 64:=by omega
   have HX:=Zh hbit;clear hx hxl hbit hcell HK
   cases hb:x.testBit (b % 64)
   ·rw[hb] at sh;have HB:=Zh (HX.o.trans hb);go_wp2;go_round
    case rel=>
     refine⟨b+1,by omega,by omega,by go_num,fun k h1 h2=>?_⟩;rcases Nat.lt_or_ge k b with h3|h3
     ·exact HF.o k h1 h3
     ·obtain rfl:k=b:=by omega
      exact HB.o
    case measure=>simp[intOf];omega
   ·rw[hb] at sh;have HB:=Zh (HX.o.trans hb);have hv:Qli ⟨m,ws⟩=false:=by
     rw[Bool.eq_false_iff];intro h;have h5:=HT.o.1 h b ZO (by have:=HN.o;omega);rw[HB.o] at h5
     cases h5
    rw[hv];clear HT hv;go_wp2;go_ret;exact⟨rfl,BB.o⟩
  ·have hv:Qli ⟨m,ws⟩=true:=HT.o.2 fun k h1 h2=>HF.o k ZO (by have:=HN.o;omega)
   have HV:=Zh hv;clear HT hv;go_wp2;go_ret;exact⟨Qyb HV.o.symm,BB.o⟩
end
section
open Go.RowKit
variable [Base]
def hasZ (s:QSet)(b:Int):Bool:=setB s&&(decide (0≤b)&&(decide (b<s.width)&&QE s.words b.toNat))
theorem QMp {s:QSet}(h:setB s=false)(b:Int):hasZ s b=false:=by unfold hasZ;rw[h];rfl
theorem QMm {s:QSet}{b:Int}(h:b<0):hasZ s b=false:=by unfold hasZ;rw[show decide (0≤b)=false by simpa using h];simp
theorem QNm {s:QSet}{b:Int}(h:s.width≤b):hasZ s b=false:=by unfold hasZ;rw[show decide (b<s.width)=false by simpa using h];simp
theorem QNp {s:QSet}{k:Nat}(h:setB s=true)(hk:(k:Int)<s.width):hasZ s k=QE s.words k:=by unfold hasZ;rw[h,show decide ((k:Int)<s.width)=true by simpa using hk];simp
theorem QT {s:QSet}{b:Bool}(hb:setB s=b)(u:Value)(w:World)(h:Qi w u s.words):Calls Tryz.prog 90 #[setV s u] w (Qia b w):=hb▸QOj s u w h
theorem Qpf {s:QSet}{b:Bool}(hb:setB s=b)(u:Value)(w:World)(h:Qi w u s.words):Calls Tryz.prog 80 #[setV s u] w (Qia b w):=hb▸Qem s u w h
theorem QUe {s:QSet}{k:Int}{b:Bool}(hb:(decide (0≤k)&&decide (k<s.width))=b)(a:Option Addr)(n c:Nat)(w:World):Calls Tryz.prog 180 #[.agg #[.int .i64 s.width,.slice a n c],.int .i64 k] w (Qia b w):=by
 subst hb;by_cases h1:0≤k
 ·by_cases h2:k<s.width
  ·have d1:decide (0≤k)=true:=by simpa using h1
   have d2:decide (k<s.width)=true:=by simpa using h2
   rw[d1,d2];go_enter Tryz.func180,Tryz.ntmps180;go_wp2;go_ret;exact⟨rfl,Zb⟩
  ·have d1:decide (0≤k)=true:=by simpa using h1
   have d2:decide (k<s.width)=false:=by simpa using h2
   rw[d1,d2];go_enter Tryz.func180,Tryz.ntmps180;go_wp2;go_ret;exact⟨rfl,Zb⟩
 ·have d1:decide (0≤k)=false:=by simpa using h1
  rw[d1];go_enter Tryz.func180,Tryz.ntmps180;go_wp2;go_ret;exact⟨rfl,Zb⟩
theorem rhas_any (s:QSet)(b:Int)(u:Value)(w:World)(h:Qi w u s.words):Calls Tryz.prog 216 #[setV s u,.int .i64 b] w (Qia (hasZ s b) w):=by
 obtain⟨a,c,rfl,hm,hc,hcm,hk⟩:=h.cell;obtain⟨n,hn⟩:=Ze s.words.length;obtain⟨W,hW⟩:=Ze (w.alloc (.cells #[.int .i64 s.width,.slice a n c] 52));have B0:Below w.heap.size w W:=by rw[←hW];exact Zb
 have HB0:W.heap[w.heap.size]? = some (.cells #[.int .i64 s.width,.slice a n c] 52 (0,0)):=by rw[←hW];exact heap_alloc_new _ _
 have x0:=(Qa HB0).1 0;have x1:=(Qa HB0).1 1;simp at x0 x1;rw[hn] at hm hc ⊢;have H0:=Zh HB0;have HW:=Zh hW;have BB:=Zh B0;have HN:=Zh hn;have HR:=Zh (show Qi W (.slice a n c) s.words by rw[←hn] at *;exact h.below B0);have HK:=Zh hk;have HOK:=Zh h.2;have hud:∀b:Bool,(undef=Value.bool b)=False:=fun b=>by simp[undef]
 unfold maxLen at hm;clear hW HB0 B0 hk hn;rcases Bool.eq_false_or_eq_true (setB s) with hv|hv
 rotate_left
 ·have HV:=Zh hv;rw[QMp hv b];clear hv;go_enter Tryz.func216,Tryz.ntmps216;go_wp2_with fail;rw[show w.alloc (.cells #[.int .i64 s.width,.slice a n c] 52)=W from HW.o];refine(Qpf HV.o _ _ HR.o).mono ?_;rintro e w1 ⟨rfl,b1⟩;have B1:=Zh (BB.o.trans (b1.mono BB.o.size));clear x0 x1 b1;go_wp2;go_ret;exact⟨rfl,B1.o⟩
 have HV:=Zh hv;have hf:=Zh (Qka (QBa hv h.2));by_cases h1:0≤b;rotate_left
 ·rw[QMm (by omega:b<0)];have d1:decide (0≤b)=false:=by simpa using h1
  clear hv h;go_enter Tryz.func216,Tryz.ntmps216;go_wp2_with fail;rw[show w.alloc (.cells #[.int .i64 s.width,.slice a n c] 52)=W from HW.o];refine(Qpf HV.o _ _ HR.o).mono ?_;rintro e w1 ⟨rfl,b1⟩;have B1:=Zh (BB.o.trans (b1.mono BB.o.size));have L1:=Zh (Qc H0.o b1 (Qb H0.o));clear x0 x1 b1;have x0:=(Qa L1.o).1 0;have x1:=(Qa L1.o).1 1;simp only[Zx,Zy,Zz] at x0 x1;go_wp2;go_ret;exact⟨rfl,B1.o⟩
 by_cases h2:b<s.width;rotate_left
 ·rw[QNm (by omega:s.width≤b)];have d1:decide (0≤b)=true:=by simpa using h1
  have d2:decide (b<s.width)=false:=by simpa using h2
  clear hv h;go_enter Tryz.func216,Tryz.ntmps216;go_wp2_with fail;rw[show w.alloc (.cells #[.int .i64 s.width,.slice a n c] 52)=W from HW.o];refine(Qpf HV.o _ _ HR.o).mono ?_;rintro e w1 ⟨rfl,b1⟩;have B1:=Zh (BB.o.trans (b1.mono BB.o.size));have L1:=Zh (Qc H0.o b1 (Qb H0.o));clear x0 x1 b1;have x0:=(Qa L1.o).1 0;have x1:=(Qa L1.o).1 1;simp only[Zx,Zy,Zz] at x0 x1;go_wp2;go_ret;exact⟨rfl,B1.o⟩
 obtain⟨k,rfl⟩:=Int.eq_ofNat_of_zero_le h1;have d1:decide (0≤(k:Int))=true:=by simp
 have d2:decide ((k:Int)<s.width)=true:=by simpa using h2
 rw[QNp hv h2];obtain⟨m,f1,f2,f3⟩:=hf.o;have hkn:k / 64<n:=by have:=HN.o;unfold Qj at f3;omega
 have hn5:n≤5:=by have:=HN.o;unfold Qj at f3;omega
 have hk256:k<256:=by omega
 obtain⟨x,hx⟩:∃x,s.words[k / 64]? = some x:=⟨_,List.getElem?_eq_getElem (show k / 64<s.words.length by have:=HN.o;omega)⟩;obtain⟨xb,off,rfl,hxb,-,hcell⟩:=HK.o (k / 64) x hx;have hxl:x<18446744073709551616:=HOK.o x (List.mem_of_getElem? hx);have hbit:QE s.words k=x.testBit (k % 64):=by unfold QE;rw[List.getD_eq_getElem?_getD,hx];rfl
 have sh:=Qbj x (k % 64) hxl;have e1:0≤(k:Int) / 64:=by omega
 have e2:(k:Int) / 64<n:=by omega
 have e3:((k:Int) / 64).toNat=k / 64:=by omega
 have e4:0≤(k:Int) % 64:=by omega
 have e5:IntKind.u64.wrap ((k:Int) % 64)=(k:Int) % 64:=by rw[IntKind.wrap_u64];omega
 have e7:IntKind.u64.wrap (k:Int)=(k:Int):=by rw[IntKind.wrap_u64];omega
 have e6:((k:Int) % 64).toNat=k % 64:=by omega
 rw[hbit];have HX:=Zh hbit;have HCE:=Zh (show ∀w9,Below w.heap.size w w9→w9.cell? ⟨xb,off+k / 64,none⟩=some (uv x) from fun w9 hb=>(hb.cell (p:=⟨xb,off+k / 64,none⟩) hxb).trans hcell);clear hx hxl hbit hcell HK hv h f1 f2 f3 hf hxb;go_enter Tryz.func216,Tryz.ntmps216;go_wp2_with fail;rw[show w.alloc (.cells #[.int .i64 s.width,.slice (some ⟨xb,off,none⟩) n c] 52)=W from HW.o];refine(Qpf HV.o _ _ HR.o).mono ?_;rintro e w1 ⟨rfl,b1⟩;have B1:=Zh (BB.o.trans (b1.mono BB.o.size));have L1:=Zh (Qc H0.o b1 (Qb H0.o));clear x0 x1 b1;have x0:=(Qa L1.o).1 0;have x1:=(Qa L1.o).1 1;simp only[Zx,Zy,Zz] at x0 x1;have gc:=HCE.o _ B1.o
 cases hb:x.testBit (k % 64)
 all_goals
  rw[hb] at sh;have HB:=Zh hb;clear hb;go_wp2;go_ret;exact⟨Qyb HB.o.symm,B1.o⟩
theorem QPj (s:QSet)(b:Int)(u:Value)(w:World)(h:Qi w u s.words):Calls Tryz.prog 139 #[setV s u,.int .i64 b] w (Qia (hasZ s b) w):=by
 obtain⟨a,c,rfl,hm,hc,hcm,hk⟩:=h.cell;obtain⟨n,hn⟩:=Ze s.words.length;obtain⟨W,hW⟩:=Ze (w.alloc (.cells #[.int .i64 s.width,.slice a n c] 52));have B0:Below w.heap.size w W:=by rw[←hW];exact Zb
 have HB0:W.heap[w.heap.size]? = some (.cells #[.int .i64 s.width,.slice a n c] 52 (0,0)):=by rw[←hW];exact heap_alloc_new _ _
 have x0:=(Qa HB0).1 0;have x1:=(Qa HB0).1 1;simp at x0 x1;rw[hn] at hm hc ⊢;have H0:=Zh HB0;have HW:=Zh hW;have BB:=Zh B0;have HN:=Zh hn;have HR:=Zh (show Qi W (.slice a n c) s.words by rw[←hn] at *;exact h.below B0);have HK:=Zh hk;have HOK:=Zh h.2;have hud:∀b:Bool,(undef=Value.bool b)=False:=fun b=>by simp[undef]
 unfold maxLen at hm;clear hW HB0 B0 hk hn;rcases Bool.eq_false_or_eq_true (setB s) with hv|hv
 rotate_left
 ·have HV:=Zh hv;rw[QMp hv b];clear hv;go_enter Tryz.func139,Tryz.ntmps139;go_wp2_with fail;rw[show w.alloc (.cells #[.int .i64 s.width,.slice a n c] 52)=W from HW.o];refine(QT HV.o _ _ HR.o).mono ?_;rintro e w1 ⟨rfl,b1⟩;have B1:=Zh (BB.o.trans (b1.mono BB.o.size));clear x0 x1 b1;go_wp2;go_ret;exact⟨rfl,B1.o⟩
 have HV:=Zh hv;have hf:=Zh (Qka (QBa hv h.2));by_cases h1:0≤b;rotate_left
 ·rw[QMm (by omega:b<0)];have d1:decide (0≤b)=false:=by simpa using h1
  clear hv h;go_enter Tryz.func139,Tryz.ntmps139;go_wp2_with fail;rw[show w.alloc (.cells #[.int .i64 s.width,.slice a n c] 52)=W from HW.o];refine(QT HV.o _ _ HR.o).mono ?_;rintro e w1 ⟨rfl,b1⟩;have B1:=Zh (BB.o.trans (b1.mono BB.o.size));have L1:=Zh (Qc H0.o b1 (Qb H0.o));clear x0 x1 b1;have x0:=(Qa L1.o).1 0;have x1:=(Qa L1.o).1 1;simp only[Zx,Zy,Zz] at x0 x1;go_wp2_with fail;refine(QUe (s:=s) (b:=false) (by rw[d1];rfl) a n c _).mono ?_;rintro e w2 ⟨rfl,b2⟩;have B2:=Zh (B1.o.trans (b2.mono B1.o.size));have L2:=Zh (Qc L1.o b2 (Qb L1.o));clear x0 x1 b2;have x0:=(Qa L2.o).1 0;have x1:=(Qa L2.o).1 1;simp only[Zx,Zy,Zz] at x0 x1;go_wp2;go_ret;exact⟨rfl,B2.o⟩
 by_cases h2:b<s.width;rotate_left
 ·rw[QNm (by omega:s.width≤b)];have d1:decide (0≤b)=true:=by simpa using h1
  have d2:decide (b<s.width)=false:=by simpa using h2
  clear hv h;go_enter Tryz.func139,Tryz.ntmps139;go_wp2_with fail;rw[show w.alloc (.cells #[.int .i64 s.width,.slice a n c] 52)=W from HW.o];refine(QT HV.o _ _ HR.o).mono ?_;rintro e w1 ⟨rfl,b1⟩;have B1:=Zh (BB.o.trans (b1.mono BB.o.size));have L1:=Zh (Qc H0.o b1 (Qb H0.o));clear x0 x1 b1;have x0:=(Qa L1.o).1 0;have x1:=(Qa L1.o).1 1;simp only[Zx,Zy,Zz] at x0 x1;go_wp2_with fail;refine(QUe (s:=s) (b:=false) (by rw[d1,d2];rfl) a n c _).mono ?_;rintro e w2 ⟨rfl,b2⟩;have B2:=Zh (B1.o.trans (b2.mono B1.o.size));have L2:=Zh (Qc L1.o b2 (Qb L1.o));clear x0 x1 b2;have x0:=(Qa L2.o).1 0;have x1:=(Qa L2.o).1 1;simp only[Zx,Zy,Zz] at x0 x1;go_wp2;go_ret;exact⟨rfl,B2.o⟩
 obtain⟨k,rfl⟩:=Int.eq_ofNat_of_zero_le h1;have d1:decide (0≤(k:Int))=true:=by simp
 have d2:decide ((k:Int)<s.width)=true:=by simpa using h2
 rw[QNp hv h2];obtain⟨m,f1,f2,f3⟩:=hf.o;have hkn:k / 64<n:=by have:=HN.o;unfold Qj at f3;omega
 have hn5:n≤5:=by have:=HN.o;unfold Qj at f3;omega
 have hk256:k<256:=by omega
 obtain⟨x,hx⟩:∃x,s.words[k / 64]? = some x:=⟨_,List.getElem?_eq_getElem (show k / 64<s.words.length by have:=HN.o;omega)⟩;obtain⟨xb,off,rfl,hxb,-,hcell⟩:=HK.o (k / 64) x hx;have hxl:x<18446744073709551616:=HOK.o x (List.mem_of_getElem? hx);have hbit:QE s.words k=x.testBit (k % 64):=by unfold QE;rw[List.getD_eq_getElem?_getD,hx];rfl
 have sh:=Qbj x (k % 64) hxl;have e1:0≤(k:Int) / 64:=by omega
 have e2:(k:Int) / 64<n:=by omega
 have e3:((k:Int) / 64).toNat=k / 64:=by omega
 have e4:0≤(k:Int) % 64:=by omega
 have e5:IntKind.u64.wrap ((k:Int) % 64)=(k:Int) % 64:=by rw[IntKind.wrap_u64];omega
 have e7:IntKind.u64.wrap (k:Int)=(k:Int):=by rw[IntKind.wrap_u64];omega
 have e6:((k:Int) % 64).toNat=k % 64:=by omega
 rw[hbit];have HX:=Zh hbit;have HCE:=Zh (show ∀w9,Below w.heap.size w w9→w9.cell? ⟨xb,off+k / 64,none⟩=some (uv x) from fun w9 hb=>(hb.cell (p:=⟨xb,off+k / 64,none⟩) hxb).trans hcell);clear hx hxl hbit hcell HK hv h f1 f2 f3 hf hxb;go_enter Tryz.func139,Tryz.ntmps139;go_wp2_with fail;rw[show w.alloc (.cells #[.int .i64 s.width,.slice (some ⟨xb,off,none⟩) n c] 52)=W from HW.o];refine(QT HV.o _ _ HR.o).mono ?_;rintro e w1 ⟨rfl,b1⟩;have B1:=Zh (BB.o.trans (b1.mono BB.o.size));have L1:=Zh (Qc H0.o b1 (Qb H0.o));clear x0 x1 b1;have x0:=(Qa L1.o).1 0;have x1:=(Qa L1.o).1 1;simp only[Zx,Zy,Zz] at x0 x1;go_wp2_with fail;refine(QUe (s:=s) (b:=true) (by rw[d1,d2];rfl) (some ⟨xb,off,none⟩) n c _).mono ?_;rintro e w2 ⟨rfl,b2⟩;have B2:=Zh (B1.o.trans (b2.mono B1.o.size));have L2:=Zh (Qc L1.o b2 (Qb L1.o));clear x0 x1 b2;have x0:=(Qa L2.o).1 0;have x1:=(Qa L2.o).1 1;simp only[Zx,Zy,Zz] at x0 x1;have gc:=HCE.o _ B2.o
 cases hb:x.testBit (k % 64)
 all_goals
  rw[hb] at sh;have HB:=Zh hb;clear hb;go_wp2;go_ret;exact⟨Qyb HB.o.symm,B2.o⟩
end
end Go.Proofs.YtijekimobahgpaaGreatDoor
